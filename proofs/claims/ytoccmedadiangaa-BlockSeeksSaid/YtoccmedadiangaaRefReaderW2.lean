/-
  What is proved here: what the reference's reader's Fix and Str come to, at this seat's numbers. Conditions: the bytes' length.
-/
import Derived.Test.YtoccmedadiangaaRefReaderW
namespace Go.Proofs.Ytoccmedadiangaa
open Go.RowKit

theorem u64_mul_add (n x : Nat) (h : n * 256 + x < 18446744073709551616) : IntKind.u64.wrap (IntKind.u64.wrap ((n : Int) * 256) + (x : Int)) = ((n * 256 + x : Nat) : Int) := by
  rw [IntKind.wrap_u64, IntKind.wrap_u64]; omega
theorem leN_cons (l : List UInt8) (j : Nat) (h : j < l.length) : leN (l.drop j) = leN (l.drop (j + 1)) * 256 + l[j].toNat := by
  rw [List.drop_eq_getElem_cons h, leN]; omega
theorem leN_drop_lt (l : List UInt8) (j : Nat) (h : l.length ≤ 8) (hj : 1 ≤ j) : leN (l.drop j) < 72057594037927936 := by
  have h1 := leN_lt (l.drop j)
  have h2 : (l.drop j).length ≤ 7 := by rw [List.length_drop]; omega
  have h3 : 256 ^ (l.drop j).length ≤ 256 ^ 7 := Nat.pow_le_pow_right (by omega) h2
  exact Nat.lt_of_lt_of_le (Nat.lt_of_lt_of_le h1 h3) (by decide)

set_option maxRecDepth 100000 in
set_option maxHeartbeats 4000000 in
theorem qFix_any (base R : Nat) (bs : List UInt8) (i bad : Nat) (many : Int) (w : World) (h : RefAt w base R bs i bad) (hbs : bs.length ≤ 140737488355328) (hmany : many ≤ 9223372036854775807) (hmany' : -9223372036854775808 ≤ many) :
    Calls Try.prog 54 #[.pointer (some ⟨R, 0, none⟩), .int .i64 many] w fun en w' => en = .returned (.int .u64 ((sFix many (bs.drop i, bad)).1 : Int)) ∧ (∃ i', RefAt w' base R bs i' (sFix many (bs.drop i, bad)).2.2 ∧ bs.drop i' = (sFix many (bs.drop i, bad)).2.1) ∧ w.grownBy w' (some R) := by
  have hfull := h
  obtain ⟨A, c, hh, hc, hm, hi, hb, hr⟩ := h
  obtain ⟨c0, c1, c2, f0, f1, f2⟩ := cells3 hh
  have hm' : c ≤ 9223372036854775807 := by unfold maxLen at hm; omega
  have hdl : (bs.drop i).length = bs.length - i := List.length_drop
  by_cases hbad : bad = 0
  · subst hbad
    have HFU := Lib.hid hfull
    clear hfull
    by_cases h1 : many < 0 ∨ 8 < many
    · have es : sFix many (bs.drop i, 0) = (0, bs.drop i, 1) := by simp [sFix, h1]
      rw [es]
      clear es
      by_cases h2 : many < 0
      · go_enter Try.func54, Try.ntmps54
        go_wp2_with (go_at_call 50; refine (qFail_any base R bs i 0 1 _ (by exact HFU.out)).mono ?_; rintro e w' ⟨rfl, hrq, hgq⟩)
        go_ret
        exact ⟨rfl, ⟨i, hrq, rfl⟩, hgq⟩
      · have h3 : 8 < many := by omega
        go_enter Try.func54, Try.ntmps54
        go_wp2_with (go_at_call 50; refine (qFail_any base R bs i 0 1 _ (by exact HFU.out)).mono ?_; rintro e w' ⟨rfl, hrq, hgq⟩)
        go_ret
        exact ⟨rfl, ⟨i, hrq, rfl⟩, hgq⟩
    · have h2 : 0 ≤ many := by omega
      have h3 : many ≤ 8 := by omega
      obtain ⟨m, rfl⟩ := Int.eq_ofNat_of_zero_le h2
      by_cases h4 : bs.length - i < m
      · have es : sFix (m : Int) (bs.drop i, 0) = (0, bs.drop i, 10) := by
          unfold sFix; rw [if_neg (by simp), if_neg h1, if_pos (by rw [hdl]; omega)]
        rw [es]
        clear es
        have h5 : decide ((bs.length : Int) - (i : Int) < (m : Int)) = true := by simp; omega
        go_enter Try.func54, Try.ntmps54
        go_wp2
        go_quiet (fail)
        go_wp2_with (go_at_call 50; refine (qFail_any base R bs i 0 10 _ (by exact HFU.out)).mono ?_; rintro e w' ⟨rfl, hrq, hgq⟩)
        go_ret
        exact ⟨rfl, ⟨i, hrq, rfl⟩, (gdrew _ _ _).trans hgq⟩
      · have es : sFix (m : Int) (bs.drop i, 0) = (leN ((bs.drop i).take m), (bs.drop i).drop m, 0) := by
          unfold sFix; rw [if_neg (by simp), if_neg h1, if_neg (by rw [hdl]; omega)]; rfl
        rw [es]
        clear es
        have h5 : decide ((bs.length : Int) - (i : Int) < (m : Int)) = false := by simp; omega
        obtain ⟨T, hT⟩ : ∃ T, T = (bs.drop i).take m := ⟨_, rfl⟩
        have hTl : T.length = m := by rw [hT, List.length_take]; omega
        have hget : ∀ j (hj : j < T.length), T[j] = bs[i + j]'(by omega) := fun j hj => by subst hT; simp
        rw [← hT]
        have hst : ∀ j (hj : j < m) (hj2 : i + j < bs.length), leN (T.drop j) = leN (T.drop (j + 1)) * 256 + (bs[i + j]'hj2).toNat := fun j hj hj2 => by
          rw [leN_cons T j (by omega), hget j (by omega)]
        have hbd : ∀ j, j ≤ m → leN (T.drop j) < 18446744073709551616 := fun j hj => by
          have h1 := leN_lt (T.drop j)
          have h2 : (T.drop j).length ≤ 8 := by rw [List.length_drop]; omega
          have h3 : 256 ^ (T.drop j).length ≤ 256 ^ 8 := Nat.pow_le_pow_right (by omega) h2
          exact Nat.lt_of_lt_of_le (Nat.lt_of_lt_of_le h1 h3) (by decide)
        have htop : leN (T.drop m) = 0 := by rw [List.drop_eq_nil_of_le (by omega)]; rfl
        obtain ⟨L, hL⟩ : ∃ L : Nat → Nat, L = fun j => leN (T.drop j) := ⟨_, rfl⟩
        have h0 : leN T = L 0 := by rw [hL]; rfl
        have HQ : Hid (L m = 0 ∧ (∀ j, j ≤ m → L j < 18446744073709551616) ∧ ∀ j (hj : j < m) (hj2 : i + j < bs.length), L j = L (j + 1) * 256 + (bs[i + j]'hj2).toNat) := by subst hL; exact Lib.hid ⟨htop, hbd, hst⟩
        rw [h0]
        clear h0 htop hbd hst hget hL hT hTl
        have hdd : (bs.drop i).drop m = bs.drop (i + m) := by rw [List.drop_drop]
        rw [hdd]
        clear hdd
        go_enter Try.func54, Try.ntmps54
        go_wp2
        go_quiet (fail)
        go_wp2
        go_loopw [5, 6] (fun nv jv wr => ∃ (z : Int) (n n' : Nat), jv = .int .i64 z ∧ nv = .int .u64 n ∧ wr = w.drewN n' ∧ -1 ≤ z ∧ z < m ∧ Hid (n = L (z + 1).toNat)) (fun _ jv _ => (intOf jv + 1).toNat)
        case atStart => exact ⟨(m : Int) - 1, 0, _, rfl, rfl, rfl, by omega, by omega, Lib.hid (by rw [show ((m : Int) - 1 + 1).toNat = m from by omega]; exact HQ.out.1.symm)⟩
        case round =>
          obtain ⟨z, n, n', rfl, rfl, rfl, hz1, hz2, hm3⟩ := hrel
          by_cases hz : 0 ≤ z
          · obtain ⟨q, rfl⟩ := Int.eq_ofNat_of_zero_le hz
            have hq : q < m := by omega
            have hq2 : i + q < bs.length := by omega
            obtain ⟨bl, o, rfl, hbl, hcell⟩ := hr.at_ (by omega)
            have dq := hcell (i + q) _ (bv_get bs (i + q) hq2)
            have hst := HQ.out.2.2 q hq hq2
            have hbq := HQ.out.2.1 q (by omega)
            rw [hst] at hbq
            have hme : n = L (q + 1) := by rw [hm3.out]; congr 1
            rw [← hme] at hst hbq
            obtain ⟨y, hyy⟩ : ∃ y, y = bs[i + q]'hq2 := ⟨_, rfl⟩
            rw [← hyy] at dq hst hbq
            have hy8 := u8_lt y
            have HS := Lib.hid hst
            clear hst hyy hme hcell
            have gi : IntKind.i64.wrap ((i : Int) + (q : Int)) = (i : Int) + (q : Int) := IntWalk.i64_in _ (by omega)
            have gn : IntKind.u64.wrap (IntKind.u64.wrap ((n : Int) * 256) + (y.toNat : Int)) = ((n * 256 + y.toNat : Nat) : Int) := by rw [IntKind.wrap_u64, IntKind.wrap_u64]; omega
            go_wp2
            go_quiet (fail)
            go_wp2
            go_roundw
            case rel => exact ⟨(q : Int) - 1, n * 256 + y.toNat, _, by go_num, by go_num, rfl, by omega, by omega, Lib.hid (by rw [show ((q : Int) - 1 + 1).toNat = q from by omega]; exact HS.out.symm)⟩
            case measure => simp [intOf] <;> omega
          · go_wp2
            go_ret
            refine ⟨ret_int ?_, ⟨i + m, ⟨_, c, ?_, hc, hm, by omega, hb, (hr.drewN n').setCell (by simpa using hb) _⟩, ?_⟩, (gdrew w n' _).trans (grown_set (p := ⟨R, 1, none⟩) _ rfl _)⟩
            · rw [hm3.out, show (z + 1).toNat = 0 from by omega]
            · rw [show ((i + m : Nat) : Int) = (i : Int) + (m : Int) from by omega]
              exact set31 (w := w.drewN n') hh
            · first | rfl | simp
  · have es : sFix many (bs.drop i, bad) = (0, bs.drop i, bad) := by simp [sFix, hbad]
    have hb' : (((bad : Int)) == 0) = false := by rw [beq_eq_false_iff_ne]; omega
    rw [es]
    go_enter Try.func54, Try.ntmps54
    go_wp2
    go_ret
    exact ⟨rfl, ⟨i, hfull, rfl⟩, gself _ _⟩
end Go.Proofs.Ytoccmedadiangaa
