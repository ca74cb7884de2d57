/-
  What is proved here: what the reference's reader comes to, at this seat's numbers. Conditions: the bytes' length.
-/
import Derived.Test.YtoccmedadiangaaReaderW
import Derived.Test.YtoccmedadiangaaRefReaderLaw
import Derived.BigQuiet
namespace Go.Proofs.Ytoccmedadiangaa
open Go.RowKit

/-- block R is the reference's reader: its bytes (below base), its place, its fault -/
def RefAt (w : World) (base R : Nat) (bs : List UInt8) (i bad : Nat) : Prop :=
  ∃ A c, w.heap[R]? = some (.cells #[.slice A bs.length c, .int .i64 (i : Int), .int .i64 (bad : Int)] 65 (0, 0)) ∧ bs.length ≤ c ∧ c ≤ maxLen ∧ i ≤ bs.length ∧ base ≤ R ∧ Rd w base 1 A bs.length (bv bs)
section
variable {w w' : World} {base R : Nat} {bs : List UInt8} {i bad : Nat}
theorem RefAt.lt (h : RefAt w base R bs i bad) : R < w.heap.size := by
  obtain ⟨A, c, h, _⟩ := h
  exact (Array.getElem?_eq_some_iff.1 h).1
theorem RefAt.far (h : RefAt w base R bs i bad) {g : Nat} (hg : w.grownBy w' (some g)) (hne : g ≠ R) (hb : base ≤ g) : RefAt w' base R bs i bad := by
  have hlt := h.lt
  obtain ⟨A, c, h1, h2, h3, h4, h5, h6⟩ := h
  refine ⟨A, c, (hg.block R hlt (fun e => by injection e with e; omega)).trans h1, h2, h3, h4, h5, h6.keep fun p hp => World.cell?_of_block (hg.block p.block (by omega) (fun e => by injection e with e; omega))⟩
theorem RefAt.drewN (h : RefAt w base R bs i bad) (k : Nat) : RefAt (w.drewN k) base R bs i bad := h
end
theorem cells3 {w : World} {R : Nat} {a b c : Value} {T : TypeId} (h : w.heap[R]? = some (.cells #[a, b, c] T (0, 0))) : w.cell? ⟨R, 0, none⟩ = some a ∧ w.cell? ⟨R, 1, none⟩ = some b ∧ w.cell? ⟨R, 2, none⟩ = some c ∧ w.frozen? ⟨R, 0, none⟩ = false ∧ w.frozen? ⟨R, 1, none⟩ = false ∧ w.frozen? ⟨R, 2, none⟩ = false := by
  refine ⟨cell_of_row w R 0 _ _ _ h, cell_of_row w R 1 _ _ _ h, cell_of_row w R 2 _ _ _ h, ?_, ?_, ?_⟩ <;> simp [World.frozen?, h]
theorem set31 {w : World} {R : Nat} {a b c u : Value} {T : TypeId} (h : w.heap[R]? = some (.cells #[a, b, c] T (0, 0))) : (w.setCell ⟨R, 1, none⟩ u).heap[R]? = some (.cells #[a, u, c] T (0, 0)) := by
  simp [World.setCell, Array.getElem?_modify, h]
theorem set32 {w : World} {R : Nat} {a b c u : Value} {T : TypeId} (h : w.heap[R]? = some (.cells #[a, b, c] T (0, 0))) : (w.setCell ⟨R, 2, none⟩ u).heap[R]? = some (.cells #[a, b, u] T (0, 0)) := by
  simp [World.setCell, Array.getElem?_modify, h]

theorem qFail_any (base R : Nat) (bs : List UInt8) (i bad : Nat) (e : Nat) (w : World) (h : RefAt w base R bs i bad) :
    Calls Try.prog 50 #[.pointer (some ⟨R, 0, none⟩), .int .i64 (e : Int)] w fun en w' => en = .returned (.tuple #[]) ∧ RefAt w' base R bs i e ∧ w.grownBy w' (some R) := by
  obtain ⟨A, c, hh, hc, hm, hi, hb, hr⟩ := h
  obtain ⟨c0, c1, c2, f0, f1, f2⟩ := cells3 hh
  go_enter Try.func50, Try.ntmps50
  go_wp2
  go_end0
  exact ⟨rfl, ⟨A, c, set32 hh, hc, hm, hi, hb, hr.setCell (by simpa using hb) _⟩, grown_set (p := ⟨R, 2, none⟩) _ rfl _⟩

theorem gdrew (w : World) (n : Nat) (row : Option Nat) : w.grownBy (w.drewN n) row := ⟨rfl, rfl, rfl, Nat.le_refl _, fun _ _ _ => rfl⟩
theorem drop_get (bs : List UInt8) (i k : Nat) (h : i + k < bs.length) : (bs.drop i)[k]'(by rw [List.length_drop]; omega) = bs[i + k] := by simp

set_option maxRecDepth 100000 in
set_option maxHeartbeats 4000000 in
theorem qNum_any (base R : Nat) (bs : List UInt8) (i bad : Nat) (w : World) (h : RefAt w base R bs i bad) (hbs : bs.length ≤ 140737488355328) :
    Calls Try.prog 35 #[.pointer (some ⟨R, 0, none⟩)] w fun en w' => en = .returned (.int .u64 ((sNum (bs.drop i, bad)).1 : Int)) ∧ (∃ i', RefAt w' base R bs i' (sNum (bs.drop i, bad)).2.2 ∧ bs.drop i' = (sNum (bs.drop i, bad)).2.1) ∧ w.grownBy w' (some R) := by
  have hfull := h
  obtain ⟨A, c, hh, hc, hm, hi, hb, hr⟩ := h
  obtain ⟨c0, c1, c2, f0, f1, f2⟩ := cells3 hh
  have hm' : c ≤ 9223372036854775807 := by unfold maxLen at hm; omega
  have hdl : (bs.drop i).length = bs.length - i := List.length_drop
  by_cases hbad : bad = 0
  · subst hbad
    have es : sNum (bs.drop i, 0) = ((number (bs.drop i)).1, (bs.drop i).drop (number (bs.drop i)).2.1, (number (bs.drop i)).2.2) := by simp [sNum]
    rw [es]
    clear es
    have HF : ∀ (n e : Nat), number (bs.drop i) = (0, 0, e) → RefAt (w.drewN n) base R bs i 0 ∧ (number (bs.drop i)).1 = 0 ∧ (bs.drop i).drop (number (bs.drop i)).2.1 = bs.drop i ∧ (number (bs.drop i)).2.2 = e := fun n e he => ⟨hfull.drewN n, by rw [he], by rw [he]; rfl, by rw [he]⟩
    have HFH := Lib.hid HF
    have HFU := Lib.hid hfull
    clear HF hfull
    go_enter Try.func35, Try.ntmps35
    go_wp2
    go_loopw [3] (fun kv wr => ∃ (k n : Nat), kv = .int .i64 k ∧ wr = w.drewN n ∧ k ≤ 10 ∧ i + k ≤ bs.length ∧ Hid (∀ j (hj : j < (bs.drop i).length), j < k → 128 ≤ (bs.drop i)[j].toNat)) (fun kv _ => 10 - (intOf kv).toNat)
    case atStart => exact ⟨0, 0, rfl, rfl, by omega, by omega, Lib.hid (fun j hj h0 => by omega)⟩
    case round =>
      obtain ⟨k, n, rfl, rfl, hk, hik, hl⟩ := hrel
      have gw : IntKind.i64.wrap ((i : Int) + (k : Int)) = (i : Int) + (k : Int) := IntWalk.i64_in _ (by omega)
      by_cases h1 : i + k < bs.length
      · have h1' : decide ((i : Int) + (k : Int) < (bs.length : Int)) = true := by simp; omega
        have h1'' : decide ((bs.length : Int) ≤ (i : Int) + (k : Int)) = false := by simp; omega
        by_cases h2 : k < 10
        · have h2' : decide ((k : Int) < 10) = true := by simp; omega
          obtain ⟨bl, o, rfl, hbl, hcell⟩ := hr.at_ (by omega)
          have d0 := hcell (i + k) _ (bv_get bs (i + k) h1)
          have hdg := drop_get bs i k h1
          obtain ⟨x, hx⟩ : ∃ x, x = bs[i + k] := ⟨_, rfl⟩
          rw [← hx] at d0 hdg
          have hx8 := u8_lt x
          have HX := Lib.hid hdg
          have HC := Lib.hid hcell
          clear hcell hx hdg
          by_cases h3 : 128 ≤ x.toNat
          · have h3' : decide (128 ≤ x.toNat) = true := by simp; omega
            go_wp2
            go_quiet (fail)
            go_wp2
            go_roundw
            case rel =>
              refine ⟨k + 1, _, by go_num, rfl, by omega, by omega, Lib.hid (fun j hj hjk => ?_)⟩
              rcases Nat.lt_or_ge j k with hjk' | hjk'
              · exact hl.out j hj hjk'
              · have e : j = k := by omega
                subst e
                rw [HX.out]; exact h3
            case measure => simp [intOf]; omega
          · have h3' : decide (128 ≤ x.toNat) = false := by simp; omega
            have hk10 : ((k : Int) == 10) = false := by rw [beq_eq_false_iff_ne]; omega
            have hlast := number_last (bs.drop i) k (by omega) (by omega) hl.out (by rw [HX.out]; omega)
            have hlt := last_lt (bs.drop i) k (by omega) (by omega) (by rw [HX.out]; omega)
            rw [HX.out] at hlast hlt
            have HL := Lib.hid (And.intro hlast hlt)
            clear hlast hlt
            go_wp2
            go_quiet (fail)
            go_wp2
            go_quiet (fail)
            go_wp2
            go_quiet (fail)
            by_cases hbl2 : (k = 9 ∧ 1 < x.toNat) ∨ (0 < k ∧ x.toNat = 0)
            · have hnum : number (bs.drop i) = (0, 0, 11) := by rw [HL.out.1, if_pos hbl2]
              have HN := Lib.hid hnum
              clear hnum
              by_cases hc1 : k = 9 ∧ 1 < x.toNat
              · have t1 : ((k : Int) == 9) = true := by rw [beq_iff_eq]; omega
                have t2 : decide ((1 : Int) < (x.toNat : Int)) = true := by simp; omega
                have g1 : 9 ≤ k ∧ 1 < x.toNat := by omega
                clear hc1 hbl2
                go_wp2_with (first | (go_at_call 50; refine (qFail_any base R bs i 0 11 _ (by exact HFU.out)).mono ?_; rintro e w' ⟨rfl, hrq, hgq⟩))
                (go_ret; rw [HN.out]; exact ⟨rfl, ⟨i, hrq, rfl⟩, (gdrew _ _ _).trans hgq⟩)
              · have t3 : decide (0 < k) = true := by simp; omega
                have t4 : ((x.toNat : Int) == 0) = true := by rw [beq_iff_eq]; omega
                have t2 : decide ((1 : Int) < (x.toNat : Int)) = false := by simp; omega
                have g1 : 0 < k ∧ x.toNat ≤ 0 := by omega
                clear hc1 hbl2
                by_cases hc2 : k = 9
                · have t1 : ((k : Int) == 9) = true := by rw [beq_iff_eq]; omega
                  clear hc2
                  go_wp2_with (first | (go_at_call 50; refine (qFail_any base R bs i 0 11 _ (by exact HFU.out)).mono ?_; rintro e w' ⟨rfl, hrq, hgq⟩))
                  (go_ret; rw [HN.out]; exact ⟨rfl, ⟨i, hrq, rfl⟩, (gdrew _ _ _).trans hgq⟩)
                · have t1 : ((k : Int) == 9) = false := by rw [beq_eq_false_iff_ne]; omega
                  go_wp2_with (first | (go_at_call 50; refine (qFail_any base R bs i 0 11 _ (by exact HFU.out)).mono ?_; rintro e w' ⟨rfl, hrq, hgq⟩))
                  (go_ret; rw [HN.out]; exact ⟨rfl, ⟨i, hrq, rfl⟩, (gdrew _ _ _).trans hgq⟩)
            · have hnum : number (bs.drop i) = (le128 ((bs.drop i).take k) + x.toNat * 128 ^ k, k + 1, 0) := by rw [HL.out.1, if_neg hbl2]
              have hlt := HL.out.2 (by omega)
              obtain ⟨T, hT⟩ : ∃ T, T = le128 ((bs.drop i).take k) + x.toNat * 128 ^ k := ⟨_, rfl⟩
              rw [← hT] at hnum hlt
              have HN := Lib.hid (And.intro hnum hT)
              clear hnum hT
              have hbl3 : ¬ (k = 9 ∧ 1 < x.toNat) := by omega
              have hbl4 : ¬ (0 < k ∧ x.toNat = 0) := by omega
              have hkl : ((bs.drop i).take k).length = k := by rw [List.length_take]; omega
              have hstart : x.toNat = acc128 ((bs.drop i).take k) x.toNat k := by
                have h := acc128_top ((bs.drop i).take k) x.toNat
                rw [hkl] at h
                exact h.symm
              have hT0 : T = acc128 ((bs.drop i).take k) x.toNat 0 := by rw [HN.out.2]; unfold acc128; rw [hkl]; simp
              have hbd : ∀ j, j ≤ k → acc128 ((bs.drop i).take k) x.toNat j < 18446744073709551616 := fun j hj => by
                have h := acc128_le ((bs.drop i).take k) x.toNat j (by omega)
                rw [hkl, ← HN.out.2] at h
                omega
              have hst : ∀ j (hj : j < k), acc128 ((bs.drop i).take k) x.toNat j = acc128 ((bs.drop i).take k) x.toNat (j + 1) * 128 + (bs[i + j]'(by omega)).toNat % 128 ∧ 128 ≤ (bs[i + j]'(by omega)).toNat := fun j hj => by
                have h := acc128_step ((bs.drop i).take k) x.toNat j (by omega)
                have e : ((bs.drop i).take k)[j]'(by omega) = bs[i + j]'(by omega) := by simp
                have h2 := hl.out j (by omega) hj
                rw [drop_get bs i j (by omega)] at h2
                rw [e] at h
                exact ⟨h, h2⟩
              obtain ⟨L, hL⟩ : ∃ L, L = acc128 ((bs.drop i).take k) x.toNat := ⟨_, rfl⟩
              rw [← hL] at hstart hT0 hbd hst
              have HQ := Lib.hid (And.intro hstart (And.intro hT0 (And.intro hbd hst)))
              clear hstart hT0 hbd hst hL
              have hcase : (9 ≤ k ∧ ((k : Int) == 9) = true ∧ decide ((1 : Int) < (x.toNat : Int)) = false ∧ decide (0 < k) = true ∧ ((x.toNat : Int) == 0) = false) ∨
                  (((k : Int) == 9) = false ∧ decide (0 < k) = true ∧ ((x.toNat : Int) == 0) = false) ∨ (((k : Int) == 9) = false ∧ decide (0 < k) = false) := by
                simp only [beq_iff_eq, beq_eq_false_iff_ne, decide_eq_true_eq, decide_eq_false_iff_not]
                omega
              rcases hcase with ⟨t0, t1, t2, t3, t4⟩ | ⟨t1, t3, t4⟩ | ⟨t1, t3⟩
              all_goals
                go_wp2
                go_loopw [5, 6] (fun nv jv wr => ∃ (z : Int) (m n' : Nat), jv = .int .i64 z ∧ nv = .int .u64 m ∧ wr = w.drewN n' ∧ -1 ≤ z ∧ z < k ∧ Hid (m = L (z + 1).toNat)) (fun _ jv _ => (intOf jv + 1).toNat)
                case atStart => exact ⟨(k : Int) - 1, x.toNat, _, rfl, rfl, rfl, by omega, by omega, Lib.hid (by rw [show ((k : Int) - 1 + 1).toNat = k from by omega]; exact HQ.out.1)⟩
                case round =>
                  obtain ⟨z, m, n', rfl, rfl, rfl, hz1, hz2, hm3⟩ := hrel
                  by_cases hz : 0 ≤ z
                  · obtain ⟨q, rfl⟩ := Int.eq_ofNat_of_zero_le hz
                    have hq : q < k := by omega
                    have dq := HC.out (i + q) _ (bv_get bs (i + q) (by omega))
                    obtain ⟨hst, hy⟩ := HQ.out.2.2.2 q hq
                    have hbq := HQ.out.2.2.1 q (by omega)
                    rw [hst] at hbq
                    have hme : m = L (q + 1) := by rw [hm3.out]; congr 1
                    rw [← hme] at hst hbq
                    obtain ⟨y, hyy⟩ : ∃ y, y = bs[i + q]'(by omega) := ⟨_, rfl⟩
                    rw [← hyy] at dq hst hy hbq
                    have hy8 := u8_lt y
                    have HS := Lib.hid hst
                    clear hst hyy hme
                    have gi : IntKind.i64.wrap ((i : Int) + (q : Int)) = (i : Int) + (q : Int) := IntWalk.i64_in _ (by omega)
                    have gb : IntKind.u8.wrap ((y.toNat : Int) - 128) = ((y.toNat - 128 : Nat) : Int) := by rw [IntKind.wrap_u8]; omega
                    have gn : IntKind.u64.wrap (IntKind.u64.wrap ((m : Int) * 128) + ((y.toNat - 128 : Nat) : Int)) = ((m * 128 + y.toNat % 128 : Nat) : Int) := by rw [IntKind.wrap_u64, IntKind.wrap_u64]; omega
                    go_wp2
                    go_quiet (fail)
                    go_wp2
                    go_roundw
                    case rel => exact ⟨(q : Int) - 1, m * 128 + y.toNat % 128, _, by go_num, by go_num, rfl, by omega, by omega, Lib.hid (by rw [show ((q : Int) - 1 + 1).toNat = q from by omega]; exact HS.out.symm)⟩
                    case measure => simp [intOf] <;> omega
                  · go_wp2
                    go_ret
                    rw [HN.out.1]
                    refine ⟨ret_int ?_, ⟨i + (k + 1), ⟨_, c, ?_, hc, hm, by omega, hb, (hr.drewN n').setCell (by simpa using hb) _⟩, ?_⟩, (gdrew w n' _).trans (grown_set (p := ⟨R, 1, none⟩) _ rfl _)⟩
                    · rw [hm3.out, HQ.out.2.1, show (z + 1).toNat = 0 from by omega]
                    · rw [show ((i + (k + 1) : Nat) : Int) = (i : Int) + (k : Int) + 1 from by omega]
                      exact set31 (w := w.drewN n') hh
                    · first | rfl | simp
        · have hnum : number (bs.drop i) = (0, 0, 11) := number_ten _ (by omega) (fun j hj hjk => hl.out j hj (by omega))
          have HN := Lib.hid hnum
          clear hnum
          have h2' : decide ((k : Int) < 10) = false := by simp; omega
          have tk : ((k : Int) == 10) = true := by rw [beq_iff_eq]; omega
          go_wp2
          go_quiet (fail)
          go_wp2_with (first | (go_at_call 50; refine (qFail_any base R bs i 0 11 _ (by exact HFU.out)).mono ?_; rintro e w' ⟨rfl, hrq, hgq⟩))
          (go_ret; rw [HN.out]; exact ⟨rfl, ⟨i, hrq, rfl⟩, (gdrew _ _ _).trans hgq⟩)
      · have h1' : decide ((i : Int) + (k : Int) < (bs.length : Int)) = false := by simp; omega
        have h1'' : decide ((bs.length : Int) ≤ (i : Int) + (k : Int)) = true := by simp; omega
        by_cases h2 : k = 10
        · have hnum : number (bs.drop i) = (0, 0, 11) := number_ten _ (by omega) (fun j hj hjk => hl.out j hj (by omega))
          have HN := Lib.hid hnum
          have tk : ((k : Int) == 10) = true := by rw [beq_iff_eq]; omega
          clear hnum h2
          go_wp2
          go_quiet (fail)
          go_wp2_with (first | (go_at_call 50; refine (qFail_any base R bs i 0 11 _ (by exact HFU.out)).mono ?_; rintro e w' ⟨rfl, hrq, hgq⟩))
          (go_ret; rw [HN.out]; exact ⟨rfl, ⟨i, hrq, rfl⟩, (gdrew _ _ _).trans hgq⟩)
        · have hnum : number (bs.drop i) = (0, 0, 10) := number_ends _ k (by omega) (by omega) (fun j hj hjk => hl.out j hj hjk)
          have HN := Lib.hid hnum
          have tk : ((k : Int) == 10) = false := by rw [beq_eq_false_iff_ne]; omega
          clear hnum
          go_wp2
          go_quiet (fail)
          go_wp2
          go_quiet (fail)
          go_wp2_with (first | (go_at_call 50; refine (qFail_any base R bs i 0 10 _ (by exact HFU.out)).mono ?_; rintro e w' ⟨rfl, hrq, hgq⟩))
          (go_ret; rw [HN.out]; exact ⟨rfl, ⟨i, hrq, rfl⟩, (gdrew _ _ _).trans hgq⟩)
  · have es : sNum (bs.drop i, bad) = (0, bs.drop i, bad) := by simp [sNum, hbad]
    have hb' : (((bad : Int)) == 0) = false := by rw [beq_eq_false_iff_ne]; omega
    rw [es]
    go_enter Try.func35, Try.ntmps35
    go_wp2
    go_ret
    exact ⟨rfl, ⟨i, hfull, rfl⟩, gself _ _⟩
end Go.Proofs.Ytoccmedadiangaa
