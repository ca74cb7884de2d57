/-
  What is proved here: what slices.Equal and Read of package block come to, at this seat's numbers. Conditions: the bytes' number.
-/
import Derived.Test.YtoccmedadiangaaBlockW9
namespace Go.Proofs.Ytoccmedadiangaa
open Go.RowKit

theorem same_at {a b : List UInt8} {k : Nat} (h1 : k < a.length) (h2 : k < b.length) (h : a.take k = b.take k) (he : a[k] = b[k]) : a.take (k + 1) = b.take (k + 1) := by
  rw [List.take_succ_eq_append_getElem h1, List.take_succ_eq_append_getElem h2, h, he]
set_option maxHeartbeats 1000000 in
theorem kEqual_any (u v : Value) (a b : List UInt8) (w : World) (hu : SB w w.heap.size u a) (hv : SB w w.heap.size v b) :
    Calls Try.prog 34 #[u, v] w fun e w' => e = .returned (.bool (decide (a = b))) ∧ Below w.heap.size w w' := by
  obtain ⟨A, c, rfl, hlc, hcm, hr⟩ := hu
  obtain ⟨A', c', rfl, hlc', hcm', hr'⟩ := hv
  have hcm2 : c ≤ 9223372036854775807 := by unfold maxLen at hcm; omega
  have hcm2' : c' ≤ 9223372036854775807 := by unfold maxLen at hcm'; omega
  clear hcm hcm'
  by_cases hlen : a.length = b.length
  · have HL := Lib.hid hlen
    have hl1 : ((a.length : Int) == (b.length : Int)) = true := by simp [hlen]
    clear hlen
    go_enter Try.func34, Try.ntmps34
    go_wp2
    clear hl1
    go_loopw [5, 13] (fun _ i wr => ∃ k : Nat, i = .int .i64 k ∧ k ≤ a.length ∧ Hid (a.take k = b.take k) ∧ Below w.heap.size w wr) (fun _ i _ => a.length - (intOf i).toNat)
    case atStart => exact ⟨0, rfl, Nat.zero_le _, Lib.hid (by simp), Below.refl _ _⟩
    case round =>
      obtain ⟨k, rfl, hk, hI, hb⟩ := hrel
      by_cases hlt : k < a.length
      · have hlt2 : k < b.length := by have := HL.out; omega
        obtain ⟨b1, o1, rfl, hb1, hc1⟩ := hr.at_ (by omega)
        obtain ⟨b2, o2, rfl, hb2, hc2⟩ := hr'.at_ (by omega)
        have d1 := (hb.cell (p := ⟨b1, o1 + k, none⟩) hb1).trans (hc1 k _ (bv_get a k hlt))
        have d2 := (hb.cell (p := ⟨b2, o2 + k, none⟩) hb2).trans (hc2 k _ (bv_get b k hlt2))
        clear hc1 hc2
        by_cases hx : a[k] = b[k]
        · have HN := Lib.hid (same_at hlt hlt2 hI.out hx)
          rw [← hx] at d2
          generalize a[k] = x at d1 d2
          go_upto_region 6 with fail
          go_quiet (fail)
          go_wp2_with fail
          go_roundw
          case rel => exact ⟨k + 1, by go_num, by omega, HN, bdrewN hb _⟩
          case measure => simp [intOf]; omega
        · have HN : Hid (decide (a = b) = false) := Lib.hid (by
            rw [decide_eq_false_iff_not]
            intro e
            exact hx (by simp only [e]))
          have hne : ((a[k].toNat : Int) == (b[k].toNat : Int)) = false := by
            rw [beq_eq_false_iff_ne]
            intro e
            exact hx (UInt8.toNat_inj.1 (by omega))
          clear hx
          generalize a[k] = x at d1 hne
          generalize b[k] = y at d2 hne
          go_upto_region 6 with fail
          go_quiet (fail)
          go_wp2_with fail
          go_ret
          exact ⟨by rw [HN.out]; rfl, bdrewN hb _⟩
      · have hka : k = a.length := by omega
        subst hka
        have HN : Hid (decide (a = b) = true) := Lib.hid (by
          have h := hI.out
          rw [List.take_length, HL.out, List.take_length] at h
          rw [decide_eq_true_eq]
          exact h)
        go_wp2_with fail
        go_ret
        exact ⟨by rw [HN.out]; rfl, hb⟩
  · have HN : Hid (decide (a = b) = false) := Lib.hid (by rw [decide_eq_false_iff_not]; intro e; exact hlen (by rw [e]))
    have hl1 : ((a.length : Int) == (b.length : Int)) = false := by rw [beq_eq_false_iff_ne]; omega
    clear hlen
    go_enter Try.func34, Try.ntmps34
    go_wp2
    go_ret
    exact ⟨by rw [HN.out]; rfl, Below.refl _ _⟩

theorem key_le {s : List UInt8} (h : isKey s = true) : s.length ≤ 1032 := by
  unfold isKey at h
  rw [Bool.and_eq_true, decide_eq_true_eq] at h
  have h2 := (rightE_le h.2).1
  have h3 : (takeE s).user.size = (s.take (s.length - 8)).length := by
    rw [← toList_size]
    rfl
  rw [h3, List.length_take] at h2
  omega
theorem sNum_bad {s t : List UInt8} {b n : Nat} (h : sNum (s, b) = (n, t, 0)) : b = 0 := by
  unfold sNum at h
  split at h
  · assumption
  · injection h with _ h
    injection h
theorem sNum_less {s t : List UInt8} {n : Nat} (h : sNum (s, 0) = (n, t, 0)) : t.length + 1 ≤ s.length := by
  unfold sNum at h
  rw [if_pos rfl] at h
  injection h with h1 h
  injection h with h2 h3
  have hn : number s = ((number s).1, (number s).2.1, 0) := by rw [← h3]
  have h4 := (number_back _ _ _ hn).1
  have h5 := num_pos (number s).1
  have h6 := number_le s
  rw [← h2, List.length_drop]
  simp only
  omega
theorem takeB1_le {s last : List UInt8} {e : Ent} {key r : List UInt8} (h : takeB1 (s, 0) last = some (e, key, r)) : key.length ≤ 1032 ∧ e.user.size ≤ 1024 ∧ e.value.size ≤ s.length ∧ r.length + 1 ≤ s.length := by
  obtain ⟨n1, s1, b1, e1⟩ : ∃ n1 s1 b1, sNum (s, 0) = (n1, s1, b1) := ⟨_, _, _, rfl⟩
  obtain ⟨n2, s2, b2, e2⟩ : ∃ n2 s2 b2, sNum (s1, b1) = (n2, s2, b2) := ⟨_, _, _, rfl⟩
  obtain ⟨n3, s3, b3, e3⟩ : ∃ n3 s3 b3, sNum (s2, b2) = (n3, s3, b3) := ⟨_, _, _, rfl⟩
  rw [takeB1_of e1 e2 e3] at h
  have l1 := sNum_len (s, 0)
  have l2 := sNum_len (s1, b1)
  have l3 := sNum_len (s2, b2)
  rw [e1] at l1
  rw [e2] at l2
  rw [e3] at l3
  dsimp only at l1 l2 l3
  split at h
  · cases h
  · rename_i hc
    split at h
    · rename_i hk
      injection h with h
      injection h with h4 h
      injection h with h5 h6
      subst h4 h5 h6
      have hkl := key_le hk
      refine ⟨hkl, ?_, ?_, ?_⟩
      · unfold isKey at hk
        rw [Bool.and_eq_true] at hk
        exact (rightE_le hk.2).1
      · rw [← toList_size]
        simp only [withV, List.length_take, List.length_drop]
        omega
      · have hb : b3 = 0 := by omega
        subst hb
        have z2 : b2 = 0 := sNum_bad e3
        subst z2
        have z1 : b1 = 0 := sNum_bad e2
        subst z1
        have q := sNum_less e1
        rw [List.length_drop]
        omega
    · cases h
end Go.Proofs.Ytoccmedadiangaa
