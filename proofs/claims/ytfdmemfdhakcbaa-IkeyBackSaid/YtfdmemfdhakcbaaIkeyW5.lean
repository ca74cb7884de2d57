/-
  What is proved here: what After of ikey and of the reference come to, at this seat's numbers. Conditions: the texts' lengths.
-/
import Derived.Test.YtfdmemfdhakcbaaIkeyW4
namespace Go.Proofs.Ytfdmemfdhakcbaa
open Go.RowKit

set_option maxRecDepth 100000 in
set_option maxHeartbeats 1000000 in
theorem iAfter_any (a : ByteArray) (w : World) (ha : a.size ≤ 140737488351232) :
    Calls Try.prog 21 #[.string a] w fun en w' => en = .returned (.string ⟨(after a.data.toList).toArray⟩) ∧ Below w.heap.size w w' := by
  have hsa := toList_size a
  have HA := Lib.hid hsa
  clear hsa
  go_enter Try.func21, Try.ntmps21
  go_wp2_with (refine wl_s2b (o := ⟨some 6, _, _, _, _, _⟩) rfl (.tmp 5) rfl a rfl (by simp only [maxLen]; omega) ?_; intro v2 w2 hs2 ho2 hb2 hz2; clear hz2 ho2; obtain ⟨A2, c2, rfl, hc2, hm2, hr2⟩ := hs2; have hc2' : c2 ≤ 9223372036854775807 := (by unfold maxLen at hm2; omega))
  have hll : a.data.toList.length ≤ 140737488351232 := by rw [HA.out]; exact ha
  go_loopw [8] (fun i wr => ∃ k n : Nat, i = .int .i64 k ∧ k ≤ a.data.toList.length ∧ wr = w2.drewN n ∧ Hid (k ≤ lowAt a.data.toList)) (fun i _ => a.data.toList.length - (intOf i).toNat)
  case atStart => exact ⟨0, 0, rfl, Nat.zero_le _, rfl, Nat.zero_le _⟩
  case round =>
    obtain ⟨k, n, rfl, hk, rfl, hp⟩ := hrel
    by_cases hlt : k < a.data.toList.length
    · obtain ⟨b, o, rfl, hb, hcell⟩ := hr2.at_ (by omega)
      have d0 := hcell k _ (bv_get a.data.toList k hlt)
      have hgo := lowAt_go a.data.toList k hp.out hlt
      have h1 : k < a.size := by rw [← HA.out]; exact hlt
      have ey0 : a[k] = a.data.toList[k] := (sget a k h1).symm
      obtain ⟨y, hy⟩ : ∃ y, y = a.data.toList[k] := ⟨_, rfl⟩
      rw [← hy] at hgo d0 ey0
      have HG := Lib.hid hgo
      have HY := Lib.hid hy
      have HEY := Lib.hid ey0
      have hy8 := u8_lt y
      clear hgo hy hcell ey0
      by_cases hy5 : y.toNat = 255
      · have t1 : ((y.toNat : Int) != 255) = false := by rw [bne_eq_false_iff_eq]; omega
        have HY5 := Lib.hid hy5
        clear hy5
        go_wp2
        go_roundw
        case rel => exact ⟨k + 1, _, by go_num, by omega, rfl, HG.out.1 HY5.out⟩
        case measure => simp [intOf]; omega
      · have t1 : ((y.toNat : Int) != 255) = true := by rw [bne_iff_ne]; omega
        have hbu := byteUp y (by omega)
        have hre := raise_eq a k h1 y HEY.out
        have HLK := Lib.hid (HG.out.2 hy5)
        have h1' : k ≤ a.size := by omega
        obtain ⟨x, hx⟩ : ∃ x, x = UInt8.ofNat (y.toNat + 1) := ⟨_, rfl⟩
        obtain ⟨sv, hsv⟩ : ∃ sv : ByteArray, sv = ⟨(raise a.data.toList k).toArray⟩ := ⟨_, rfl⟩
        rw [← hx] at hbu hre
        rw [← hsv] at hre
        have HSV := Lib.hid hsv
        have f1 : ¬ 9223372036854775807 < k + 1 := by omega
        clear hx hsv
        go_wp2
        refine wp_region_noPanic ?_
        refine wp_region_held_drew (S := fun _ => True) (by kernel_rfl) trivial (fun hHeld => ?_)
        refine reg_take 0 (v := ?_) (by rfl) (by kernel_rfl) (by kernel_rfl) (by kernel_rfl) (fun _ _ _ h => h) (by rfl) ?_ (by assumption) ?_
        rotate_left
        · (intro wq hSq; (try dsimp only at hSq); go_split_ands; go_simp; (try with_reducible rfl))
        try simp only [Act.put, List.setIfInBounds_toArray, List.set_cons_zero, List.set_cons_succ]
        refine reg_take 1 (v := ?_) (by rfl) (by kernel_rfl) (by kernel_rfl) (by kernel_rfl) (fun _ _ _ h => h) (by rfl) ?_ (by assumption) ?_
        rotate_left
        · (intro wq hSq; (try dsimp only at hSq); go_split_ands; go_simp; (try with_reducible rfl))
        try simp only [Act.put, List.setIfInBounds_toArray, List.set_cons_zero, List.set_cons_succ]
        refine reg_take 2 (v := ?_) (by rfl) (by kernel_rfl) (by kernel_rfl) (by kernel_rfl) (fun _ _ _ h => h) (by rfl) ?_ (by assumption) ?_
        rotate_left
        · (intro wq hSq; (try dsimp only at hSq); go_split_ands; go_simp; (try with_reducible rfl))
        try simp only [Act.put, List.setIfInBounds_toArray, List.set_cons_zero, List.set_cons_succ]
        refine reg_take 3 (v := ?_) (by rfl) (by kernel_rfl) (by kernel_rfl) (by kernel_rfl) (fun _ _ _ h => h) (by rfl) ?_ (by assumption) ?_
        rotate_left
        · (intro wq hSq; (try dsimp only at hSq); go_split_ands; go_simp; (try with_reducible rfl))
        try simp only [Act.put, List.setIfInBounds_toArray, List.set_cons_zero, List.set_cons_succ]
        refine reg_take 4 (v := ?_) (by rfl) (by kernel_rfl) (by kernel_rfl) (by kernel_rfl) (fun _ _ _ h => h) (by rfl) ?_ (by assumption) ?_
        rotate_left
        · (intro wq hSq; (try dsimp only at hSq); go_split_ands; go_simp; (try with_reducible rfl))
        try simp only [Act.put, List.setIfInBounds_toArray, List.set_cons_zero, List.set_cons_succ]
        refine reg_one 5 (by rfl) (by kernel_rfl) (by rfl) (fun K hK => ?_)
        (go_simp)
        refine hK.out _ _ ?_ (fun hHeld => ?_)
        · trivial
        clear hK K
        try simp only [Act.put, List.setIfInBounds_toArray, List.set_cons_zero, List.set_cons_succ]
        refine reg_add (fun w' => (convert 45 9 (.slice (some ⟨w2.heap.size, 0, none⟩) 1 1)).run Try.prog w' = .ok (.string ⟨[x].toArray⟩) w') (by assumption) (run_b2s _ _ (w2.heap.size + 1) [x] (SB.newAt x rfl (by simp))) (fun hHeld => ?_)
        refine reg_take 6 (v := ?_) (by rfl) (by kernel_rfl) (by kernel_rfl) (by kernel_rfl) (fun _ _ _ h => h) (by rfl) ?_ (by assumption) ?_
        rotate_left
        · (intro wq hSq; (try dsimp only at hSq); go_split_ands; go_simp; (try with_reducible rfl))
        try simp only [Act.put, List.setIfInBounds_toArray, List.set_cons_zero, List.set_cons_succ]
        refine reg_take 7 (v := ?_) (by rfl) (by kernel_rfl) (by kernel_rfl) (by kernel_rfl) (fun _ _ _ h => h) (by rfl) ?_ (by assumption) ?_
        rotate_left
        · (intro wq hSq; (try dsimp only at hSq); go_split_ands; go_simp; (try with_reducible rfl))
        try simp only [Act.put, List.setIfInBounds_toArray, List.set_cons_zero, List.set_cons_succ]
        refine reg_take 8 (v := ?_) (by rfl) (by kernel_rfl) (by kernel_rfl) (by kernel_rfl) (fun _ _ _ h => h) (by rfl) ?_ (by assumption) ?_
        rotate_left
        · (intro wq hSq; (try dsimp only at hSq); go_split_ands; go_simp; (try with_reducible rfl))
        try simp only [Act.put, List.setIfInBounds_toArray, List.set_cons_zero, List.set_cons_succ]
        refine wpAnyH_done (by kernel_rfl) (noPanic_mk ?_) _
        go_wp2
        go_ret
        refine ⟨ret_str ?_, hb2.trans (balloc (bdrew (brefl w2 n)) _ |>.mono hb2.size)⟩
        rw [HSV.out]
        unfold after
        rw [HLK.out, if_pos hlt]
    · have hl := lowAt_le a.data.toList
      have HL := Lib.hid hl
      clear hl
      go_wp2
      go_ret
      refine ⟨ret_str ?_, hb2.trans (brefl w2 n |>.mono hb2.size)⟩
      unfold after
      rw [if_neg (by have := HL.out; have := hp.out; omega)]

set_option maxRecDepth 100000 in
set_option maxHeartbeats 1000000 in
theorem rAfter_any (a : ByteArray) (w : World) (ha : a.size ≤ 140737488351232) :
    Calls Try.prog 22 #[.string a] w fun en w' => en = .returned (.string ⟨(after a.data.toList).toArray⟩) ∧ Below w.heap.size w w' := by
  have hsa := toList_size a
  have HA := Lib.hid hsa
  clear hsa
  go_enter Try.func22, Try.ntmps22
  go_wp2
  go_loop [3] (fun i => ∃ k : Nat, i = .int .i64 k ∧ k ≤ a.size ∧ Hid (k ≤ lowAt a.data.toList)) (fun i => a.size - (intOf i).toNat)
  case atStart => exact ⟨0, rfl, Nat.zero_le _, Nat.zero_le _⟩
  case round =>
    obtain ⟨k, rfl, hk, hp⟩ := hrel
    by_cases hlt : k < a.size
    · have hgo := lowAt_go a.data.toList k hp.out (by rw [HA.out]; exact hlt)
      rw [sget a k hlt] at hgo
      obtain ⟨y, hy⟩ : ∃ y, y = a[k] := ⟨_, rfl⟩
      rw [← hy] at hgo
      have HG := Lib.hid hgo
      have ey := hy.symm
      have hy8 := u8_lt y
      clear hgo hy
      by_cases hy5 : y.toNat = 255
      · have t1 : decide ((y.toNat : Int) < 255) = false := by simp; omega
        have HY5 := Lib.hid hy5
        clear hy5
        go_wp2
        go_round
        case rel => exact ⟨k + 1, by go_num, by omega, HG.out.1 HY5.out⟩
        case measure => simp [intOf]; omega
      · have t1 : decide ((y.toNat : Int) < 255) = true := by simp; omega
        have hbu := byteUp y (by omega)
        have hre := raise_eq a k hlt y ey
        have HLK := Lib.hid (HG.out.2 hy5)
        have h1' : k ≤ a.size := by omega
        obtain ⟨x, hx⟩ : ∃ x, x = UInt8.ofNat (y.toNat + 1) := ⟨_, rfl⟩
        obtain ⟨sv, hsv⟩ : ∃ sv : ByteArray, sv = ⟨(raise a.data.toList k).toArray⟩ := ⟨_, rfl⟩
        rw [← hx] at hbu hre
        rw [← hsv] at hre
        have HSV := Lib.hid hsv
        have f1 : ¬ 9223372036854775807 < k + 1 := by omega
        clear hx hsv
        go_wp2
        refine wp_region_noPanic ?_
        refine wp_region_held_drew (S := fun _ => True) (by kernel_rfl) trivial (fun hHeld => ?_)
        refine reg_take 0 (v := ?_) (by rfl) (by kernel_rfl) (by kernel_rfl) (by kernel_rfl) (fun _ _ _ h => h) (by rfl) ?_ (by assumption) ?_
        rotate_left
        · (intro wq hSq; (try dsimp only at hSq); go_split_ands; go_simp; (try with_reducible rfl))
        try simp only [Act.put, List.setIfInBounds_toArray, List.set_cons_zero, List.set_cons_succ]
        refine reg_take 1 (v := ?_) (by rfl) (by kernel_rfl) (by kernel_rfl) (by kernel_rfl) (fun _ _ _ h => h) (by rfl) ?_ (by assumption) ?_
        rotate_left
        · (intro wq hSq; (try dsimp only at hSq); go_split_ands; go_simp; (try with_reducible rfl))
        try simp only [Act.put, List.setIfInBounds_toArray, List.set_cons_zero, List.set_cons_succ]
        refine reg_take 2 (v := ?_) (by rfl) (by kernel_rfl) (by kernel_rfl) (by kernel_rfl) (fun _ _ _ h => h) (by rfl) ?_ (by assumption) ?_
        rotate_left
        · (intro wq hSq; (try dsimp only at hSq); go_split_ands; go_simp; (try with_reducible rfl))
        try simp only [Act.put, List.setIfInBounds_toArray, List.set_cons_zero, List.set_cons_succ]
        refine reg_take 3 (v := ?_) (by rfl) (by kernel_rfl) (by kernel_rfl) (by kernel_rfl) (fun _ _ _ h => h) (by rfl) ?_ (by assumption) ?_
        rotate_left
        · (intro wq hSq; (try dsimp only at hSq); go_split_ands; go_simp; (try with_reducible rfl))
        try simp only [Act.put, List.setIfInBounds_toArray, List.set_cons_zero, List.set_cons_succ]
        refine reg_take 4 (v := ?_) (by rfl) (by kernel_rfl) (by kernel_rfl) (by kernel_rfl) (fun _ _ _ h => h) (by rfl) ?_ (by assumption) ?_
        rotate_left
        · (intro wq hSq; (try dsimp only at hSq); go_split_ands; go_simp; (try with_reducible rfl))
        try simp only [Act.put, List.setIfInBounds_toArray, List.set_cons_zero, List.set_cons_succ]
        refine reg_take 5 (v := ?_) (by rfl) (by kernel_rfl) (by kernel_rfl) (by kernel_rfl) (fun _ _ _ h => h) (by rfl) ?_ (by assumption) ?_
        rotate_left
        · (intro wq hSq; (try dsimp only at hSq); go_split_ands; go_simp; (try with_reducible rfl))
        try simp only [Act.put, List.setIfInBounds_toArray, List.set_cons_zero, List.set_cons_succ]
        refine reg_take 6 (v := ?_) (by rfl) (by kernel_rfl) (by kernel_rfl) (by kernel_rfl) (fun _ _ _ h => h) (by rfl) ?_ (by assumption) ?_
        rotate_left
        · (intro wq hSq; (try dsimp only at hSq); go_split_ands; go_simp; (try with_reducible rfl))
        try simp only [Act.put, List.setIfInBounds_toArray, List.set_cons_zero, List.set_cons_succ]
        refine reg_one 7 (by rfl) (by kernel_rfl) (by rfl) (fun K hK => ?_)
        (go_simp)
        refine hK.out _ _ ?_ (fun hHeld => ?_)
        · trivial
        clear hK K
        try simp only [Act.put, List.setIfInBounds_toArray, List.set_cons_zero, List.set_cons_succ]
        refine reg_add (fun w' => (convert 45 9 (.slice (some ⟨w.heap.size, 0, none⟩) 1 1)).run Try.prog w' = .ok (.string ⟨[x].toArray⟩) w') (by assumption) (run_b2s _ _ (w.heap.size + 1) [x] (SB.newAt x rfl (by simp))) (fun hHeld => ?_)
        refine reg_take 8 (v := ?_) (by rfl) (by kernel_rfl) (by kernel_rfl) (by kernel_rfl) (fun _ _ _ h => h) (by rfl) ?_ (by assumption) ?_
        rotate_left
        · (intro wq hSq; (try dsimp only at hSq); go_split_ands; go_simp; (try with_reducible rfl))
        try simp only [Act.put, List.setIfInBounds_toArray, List.set_cons_zero, List.set_cons_succ]
        refine reg_take 9 (v := ?_) (by rfl) (by kernel_rfl) (by kernel_rfl) (by kernel_rfl) (fun _ _ _ h => h) (by rfl) ?_ (by assumption) ?_
        rotate_left
        · (intro wq hSq; (try dsimp only at hSq); go_split_ands; go_simp; (try with_reducible rfl))
        try simp only [Act.put, List.setIfInBounds_toArray, List.set_cons_zero, List.set_cons_succ]
        refine reg_take 10 (v := ?_) (by rfl) (by kernel_rfl) (by kernel_rfl) (by kernel_rfl) (fun _ _ _ h => h) (by rfl) ?_ (by assumption) ?_
        rotate_left
        · (intro wq hSq; (try dsimp only at hSq); go_split_ands; go_simp; (try with_reducible rfl))
        try simp only [Act.put, List.setIfInBounds_toArray, List.set_cons_zero, List.set_cons_succ]
        refine wpAnyH_done (by kernel_rfl) (noPanic_mk ?_) _
        go_wp2
        go_ret
        refine ⟨ret_str ?_, balloc (bdrew (bself w)) _⟩
        rw [HSV.out]
        unfold after
        rw [HLK.out, if_pos (by rw [HA.out]; exact hlt)]
    · have hl := lowAt_le a.data.toList
      rw [HA.out] at hl
      have HL := Lib.hid hl
      clear hl
      go_wp2
      go_ret
      refine ⟨ret_str ?_, bself w⟩
      unfold after
      rw [if_neg (by have := HL.out; have := hp.out; have := HA.out; omega)]
end Go.Proofs.Ytfdmemfdhakcbaa
