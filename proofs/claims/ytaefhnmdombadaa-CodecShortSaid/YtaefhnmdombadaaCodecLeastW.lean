/-
  What is proved here: the call of the statement CodecLeast returns true and turns nothing that was there. Conditions: the length.
-/
import Derived.Test.YtaefhnmdombadaaShown01
import Derived.Test.YtaefhnmdombadaaRegion
namespace Go.Proofs.Ytaefhnmdombadaa
open Go.RowKit

theorem nil_num (n : Nat) (W : World) (hn : n < 18446744073709551616) : Calls Try.prog 10 #[.slice none 0 0, .int .u64 (n : Int)] W fun e w' => ∃ A c, e = .returned (.slice A (num n).length c) ∧ SB w' w'.heap.size (.slice A (num n).length c) (num n) ∧ Below W.heap.size W w' :=
  (cNum_any _ [] n W (SB.nil_ _ _) (by simp) hn).mono fun e w' ⟨r, he, ho, hb⟩ => by
    obtain ⟨A, c, rfl, h1, h2, h3⟩ := ho.sb
    exact ⟨A, c, he, ⟨A, c, rfl, h1, h2, h3⟩, hb⟩

set_option maxHeartbeats 1000000 in
theorem codecLeast_lt (v : Value) (b : List UInt8) (m n : Nat) (w : World) (hv : SB w w.heap.size v b) (hb : b.length ≤ 140737488355328) (hm : m < 18446744073709551616) (hn : n < 18446744073709551616) (h : n < m) :
    Calls Try.prog 6 #[v, .int .u64 m, .int .u64 n] w fun e w' => e = .returned (.bool true) ∧ Below w.heap.size w w' := by
  have hle := num_mono n m (by omega)
  have hdec : decide ((num m).length < (num n).length) = false := by simp <;> omega
  go_enter Try.func6, Try.ntmps6
  go_wp2_with fail
  refine (shown_any w).mono ?_
  rintro e w1 ⟨rfl, hb1⟩
  go_wp2_with fail
  refine (nil_num n w1 hn).mono ?_
  rintro e w2 ⟨A2, c2, rfl, hs2, hb2⟩
  have hb2' := bstep hb1 hb2
  go_wp2_with fail
  refine (nil_num m w2 hm).mono ?_
  rintro e w3 ⟨A3, c3, rfl, hs3, hb3⟩
  have hb3' := bstep hb2' hb3
  go_wp2_with fail
  refine (cNew_any v b w3 (hv.on hb3') hb).mono ?_
  rintro e w4 ⟨R, rfl, hR, hrd, hb4⟩
  have hb4' := bstep hb3' hb4
  have hRw : w.heap.size ≤ R := Nat.le_trans hb3'.size hR
  obtain ⟨x, k, f, hnum⟩ : ∃ x k f, number b = (x, k, f) := ⟨_, _, _, rfl⟩
  have es : sNum (b, 0) = (x, b.drop k, f) := by simp [sNum, hnum]
  have hcall := mNum_any R b 0 w4 hrd.at_
  rw [es] at hcall
  have hkl := number_le b
  have hxl := number_lt b
  rw [hnum] at hkl hxl
  simp only at hkl hxl
  go_wp2_with fail
  refine hcall.mono ?_
  rintro e w5 ⟨rfl, hrd5, hg5⟩
  have hb5 : Below w.heap.size w w5 := hb4'.trans (gbelow hg5 (Nat.le_of_lt hrd.at_.lt) hRw)
  have hv5 := hv.on hb5
  have hback := number_back b
  have hbadc : f ≠ 0 → x = 0 ∧ k = 0 := by
    intro hf
    rcases numG_e b 0 0 with h1 | h1 | h1
    · unfold number at hnum; rw [hnum] at h1; exact absurd h1 hf
    · unfold number at hnum; rw [hnum] at h1; simp only [Prod.mk.injEq] at h1; exact ⟨h1.1, h1.2.1⟩
    · unfold number at hnum; rw [hnum] at h1; simp only [Prod.mk.injEq] at h1; exact ⟨h1.1, h1.2.1⟩
  clear hcall
  obtain ⟨A, c, rfl, hlc, hcm, hr⟩ := hv5
  have hcm' : c ≤ 9223372036854775807 := by unfold maxLen at hcm; omega
  by_cases hf : f = 0
  · subst hf
    obtain ⟨hk1, hk2⟩ := hback x k hnum
    have hk0 : 1 ≤ k := by have := num_length x; omega
    obtain ⟨bl, o, rfl, hbl, hcell⟩ := hr.at_ (by omega)
    have e1 : ((b.length : Int) - ((b.length - k : Nat) : Int)) = (k : Int) := by omega
    have hcut : SB w5 w5.heap.size (.slice (some ⟨bl, o, none⟩) k c) (num x) := by
      rw [← hk2]
      refine ⟨_, c, by rw [List.length_take]; congr 1; omega, by rw [List.length_take]; omega, hcm, ?_⟩
      have := hr.take hkl
      rw [Nat.mul_one, ← bv_take] at this
      have e3 : (b.take k).length = k := by rw [List.length_take]; omega
      rw [e3]; exact this
    have keepS : ∀ W, Below w5.heap.size w5 W → ((convert 22 9 (.slice (some ⟨bl, o, none⟩) k c)).run Try.prog W = .ok (.string ⟨(num x).toArray⟩) W ∧ Below w5.heap.size w5 W) := fun W hW =>
      ⟨run_b2s W _ _ _ (hcut.below hW), hW⟩
    have KS := Lib.hid keepS
    have HN := Lib.hid (And.intro hnum (And.intro hk1 hk2))
    clear keepS hcut hnum hk1 hk2 hback hbadc hcell
    go_wp2_with (first
      | (go_at_call 24; refine (mFault_any R _ _ _ (by assumption)).mono ?_; rintro e w6 ⟨rfl, rfl⟩)
      | (go_at_call 23; refine (mLeft_any R _ _ _ (by assumption)).mono ?_; rintro e w6 ⟨rfl, rfl⟩))
    clear e1
    have g1 : decide (0 < k) = true := by simp; omega
    have g2 : decide (k ≤ b.length) = true := by simp; omega
    have g3 : k ≤ c := by omega
    have g4 : ¬ c = 0 := by omega
    have g5 : (Addr.add ⟨bl, o, none⟩ 0) = ⟨bl, o, none⟩ := by simp [Addr.add]
    refine wp_region_noPanic ?_
    refine wp_region_held_drew (S := fun w' => (convert 22 9 (.slice (some ⟨bl, o, none⟩) k c)).run Try.prog w' = .ok (.string ⟨(num x).toArray⟩) w' ∧ Below w6.heap.size w6 w') (by kernel_rfl) (KS.out _ (Below.refl _ _).drew) (fun hHeld => ?_)
    refine reg_take 0 (v := ?_) (by rfl) (by kernel_rfl) (by kernel_rfl) (by kernel_rfl) (fun _ _ _ h => h) (by rfl) ?_ (by assumption) ?_
    rotate_left
    · (intro wq hSq; (try dsimp only at hSq); go_split_ands; go_simp; (try with_reducible rfl))
    try simp only [Act.put, List.setIfInBounds_toArray, List.set_cons_zero, List.set_cons_succ]
    refine reg_take 1 (v := ?_) (by rfl) (by kernel_rfl) (by kernel_rfl) (by kernel_rfl) (fun _ _ _ h => h) (by rfl) ?_ (by assumption) ?_
    rotate_left
    · (intro wq hSq; (try dsimp only at hSq); go_split_ands; go_simp; (try with_reducible rfl))
    try simp only [Act.put, List.setIfInBounds_toArray, List.set_cons_zero, List.set_cons_succ]
    refine reg_take 2 (v := ?_) (by rfl) (by kernel_rfl) (by kernel_rfl) (by kernel_rfl) (fun _ _ _ h => h) (by rfl) ?_ (by assumption) ?_
    rotate_left
    · (intro wq hSq; (try dsimp only at hSq); go_split_ands; go_simp; (try with_reducible rfl))
    try simp only [Act.put, List.setIfInBounds_toArray, List.set_cons_zero, List.set_cons_succ]
    refine reg_take 3 (v := ?_) (by rfl) (by kernel_rfl) (by kernel_rfl) (by kernel_rfl) (fun _ _ _ h => h) (by rfl) ?_ (by assumption) ?_
    rotate_left
    · (intro wq hSq; (try dsimp only at hSq); go_split_ands; go_simp; (try with_reducible rfl))
    try simp only [Act.put, List.setIfInBounds_toArray, List.set_cons_zero, List.set_cons_succ]
    refine reg_take 4 (v := ?_) (by rfl) (by kernel_rfl) (by kernel_rfl) (by kernel_rfl) (fun _ _ _ h => h) (by rfl) ?_ (by assumption) ?_
    rotate_left
    · (intro wq hSq; (try dsimp only at hSq); go_split_ands; go_simp; (try with_reducible rfl))
    try simp only [Act.put, List.setIfInBounds_toArray, List.set_cons_zero, List.set_cons_succ]
    refine reg_take 5 (v := ?_) (by rfl) (by kernel_rfl) (by kernel_rfl) (by kernel_rfl) (fun _ _ _ h => h) (by rfl) ?_ (by assumption) ?_
    rotate_left
    · (intro wq hSq; (try dsimp only at hSq); go_split_ands; go_simp; (try with_reducible rfl))
    try simp only [Act.put, List.setIfInBounds_toArray, List.set_cons_zero, List.set_cons_succ]
    refine reg_take 6 (v := ?_) (by rfl) (by kernel_rfl) (by kernel_rfl) (by kernel_rfl) (fun _ _ _ h => h) (by rfl) ?_ (by assumption) ?_
    rotate_left
    · (intro wq hSq; (try dsimp only at hSq); go_split_ands; go_simp; (try with_reducible rfl))
    try simp only [Act.put, List.setIfInBounds_toArray, List.set_cons_zero, List.set_cons_succ]
    refine reg_take 7 (v := ?_) (by rfl) (by kernel_rfl) (by kernel_rfl) (by kernel_rfl) (fun _ _ _ h => h) (by rfl) ?_ (by assumption) ?_
    rotate_left
    · (intro wq hSq; (try dsimp only at hSq); go_split_ands; go_simp; (try with_reducible rfl))
    try simp only [Act.put, List.setIfInBounds_toArray, List.set_cons_zero, List.set_cons_succ]
    refine reg_take 8 (v := ?_) (by rfl) (by kernel_rfl) (by kernel_rfl) (by kernel_rfl) (fun _ _ _ h => h) (by rfl) ?_ (by assumption) ?_
    rotate_left
    · (intro wq hSq; (try dsimp only at hSq); go_split_ands; go_simp; (try with_reducible rfl))
    try simp only [Act.put, List.setIfInBounds_toArray, List.set_cons_zero, List.set_cons_succ]
    refine reg_take 9 (v := ?_) (by rfl) (by kernel_rfl) (by kernel_rfl) (by kernel_rfl) (fun _ _ _ h => h) (by rfl) ?_ (by assumption) ?_
    rotate_left
    · (intro wq hSq; (try dsimp only at hSq); go_split_ands; go_simp; (try with_reducible rfl))
    try simp only [Act.put, List.setIfInBounds_toArray, List.set_cons_zero, List.set_cons_succ]
    refine reg_take 10 (v := ?_) (by rfl) (by kernel_rfl) (by kernel_rfl) (by kernel_rfl) (fun _ _ _ h => h) (by rfl) ?_ (by assumption) ?_
    rotate_left
    · (intro wq hSq; (try dsimp only at hSq); go_split_ands; go_simp; (try with_reducible rfl))
    try simp only [Act.put, List.setIfInBounds_toArray, List.set_cons_zero, List.set_cons_succ]
    refine reg_take 11 (v := ?_) (by rfl) (by kernel_rfl) (by kernel_rfl) (by kernel_rfl) (fun _ _ _ h => h) (by rfl) ?_ (by assumption) ?_
    rotate_left
    · (intro wq hSq; (try dsimp only at hSq); go_split_ands; go_simp; (try with_reducible rfl))
    try simp only [Act.put, List.setIfInBounds_toArray, List.set_cons_zero, List.set_cons_succ]
    refine reg_take 12 (v := ?_) (by rfl) (by kernel_rfl) (by kernel_rfl) (by kernel_rfl) (fun _ _ _ h => h) (by rfl) ?_ (by assumption) ?_
    rotate_left
    · (intro wq hSq; (try dsimp only at hSq); go_split_ands; go_simp; (try with_reducible rfl))
    try simp only [Act.put, List.setIfInBounds_toArray, List.set_cons_zero, List.set_cons_succ]
    refine reg_take 15 (v := ?_) (by rfl) (by kernel_rfl) (by kernel_rfl) (by kernel_rfl) (fun _ _ _ h => h) (by rfl) ?_ (by assumption) ?_
    rotate_left
    · (intro wq hSq; (try dsimp only at hSq); go_split_ands; go_simp; (try with_reducible rfl))
    try simp only [Act.put, List.setIfInBounds_toArray, List.set_cons_zero, List.set_cons_succ]
    refine reg_take 16 (v := ?_) (by rfl) (by kernel_rfl) (by kernel_rfl) (by kernel_rfl) (fun _ _ _ h => h) (by rfl) ?_ (by assumption) ?_
    rotate_left
    · (intro wq hSq; (try dsimp only at hSq); go_split_ands; go_simp; (try with_reducible rfl))
    try simp only [Act.put, List.setIfInBounds_toArray, List.set_cons_zero, List.set_cons_succ]
    refine reg_take 17 (v := ?_) (by rfl) (by kernel_rfl) (by kernel_rfl) (by kernel_rfl) (fun _ _ _ h => h) (by rfl) ?_ (by assumption) ?_
    rotate_left
    · (intro wq hSq; (try dsimp only at hSq); go_split_ands; go_simp; (try with_reducible rfl))
    try simp only [Act.put, List.setIfInBounds_toArray, List.set_cons_zero, List.set_cons_succ]
    refine reg_take 18 (v := ?_) (by rfl) (by kernel_rfl) (by kernel_rfl) (by kernel_rfl) (fun _ _ _ h => h) (by rfl) ?_ (by assumption) ?_
    rotate_left
    · (intro wq hSq; (try dsimp only at hSq); go_split_ands; go_simp; (try with_reducible rfl))
    try simp only [Act.put, List.setIfInBounds_toArray, List.set_cons_zero, List.set_cons_succ]
    refine reg_one 13 (by rfl) (by kernel_rfl) (by rfl) (fun K hK => ?_)
    (go_simp; go_at_call 10; refine (nil_num x _ hxl).mono ?_; rintro e w8 ⟨A8, c8, rfl, hr8, hb8⟩; go_wp2_with fail)
    refine hK.out _ _ ?_ (fun hHeld => ?_)
    · exact KS.out _ (bstep (bdrew (bself w6)) hb8)
    clear hK K
    try simp only [Act.put, List.setIfInBounds_toArray, List.set_cons_zero, List.set_cons_succ]
    refine reg_add (fun w' => (convert 22 9 (.slice A8 (num x).length c8)).run Try.prog w' = .ok (.string ⟨(num x).toArray⟩) w') (by assumption) (run_b2s w8 _ _ _ hr8) (fun hHeld => ?_)
    refine reg_take 14 (v := ?_) (by rfl) (by kernel_rfl) (by kernel_rfl) (by kernel_rfl) (fun _ _ _ h => h) (by rfl) ?_ (by assumption) ?_
    rotate_left
    · (intro wq hSq; (try dsimp only at hSq); go_split_ands; go_simp; (try with_reducible rfl))
    try simp only [Act.put, List.setIfInBounds_toArray, List.set_cons_zero, List.set_cons_succ]
    refine reg_take 19 (v := ?_) (by rfl) (by kernel_rfl) (by kernel_rfl) (by kernel_rfl) (fun _ _ _ h => h) (by rfl) ?_ (by assumption) ?_
    rotate_left
    · (intro wq hSq; (try dsimp only at hSq); go_split_ands; go_simp; (try with_reducible rfl))
    try simp only [Act.put, List.setIfInBounds_toArray, List.set_cons_zero, List.set_cons_succ]
    refine reg_take 20 (v := ?_) (by rfl) (by kernel_rfl) (by kernel_rfl) (by kernel_rfl) (fun _ _ _ h => h) (by rfl) ?_ (by assumption) ?_
    rotate_left
    · (intro wq hSq; (try dsimp only at hSq); go_split_ands; go_simp; (try with_reducible rfl))
    try simp only [Act.put, List.setIfInBounds_toArray, List.set_cons_zero, List.set_cons_succ]
    refine reg_take 21 (v := ?_) (by rfl) (by kernel_rfl) (by kernel_rfl) (by kernel_rfl) (fun _ _ _ h => h) (by rfl) ?_ (by assumption) ?_
    rotate_left
    · (intro wq hSq; (try dsimp only at hSq); go_split_ands; go_simp; (try with_reducible rfl))
    try simp only [Act.put, List.setIfInBounds_toArray, List.set_cons_zero, List.set_cons_succ]
    refine wpAnyH_done (by kernel_rfl) (noPanic_mk ?_) _
    have hb18 : Below w6.heap.size w6 w8 := bstep (bdrew (bself w6)) hb8
    go_wp2
    go_ret
    exact ⟨rfl, hb5.trans (hb18.mono hb5.size)⟩
  · obtain ⟨rfl, rfl⟩ := hbadc hf
    have hf' : ((f : Int) == 0) = false := by rw [beq_eq_false_iff_ne]; omega
    simp only [List.drop_zero] at hrd5
    go_wp2_with (first
      | (go_at_call 24; refine (mFault_any R _ _ _ (by assumption)).mono ?_; rintro e w6 ⟨rfl, rfl⟩)
      | (go_at_call 23; refine (mLeft_any R _ _ _ (by assumption)).mono ?_; rintro e w6 ⟨rfl, rfl⟩))
    go_ret
    exact ⟨rfl, hb5⟩
set_option maxHeartbeats 1000000 in
theorem codecLeast_gt (v : Value) (b : List UInt8) (m n : Nat) (w : World) (hv : SB w w.heap.size v b) (hb : b.length ≤ 140737488355328) (hm : m < 18446744073709551616) (hn : n < 18446744073709551616) (h : m < n) :
    Calls Try.prog 6 #[v, .int .u64 m, .int .u64 n] w fun e w' => e = .returned (.bool true) ∧ Below w.heap.size w w' := by
  have hle := num_mono m n (by omega)
  have hdec : decide ((num n).length < (num m).length) = false := by simp <;> omega
  go_enter Try.func6, Try.ntmps6
  go_wp2_with fail
  refine (shown_any w).mono ?_
  rintro e w1 ⟨rfl, hb1⟩
  go_wp2_with fail
  refine (nil_num m w1 hm).mono ?_
  rintro e w2 ⟨A2, c2, rfl, hs2, hb2⟩
  have hb2' := bstep hb1 hb2
  go_wp2_with fail
  refine (nil_num n w2 hn).mono ?_
  rintro e w3 ⟨A3, c3, rfl, hs3, hb3⟩
  have hb3' := bstep hb2' hb3
  go_wp2_with fail
  refine (cNew_any v b w3 (hv.on hb3') hb).mono ?_
  rintro e w4 ⟨R, rfl, hR, hrd, hb4⟩
  have hb4' := bstep hb3' hb4
  have hRw : w.heap.size ≤ R := Nat.le_trans hb3'.size hR
  obtain ⟨x, k, f, hnum⟩ : ∃ x k f, number b = (x, k, f) := ⟨_, _, _, rfl⟩
  have es : sNum (b, 0) = (x, b.drop k, f) := by simp [sNum, hnum]
  have hcall := mNum_any R b 0 w4 hrd.at_
  rw [es] at hcall
  have hkl := number_le b
  have hxl := number_lt b
  rw [hnum] at hkl hxl
  simp only at hkl hxl
  go_wp2_with fail
  refine hcall.mono ?_
  rintro e w5 ⟨rfl, hrd5, hg5⟩
  have hb5 : Below w.heap.size w w5 := hb4'.trans (gbelow hg5 (Nat.le_of_lt hrd.at_.lt) hRw)
  have hv5 := hv.on hb5
  have hback := number_back b
  have hbadc : f ≠ 0 → x = 0 ∧ k = 0 := by
    intro hf
    rcases numG_e b 0 0 with h1 | h1 | h1
    · unfold number at hnum; rw [hnum] at h1; exact absurd h1 hf
    · unfold number at hnum; rw [hnum] at h1; simp only [Prod.mk.injEq] at h1; exact ⟨h1.1, h1.2.1⟩
    · unfold number at hnum; rw [hnum] at h1; simp only [Prod.mk.injEq] at h1; exact ⟨h1.1, h1.2.1⟩
  clear hcall
  obtain ⟨A, c, rfl, hlc, hcm, hr⟩ := hv5
  have hcm' : c ≤ 9223372036854775807 := by unfold maxLen at hcm; omega
  by_cases hf : f = 0
  · subst hf
    obtain ⟨hk1, hk2⟩ := hback x k hnum
    have hk0 : 1 ≤ k := by have := num_length x; omega
    obtain ⟨bl, o, rfl, hbl, hcell⟩ := hr.at_ (by omega)
    have e1 : ((b.length : Int) - ((b.length - k : Nat) : Int)) = (k : Int) := by omega
    have hcut : SB w5 w5.heap.size (.slice (some ⟨bl, o, none⟩) k c) (num x) := by
      rw [← hk2]
      refine ⟨_, c, by rw [List.length_take]; congr 1; omega, by rw [List.length_take]; omega, hcm, ?_⟩
      have := hr.take hkl
      rw [Nat.mul_one, ← bv_take] at this
      have e3 : (b.take k).length = k := by rw [List.length_take]; omega
      rw [e3]; exact this
    have keepS : ∀ W, Below w5.heap.size w5 W → ((convert 22 9 (.slice (some ⟨bl, o, none⟩) k c)).run Try.prog W = .ok (.string ⟨(num x).toArray⟩) W ∧ Below w5.heap.size w5 W) := fun W hW =>
      ⟨run_b2s W _ _ _ (hcut.below hW), hW⟩
    have KS := Lib.hid keepS
    have HN := Lib.hid (And.intro hnum (And.intro hk1 hk2))
    clear keepS hcut hnum hk1 hk2 hback hbadc hcell
    go_wp2_with (first
      | (go_at_call 24; refine (mFault_any R _ _ _ (by assumption)).mono ?_; rintro e w6 ⟨rfl, rfl⟩)
      | (go_at_call 23; refine (mLeft_any R _ _ _ (by assumption)).mono ?_; rintro e w6 ⟨rfl, rfl⟩))
    clear e1
    have g1 : decide (0 < k) = true := by simp; omega
    have g2 : decide (k ≤ b.length) = true := by simp; omega
    have g3 : k ≤ c := by omega
    have g4 : ¬ c = 0 := by omega
    have g5 : (Addr.add ⟨bl, o, none⟩ 0) = ⟨bl, o, none⟩ := by simp [Addr.add]
    refine wp_region_noPanic ?_
    refine wp_region_held_drew (S := fun w' => (convert 22 9 (.slice (some ⟨bl, o, none⟩) k c)).run Try.prog w' = .ok (.string ⟨(num x).toArray⟩) w' ∧ Below w6.heap.size w6 w') (by kernel_rfl) (KS.out _ (Below.refl _ _).drew) (fun hHeld => ?_)
    refine reg_take 0 (v := ?_) (by rfl) (by kernel_rfl) (by kernel_rfl) (by kernel_rfl) (fun _ _ _ h => h) (by rfl) ?_ (by assumption) ?_
    rotate_left
    · (intro wq hSq; (try dsimp only at hSq); go_split_ands; go_simp; (try with_reducible rfl))
    try simp only [Act.put, List.setIfInBounds_toArray, List.set_cons_zero, List.set_cons_succ]
    refine reg_take 1 (v := ?_) (by rfl) (by kernel_rfl) (by kernel_rfl) (by kernel_rfl) (fun _ _ _ h => h) (by rfl) ?_ (by assumption) ?_
    rotate_left
    · (intro wq hSq; (try dsimp only at hSq); go_split_ands; go_simp; (try with_reducible rfl))
    try simp only [Act.put, List.setIfInBounds_toArray, List.set_cons_zero, List.set_cons_succ]
    refine reg_take 2 (v := ?_) (by rfl) (by kernel_rfl) (by kernel_rfl) (by kernel_rfl) (fun _ _ _ h => h) (by rfl) ?_ (by assumption) ?_
    rotate_left
    · (intro wq hSq; (try dsimp only at hSq); go_split_ands; go_simp; (try with_reducible rfl))
    try simp only [Act.put, List.setIfInBounds_toArray, List.set_cons_zero, List.set_cons_succ]
    refine reg_take 3 (v := ?_) (by rfl) (by kernel_rfl) (by kernel_rfl) (by kernel_rfl) (fun _ _ _ h => h) (by rfl) ?_ (by assumption) ?_
    rotate_left
    · (intro wq hSq; (try dsimp only at hSq); go_split_ands; go_simp; (try with_reducible rfl))
    try simp only [Act.put, List.setIfInBounds_toArray, List.set_cons_zero, List.set_cons_succ]
    refine reg_take 4 (v := ?_) (by rfl) (by kernel_rfl) (by kernel_rfl) (by kernel_rfl) (fun _ _ _ h => h) (by rfl) ?_ (by assumption) ?_
    rotate_left
    · (intro wq hSq; (try dsimp only at hSq); go_split_ands; go_simp; (try with_reducible rfl))
    try simp only [Act.put, List.setIfInBounds_toArray, List.set_cons_zero, List.set_cons_succ]
    refine reg_take 5 (v := ?_) (by rfl) (by kernel_rfl) (by kernel_rfl) (by kernel_rfl) (fun _ _ _ h => h) (by rfl) ?_ (by assumption) ?_
    rotate_left
    · (intro wq hSq; (try dsimp only at hSq); go_split_ands; go_simp; (try with_reducible rfl))
    try simp only [Act.put, List.setIfInBounds_toArray, List.set_cons_zero, List.set_cons_succ]
    refine reg_take 6 (v := ?_) (by rfl) (by kernel_rfl) (by kernel_rfl) (by kernel_rfl) (fun _ _ _ h => h) (by rfl) ?_ (by assumption) ?_
    rotate_left
    · (intro wq hSq; (try dsimp only at hSq); go_split_ands; go_simp; (try with_reducible rfl))
    try simp only [Act.put, List.setIfInBounds_toArray, List.set_cons_zero, List.set_cons_succ]
    refine reg_take 7 (v := ?_) (by rfl) (by kernel_rfl) (by kernel_rfl) (by kernel_rfl) (fun _ _ _ h => h) (by rfl) ?_ (by assumption) ?_
    rotate_left
    · (intro wq hSq; (try dsimp only at hSq); go_split_ands; go_simp; (try with_reducible rfl))
    try simp only [Act.put, List.setIfInBounds_toArray, List.set_cons_zero, List.set_cons_succ]
    refine reg_take 8 (v := ?_) (by rfl) (by kernel_rfl) (by kernel_rfl) (by kernel_rfl) (fun _ _ _ h => h) (by rfl) ?_ (by assumption) ?_
    rotate_left
    · (intro wq hSq; (try dsimp only at hSq); go_split_ands; go_simp; (try with_reducible rfl))
    try simp only [Act.put, List.setIfInBounds_toArray, List.set_cons_zero, List.set_cons_succ]
    refine reg_take 9 (v := ?_) (by rfl) (by kernel_rfl) (by kernel_rfl) (by kernel_rfl) (fun _ _ _ h => h) (by rfl) ?_ (by assumption) ?_
    rotate_left
    · (intro wq hSq; (try dsimp only at hSq); go_split_ands; go_simp; (try with_reducible rfl))
    try simp only [Act.put, List.setIfInBounds_toArray, List.set_cons_zero, List.set_cons_succ]
    refine reg_take 10 (v := ?_) (by rfl) (by kernel_rfl) (by kernel_rfl) (by kernel_rfl) (fun _ _ _ h => h) (by rfl) ?_ (by assumption) ?_
    rotate_left
    · (intro wq hSq; (try dsimp only at hSq); go_split_ands; go_simp; (try with_reducible rfl))
    try simp only [Act.put, List.setIfInBounds_toArray, List.set_cons_zero, List.set_cons_succ]
    refine reg_take 11 (v := ?_) (by rfl) (by kernel_rfl) (by kernel_rfl) (by kernel_rfl) (fun _ _ _ h => h) (by rfl) ?_ (by assumption) ?_
    rotate_left
    · (intro wq hSq; (try dsimp only at hSq); go_split_ands; go_simp; (try with_reducible rfl))
    try simp only [Act.put, List.setIfInBounds_toArray, List.set_cons_zero, List.set_cons_succ]
    refine reg_take 12 (v := ?_) (by rfl) (by kernel_rfl) (by kernel_rfl) (by kernel_rfl) (fun _ _ _ h => h) (by rfl) ?_ (by assumption) ?_
    rotate_left
    · (intro wq hSq; (try dsimp only at hSq); go_split_ands; go_simp; (try with_reducible rfl))
    try simp only [Act.put, List.setIfInBounds_toArray, List.set_cons_zero, List.set_cons_succ]
    refine reg_take 15 (v := ?_) (by rfl) (by kernel_rfl) (by kernel_rfl) (by kernel_rfl) (fun _ _ _ h => h) (by rfl) ?_ (by assumption) ?_
    rotate_left
    · (intro wq hSq; (try dsimp only at hSq); go_split_ands; go_simp; (try with_reducible rfl))
    try simp only [Act.put, List.setIfInBounds_toArray, List.set_cons_zero, List.set_cons_succ]
    refine reg_take 16 (v := ?_) (by rfl) (by kernel_rfl) (by kernel_rfl) (by kernel_rfl) (fun _ _ _ h => h) (by rfl) ?_ (by assumption) ?_
    rotate_left
    · (intro wq hSq; (try dsimp only at hSq); go_split_ands; go_simp; (try with_reducible rfl))
    try simp only [Act.put, List.setIfInBounds_toArray, List.set_cons_zero, List.set_cons_succ]
    refine reg_take 17 (v := ?_) (by rfl) (by kernel_rfl) (by kernel_rfl) (by kernel_rfl) (fun _ _ _ h => h) (by rfl) ?_ (by assumption) ?_
    rotate_left
    · (intro wq hSq; (try dsimp only at hSq); go_split_ands; go_simp; (try with_reducible rfl))
    try simp only [Act.put, List.setIfInBounds_toArray, List.set_cons_zero, List.set_cons_succ]
    refine reg_take 18 (v := ?_) (by rfl) (by kernel_rfl) (by kernel_rfl) (by kernel_rfl) (fun _ _ _ h => h) (by rfl) ?_ (by assumption) ?_
    rotate_left
    · (intro wq hSq; (try dsimp only at hSq); go_split_ands; go_simp; (try with_reducible rfl))
    try simp only [Act.put, List.setIfInBounds_toArray, List.set_cons_zero, List.set_cons_succ]
    refine reg_one 13 (by rfl) (by kernel_rfl) (by rfl) (fun K hK => ?_)
    (go_simp; go_at_call 10; refine (nil_num x _ hxl).mono ?_; rintro e w8 ⟨A8, c8, rfl, hr8, hb8⟩; go_wp2_with fail)
    refine hK.out _ _ ?_ (fun hHeld => ?_)
    · exact KS.out _ (bstep (bdrew (bself w6)) hb8)
    clear hK K
    try simp only [Act.put, List.setIfInBounds_toArray, List.set_cons_zero, List.set_cons_succ]
    refine reg_add (fun w' => (convert 22 9 (.slice A8 (num x).length c8)).run Try.prog w' = .ok (.string ⟨(num x).toArray⟩) w') (by assumption) (run_b2s w8 _ _ _ hr8) (fun hHeld => ?_)
    refine reg_take 14 (v := ?_) (by rfl) (by kernel_rfl) (by kernel_rfl) (by kernel_rfl) (fun _ _ _ h => h) (by rfl) ?_ (by assumption) ?_
    rotate_left
    · (intro wq hSq; (try dsimp only at hSq); go_split_ands; go_simp; (try with_reducible rfl))
    try simp only [Act.put, List.setIfInBounds_toArray, List.set_cons_zero, List.set_cons_succ]
    refine reg_take 19 (v := ?_) (by rfl) (by kernel_rfl) (by kernel_rfl) (by kernel_rfl) (fun _ _ _ h => h) (by rfl) ?_ (by assumption) ?_
    rotate_left
    · (intro wq hSq; (try dsimp only at hSq); go_split_ands; go_simp; (try with_reducible rfl))
    try simp only [Act.put, List.setIfInBounds_toArray, List.set_cons_zero, List.set_cons_succ]
    refine reg_take 20 (v := ?_) (by rfl) (by kernel_rfl) (by kernel_rfl) (by kernel_rfl) (fun _ _ _ h => h) (by rfl) ?_ (by assumption) ?_
    rotate_left
    · (intro wq hSq; (try dsimp only at hSq); go_split_ands; go_simp; (try with_reducible rfl))
    try simp only [Act.put, List.setIfInBounds_toArray, List.set_cons_zero, List.set_cons_succ]
    refine reg_take 21 (v := ?_) (by rfl) (by kernel_rfl) (by kernel_rfl) (by kernel_rfl) (fun _ _ _ h => h) (by rfl) ?_ (by assumption) ?_
    rotate_left
    · (intro wq hSq; (try dsimp only at hSq); go_split_ands; go_simp; (try with_reducible rfl))
    try simp only [Act.put, List.setIfInBounds_toArray, List.set_cons_zero, List.set_cons_succ]
    refine wpAnyH_done (by kernel_rfl) (noPanic_mk ?_) _
    have hb18 : Below w6.heap.size w6 w8 := bstep (bdrew (bself w6)) hb8
    go_wp2
    go_ret
    exact ⟨rfl, hb5.trans (hb18.mono hb5.size)⟩
  · obtain ⟨rfl, rfl⟩ := hbadc hf
    have hf' : ((f : Int) == 0) = false := by rw [beq_eq_false_iff_ne]; omega
    simp only [List.drop_zero] at hrd5
    go_wp2_with (first
      | (go_at_call 24; refine (mFault_any R _ _ _ (by assumption)).mono ?_; rintro e w6 ⟨rfl, rfl⟩)
      | (go_at_call 23; refine (mLeft_any R _ _ _ (by assumption)).mono ?_; rintro e w6 ⟨rfl, rfl⟩))
    go_ret
    exact ⟨rfl, hb5⟩
set_option maxHeartbeats 1000000 in
theorem codecLeast_eq (v : Value) (b : List UInt8) (m n : Nat) (w : World) (hv : SB w w.heap.size v b) (hb : b.length ≤ 140737488355328) (hm : m < 18446744073709551616) (hn : n < 18446744073709551616) (h : m = n) :
    Calls Try.prog 6 #[v, .int .u64 m, .int .u64 n] w fun e w' => e = .returned (.bool true) ∧ Below w.heap.size w w' := by
  subst h
  have hle := num_mono m m (by omega)
  have hdec : decide ((num m).length < (num m).length) = false := by simp <;> omega
  go_enter Try.func6, Try.ntmps6
  go_wp2_with fail
  refine (shown_any w).mono ?_
  rintro e w1 ⟨rfl, hb1⟩
  go_wp2_with fail
  refine (nil_num m w1 hm).mono ?_
  rintro e w2 ⟨A2, c2, rfl, hs2, hb2⟩
  have hb2' := bstep hb1 hb2
  go_wp2_with fail
  refine (nil_num m w2 hm).mono ?_
  rintro e w3 ⟨A3, c3, rfl, hs3, hb3⟩
  have hb3' := bstep hb2' hb3
  go_wp2_with fail
  refine (cNew_any v b w3 (hv.on hb3') hb).mono ?_
  rintro e w4 ⟨R, rfl, hR, hrd, hb4⟩
  have hb4' := bstep hb3' hb4
  have hRw : w.heap.size ≤ R := Nat.le_trans hb3'.size hR
  obtain ⟨x, k, f, hnum⟩ : ∃ x k f, number b = (x, k, f) := ⟨_, _, _, rfl⟩
  have es : sNum (b, 0) = (x, b.drop k, f) := by simp [sNum, hnum]
  have hcall := mNum_any R b 0 w4 hrd.at_
  rw [es] at hcall
  have hkl := number_le b
  have hxl := number_lt b
  rw [hnum] at hkl hxl
  simp only at hkl hxl
  go_wp2_with fail
  refine hcall.mono ?_
  rintro e w5 ⟨rfl, hrd5, hg5⟩
  have hb5 : Below w.heap.size w w5 := hb4'.trans (gbelow hg5 (Nat.le_of_lt hrd.at_.lt) hRw)
  have hv5 := hv.on hb5
  have hback := number_back b
  have hbadc : f ≠ 0 → x = 0 ∧ k = 0 := by
    intro hf
    rcases numG_e b 0 0 with h1 | h1 | h1
    · unfold number at hnum; rw [hnum] at h1; exact absurd h1 hf
    · unfold number at hnum; rw [hnum] at h1; simp only [Prod.mk.injEq] at h1; exact ⟨h1.1, h1.2.1⟩
    · unfold number at hnum; rw [hnum] at h1; simp only [Prod.mk.injEq] at h1; exact ⟨h1.1, h1.2.1⟩
  clear hcall
  obtain ⟨A, c, rfl, hlc, hcm, hr⟩ := hv5
  have hcm' : c ≤ 9223372036854775807 := by unfold maxLen at hcm; omega
  by_cases hf : f = 0
  · subst hf
    obtain ⟨hk1, hk2⟩ := hback x k hnum
    have hk0 : 1 ≤ k := by have := num_length x; omega
    obtain ⟨bl, o, rfl, hbl, hcell⟩ := hr.at_ (by omega)
    have e1 : ((b.length : Int) - ((b.length - k : Nat) : Int)) = (k : Int) := by omega
    have hcut : SB w5 w5.heap.size (.slice (some ⟨bl, o, none⟩) k c) (num x) := by
      rw [← hk2]
      refine ⟨_, c, by rw [List.length_take]; congr 1; omega, by rw [List.length_take]; omega, hcm, ?_⟩
      have := hr.take hkl
      rw [Nat.mul_one, ← bv_take] at this
      have e3 : (b.take k).length = k := by rw [List.length_take]; omega
      rw [e3]; exact this
    have keepS : ∀ W, Below w5.heap.size w5 W → ((convert 22 9 (.slice (some ⟨bl, o, none⟩) k c)).run Try.prog W = .ok (.string ⟨(num x).toArray⟩) W ∧ Below w5.heap.size w5 W) := fun W hW =>
      ⟨run_b2s W _ _ _ (hcut.below hW), hW⟩
    have KS := Lib.hid keepS
    have HN := Lib.hid (And.intro hnum (And.intro hk1 hk2))
    clear keepS hcut hnum hk1 hk2 hback hbadc hcell
    go_wp2_with (first
      | (go_at_call 24; refine (mFault_any R _ _ _ (by assumption)).mono ?_; rintro e w6 ⟨rfl, rfl⟩)
      | (go_at_call 23; refine (mLeft_any R _ _ _ (by assumption)).mono ?_; rintro e w6 ⟨rfl, rfl⟩))
    clear e1
    have g1 : decide (0 < k) = true := by simp; omega
    have g2 : decide (k ≤ b.length) = true := by simp; omega
    have g3 : k ≤ c := by omega
    have g4 : ¬ c = 0 := by omega
    have g5 : (Addr.add ⟨bl, o, none⟩ 0) = ⟨bl, o, none⟩ := by simp [Addr.add]
    refine wp_region_noPanic ?_
    refine wp_region_held_drew (S := fun w' => (convert 22 9 (.slice (some ⟨bl, o, none⟩) k c)).run Try.prog w' = .ok (.string ⟨(num x).toArray⟩) w' ∧ Below w6.heap.size w6 w') (by kernel_rfl) (KS.out _ (Below.refl _ _).drew) (fun hHeld => ?_)
    refine reg_take 0 (v := ?_) (by rfl) (by kernel_rfl) (by kernel_rfl) (by kernel_rfl) (fun _ _ _ h => h) (by rfl) ?_ (by assumption) ?_
    rotate_left
    · (intro wq hSq; (try dsimp only at hSq); go_split_ands; go_simp; (try with_reducible rfl))
    try simp only [Act.put, List.setIfInBounds_toArray, List.set_cons_zero, List.set_cons_succ]
    refine reg_take 1 (v := ?_) (by rfl) (by kernel_rfl) (by kernel_rfl) (by kernel_rfl) (fun _ _ _ h => h) (by rfl) ?_ (by assumption) ?_
    rotate_left
    · (intro wq hSq; (try dsimp only at hSq); go_split_ands; go_simp; (try with_reducible rfl))
    try simp only [Act.put, List.setIfInBounds_toArray, List.set_cons_zero, List.set_cons_succ]
    refine reg_take 2 (v := ?_) (by rfl) (by kernel_rfl) (by kernel_rfl) (by kernel_rfl) (fun _ _ _ h => h) (by rfl) ?_ (by assumption) ?_
    rotate_left
    · (intro wq hSq; (try dsimp only at hSq); go_split_ands; go_simp; (try with_reducible rfl))
    try simp only [Act.put, List.setIfInBounds_toArray, List.set_cons_zero, List.set_cons_succ]
    refine reg_take 3 (v := ?_) (by rfl) (by kernel_rfl) (by kernel_rfl) (by kernel_rfl) (fun _ _ _ h => h) (by rfl) ?_ (by assumption) ?_
    rotate_left
    · (intro wq hSq; (try dsimp only at hSq); go_split_ands; go_simp; (try with_reducible rfl))
    try simp only [Act.put, List.setIfInBounds_toArray, List.set_cons_zero, List.set_cons_succ]
    refine reg_take 4 (v := ?_) (by rfl) (by kernel_rfl) (by kernel_rfl) (by kernel_rfl) (fun _ _ _ h => h) (by rfl) ?_ (by assumption) ?_
    rotate_left
    · (intro wq hSq; (try dsimp only at hSq); go_split_ands; go_simp; (try with_reducible rfl))
    try simp only [Act.put, List.setIfInBounds_toArray, List.set_cons_zero, List.set_cons_succ]
    refine reg_take 5 (v := ?_) (by rfl) (by kernel_rfl) (by kernel_rfl) (by kernel_rfl) (fun _ _ _ h => h) (by rfl) ?_ (by assumption) ?_
    rotate_left
    · (intro wq hSq; (try dsimp only at hSq); go_split_ands; go_simp; (try with_reducible rfl))
    try simp only [Act.put, List.setIfInBounds_toArray, List.set_cons_zero, List.set_cons_succ]
    refine reg_take 6 (v := ?_) (by rfl) (by kernel_rfl) (by kernel_rfl) (by kernel_rfl) (fun _ _ _ h => h) (by rfl) ?_ (by assumption) ?_
    rotate_left
    · (intro wq hSq; (try dsimp only at hSq); go_split_ands; go_simp; (try with_reducible rfl))
    try simp only [Act.put, List.setIfInBounds_toArray, List.set_cons_zero, List.set_cons_succ]
    refine reg_take 7 (v := ?_) (by rfl) (by kernel_rfl) (by kernel_rfl) (by kernel_rfl) (fun _ _ _ h => h) (by rfl) ?_ (by assumption) ?_
    rotate_left
    · (intro wq hSq; (try dsimp only at hSq); go_split_ands; go_simp; (try with_reducible rfl))
    try simp only [Act.put, List.setIfInBounds_toArray, List.set_cons_zero, List.set_cons_succ]
    refine reg_take 8 (v := ?_) (by rfl) (by kernel_rfl) (by kernel_rfl) (by kernel_rfl) (fun _ _ _ h => h) (by rfl) ?_ (by assumption) ?_
    rotate_left
    · (intro wq hSq; (try dsimp only at hSq); go_split_ands; go_simp; (try with_reducible rfl))
    try simp only [Act.put, List.setIfInBounds_toArray, List.set_cons_zero, List.set_cons_succ]
    refine reg_take 9 (v := ?_) (by rfl) (by kernel_rfl) (by kernel_rfl) (by kernel_rfl) (fun _ _ _ h => h) (by rfl) ?_ (by assumption) ?_
    rotate_left
    · (intro wq hSq; (try dsimp only at hSq); go_split_ands; go_simp; (try with_reducible rfl))
    try simp only [Act.put, List.setIfInBounds_toArray, List.set_cons_zero, List.set_cons_succ]
    refine reg_take 10 (v := ?_) (by rfl) (by kernel_rfl) (by kernel_rfl) (by kernel_rfl) (fun _ _ _ h => h) (by rfl) ?_ (by assumption) ?_
    rotate_left
    · (intro wq hSq; (try dsimp only at hSq); go_split_ands; go_simp; (try with_reducible rfl))
    try simp only [Act.put, List.setIfInBounds_toArray, List.set_cons_zero, List.set_cons_succ]
    refine reg_take 11 (v := ?_) (by rfl) (by kernel_rfl) (by kernel_rfl) (by kernel_rfl) (fun _ _ _ h => h) (by rfl) ?_ (by assumption) ?_
    rotate_left
    · (intro wq hSq; (try dsimp only at hSq); go_split_ands; go_simp; (try with_reducible rfl))
    try simp only [Act.put, List.setIfInBounds_toArray, List.set_cons_zero, List.set_cons_succ]
    refine reg_take 12 (v := ?_) (by rfl) (by kernel_rfl) (by kernel_rfl) (by kernel_rfl) (fun _ _ _ h => h) (by rfl) ?_ (by assumption) ?_
    rotate_left
    · (intro wq hSq; (try dsimp only at hSq); go_split_ands; go_simp; (try with_reducible rfl))
    try simp only [Act.put, List.setIfInBounds_toArray, List.set_cons_zero, List.set_cons_succ]
    refine reg_take 15 (v := ?_) (by rfl) (by kernel_rfl) (by kernel_rfl) (by kernel_rfl) (fun _ _ _ h => h) (by rfl) ?_ (by assumption) ?_
    rotate_left
    · (intro wq hSq; (try dsimp only at hSq); go_split_ands; go_simp; (try with_reducible rfl))
    try simp only [Act.put, List.setIfInBounds_toArray, List.set_cons_zero, List.set_cons_succ]
    refine reg_take 16 (v := ?_) (by rfl) (by kernel_rfl) (by kernel_rfl) (by kernel_rfl) (fun _ _ _ h => h) (by rfl) ?_ (by assumption) ?_
    rotate_left
    · (intro wq hSq; (try dsimp only at hSq); go_split_ands; go_simp; (try with_reducible rfl))
    try simp only [Act.put, List.setIfInBounds_toArray, List.set_cons_zero, List.set_cons_succ]
    refine reg_take 17 (v := ?_) (by rfl) (by kernel_rfl) (by kernel_rfl) (by kernel_rfl) (fun _ _ _ h => h) (by rfl) ?_ (by assumption) ?_
    rotate_left
    · (intro wq hSq; (try dsimp only at hSq); go_split_ands; go_simp; (try with_reducible rfl))
    try simp only [Act.put, List.setIfInBounds_toArray, List.set_cons_zero, List.set_cons_succ]
    refine reg_take 18 (v := ?_) (by rfl) (by kernel_rfl) (by kernel_rfl) (by kernel_rfl) (fun _ _ _ h => h) (by rfl) ?_ (by assumption) ?_
    rotate_left
    · (intro wq hSq; (try dsimp only at hSq); go_split_ands; go_simp; (try with_reducible rfl))
    try simp only [Act.put, List.setIfInBounds_toArray, List.set_cons_zero, List.set_cons_succ]
    refine reg_one 13 (by rfl) (by kernel_rfl) (by rfl) (fun K hK => ?_)
    (go_simp; go_at_call 10; refine (nil_num x _ hxl).mono ?_; rintro e w8 ⟨A8, c8, rfl, hr8, hb8⟩; go_wp2_with fail)
    refine hK.out _ _ ?_ (fun hHeld => ?_)
    · exact KS.out _ (bstep (bdrew (bself w6)) hb8)
    clear hK K
    try simp only [Act.put, List.setIfInBounds_toArray, List.set_cons_zero, List.set_cons_succ]
    refine reg_add (fun w' => (convert 22 9 (.slice A8 (num x).length c8)).run Try.prog w' = .ok (.string ⟨(num x).toArray⟩) w') (by assumption) (run_b2s w8 _ _ _ hr8) (fun hHeld => ?_)
    refine reg_take 14 (v := ?_) (by rfl) (by kernel_rfl) (by kernel_rfl) (by kernel_rfl) (fun _ _ _ h => h) (by rfl) ?_ (by assumption) ?_
    rotate_left
    · (intro wq hSq; (try dsimp only at hSq); go_split_ands; go_simp; (try with_reducible rfl))
    try simp only [Act.put, List.setIfInBounds_toArray, List.set_cons_zero, List.set_cons_succ]
    refine reg_take 19 (v := ?_) (by rfl) (by kernel_rfl) (by kernel_rfl) (by kernel_rfl) (fun _ _ _ h => h) (by rfl) ?_ (by assumption) ?_
    rotate_left
    · (intro wq hSq; (try dsimp only at hSq); go_split_ands; go_simp; (try with_reducible rfl))
    try simp only [Act.put, List.setIfInBounds_toArray, List.set_cons_zero, List.set_cons_succ]
    refine reg_take 20 (v := ?_) (by rfl) (by kernel_rfl) (by kernel_rfl) (by kernel_rfl) (fun _ _ _ h => h) (by rfl) ?_ (by assumption) ?_
    rotate_left
    · (intro wq hSq; (try dsimp only at hSq); go_split_ands; go_simp; (try with_reducible rfl))
    try simp only [Act.put, List.setIfInBounds_toArray, List.set_cons_zero, List.set_cons_succ]
    refine reg_take 21 (v := ?_) (by rfl) (by kernel_rfl) (by kernel_rfl) (by kernel_rfl) (fun _ _ _ h => h) (by rfl) ?_ (by assumption) ?_
    rotate_left
    · (intro wq hSq; (try dsimp only at hSq); go_split_ands; go_simp; (try with_reducible rfl))
    try simp only [Act.put, List.setIfInBounds_toArray, List.set_cons_zero, List.set_cons_succ]
    refine wpAnyH_done (by kernel_rfl) (noPanic_mk ?_) _
    have hb18 : Below w6.heap.size w6 w8 := bstep (bdrew (bself w6)) hb8
    go_wp2
    go_ret
    exact ⟨rfl, hb5.trans (hb18.mono hb5.size)⟩
  · obtain ⟨rfl, rfl⟩ := hbadc hf
    have hf' : ((f : Int) == 0) = false := by rw [beq_eq_false_iff_ne]; omega
    simp only [List.drop_zero] at hrd5
    go_wp2_with (first
      | (go_at_call 24; refine (mFault_any R _ _ _ (by assumption)).mono ?_; rintro e w6 ⟨rfl, rfl⟩)
      | (go_at_call 23; refine (mLeft_any R _ _ _ (by assumption)).mono ?_; rintro e w6 ⟨rfl, rfl⟩))
    go_ret
    exact ⟨rfl, hb5⟩
theorem codecLeast_any (v : Value) (b : List UInt8) (m n : Nat) (w : World) (hv : SB w w.heap.size v b) (hb : b.length ≤ 140737488355328) (hm : m < 18446744073709551616) (hn : n < 18446744073709551616) :
    Calls Try.prog 6 #[v, .int .u64 m, .int .u64 n] w fun e w' => e = .returned (.bool true) ∧ Below w.heap.size w w' := by
  rcases Nat.lt_trichotomy n m with h | h | h
  · exact codecLeast_lt v b m n w hv hb hm hn h
  · exact codecLeast_eq v b m n w hv hb hm hn h.symm
  · exact codecLeast_gt v b m n w hv hb hm hn h
end Go.Proofs.Ytaefhnmdombadaa
