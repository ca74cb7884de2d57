/-
  What is proved here: what the reference's proof and Proof come to, at this seat's numbers. Conditions: the list's length; the table of constants.
-/
import Derived.Test.YtjmlohfldkbbaaaDoorMerkRefR
namespace Go.Proofs.YtjmlohfldkbbaaaDoor
open Go.RowKit

set_option maxRecDepth 100000 in
set_option maxHeartbeats 800000 in
theorem rproof_n (n : Nat) : ∀ (l : List Dg), l.length = n → l.length ≤ 2000 → ∀ (i : Nat), i < l.length → ∀ (v : Value) (w : World), SD w w.heap.size v l → KTab w 0 → 0 < w.heap.size →
    Calls Tryd.prog 22 #[v, .int .i64 (i : Int)] w fun e w' => ∃ u, e = .returned u ∧ OD w' w.heap.size u (proofR jnD zD l i) ∧ (proofR jnD zD l i).length ≤ l.length ∧ Below w.heap.size w w' := by
  induction n using Nat.strongRecOn with
  | _ n ih =>
    intro l hn hl i hi v w hv hk h0
    have HIH := Lib.hid ih
    have HLN := Lib.hid hn
    clear ih hn
    obtain ⟨b, o, c0, rfl, hbl, _⟩ := hv.at_ (by omega)
    obtain ⟨_, _, e9, hlc, hcm⟩ := hv.form
    injection e9 with e91 e92 e93
    rw [← e93] at hlc hcm
    clear e91 e92 e93
    have HK : Hid (∀ w', Below w.heap.size w w' → KTab w' 0 ∧ 0 < w'.heap.size) := Lib.hid (fun w' h => ⟨hk.on0 h h0, by have := h.size; omega⟩)
    go_enter Tryd.func22, Tryd.ntmps22
    by_cases h1 : l.length = 1
    · have h2 : ((l.length : Int) == 1) = true := by rw [h1]; rfl
      have HP : Hid (proofR jnD zD l i = []) := Lib.hid (proofR_small jnD zD i (by omega))
      clear h1
      go_wp2_with fail
      go_ret
      refine ⟨.slice none 0 0, rfl, ?_, ?_, bself w⟩
      · rw [HP.out]; exact OD.nil_ _ _
      · rw [HP.out]; exact Nat.zero_le _
    · have hne1 : ((l.length : Int) == 1) = false := by
        rw [beq_eq_false_iff_ne]; omega
      go_wp2_with fail
      refine (rPart_any l.length w (by omega) (by omega)).mono ?_
      rintro e w1 ⟨rfl, rfl⟩
      obtain ⟨k, hk9⟩ : ∃ k, k = part l.length := ⟨_, rfl⟩
      have hk1 : k < l.length := by rw [hk9]; exact part_lt (by omega)
      have hk2 : 0 < k := by rw [hk9]; exact part_pos _
      rw [← hk9]
      have s1 : SD w1 w1.heap.size (.slice (some ⟨b, o, none⟩) k c0) (l.take k) := hv.take (by omega) rfl
      have s2 : SD w1 w1.heap.size (.slice (some ⟨b, o + k * 32, none⟩) (l.length - k) (c0 - k)) (l.drop k) := by
        have h := hv.cut (k := k) (by omega) rfl
        rw [if_neg (by omega), Option.map_some, add_lit0] at h
        exact h
      have y1 : (k : Int) ≤ (c0 : Int) := by omega
      have y2 : (k : Int) ≤ (l.length : Int) := by omega
      have y3 : ¬ c0 = k := by omega
      have l1 : (l.take k).length = k := by rw [List.length_take]; omega
      have l2 : (l.drop k).length = l.length - k := List.length_drop
      by_cases hik : i < k
      · have hik2 : (i : Int) < (k : Int) := by omega
        obtain ⟨rd, hrd⟩ : ∃ rd, rd = rootR jnD zD (l.drop k) := ⟨_, rfl⟩
        have HPR : Hid (proofR jnD zD l i = proofR jnD zD (l.take k) i ++ [rd]) := Lib.hid (by rw [hrd, hk9]; exact proofR_left jnD zD (by omega) (by rw [← hk9]; exact hik))
        have HC1 : Hid (∀ w', Below w1.heap.size w1 w' → Calls Tryd.prog 22 #[.slice (some ⟨b, o, none⟩) k c0, .int .i64 (i : Int)] w' fun e w'' => ∃ u, e = .returned u ∧ OD w'' w'.heap.size u (proofR jnD zD (l.take k) i) ∧ (proofR jnD zD (l.take k) i).length ≤ k ∧ Below w'.heap.size w' w'') := Lib.hid (fun w' h => by
          have h5 := HIH.out k (by have := HLN.out; omega) (l.take k) l1 (by omega) i (by omega) _ w' (s1.on h) (HK.out w' h).1 (HK.out w' h).2
          rw [l1] at h5
          exact h5)
        have HC2 : Hid (∀ w', Below w1.heap.size w1 w' → Calls Tryd.prog 18 #[.slice (some ⟨b, o + k * 32, none⟩) (l.length - k) (c0 - k)] w' fun e w'' => e = .returned (.agg (dgA rd.1)) ∧ Below w'.heap.size w' w'') := Lib.hid (fun w' h => rRoot_any (l.drop k) (by omega) _ (dgA rd.1) (by rw [hrd]) w' (s2.on h) (HK.out w' h).1 (HK.out w' h).2)
        obtain ⟨P, hP⟩ : ∃ P, P = proofR jnD zD (l.take k) i := ⟨_, rfl⟩
        rw [← hP] at HPR HC1
        clear hrd hP s1 s2 hk9 hv hk l1 l2
        go_upto_region 5 with fail
        refine wp_region_noPanic ?_
        refine wp_region_held_drew (S := fun _ => True) (by kernel_rfl) trivial (fun hHeld => ?_)
        refine reg_take 0 (v := ?_) (by rfl) (by kernel_rfl) (by kernel_rfl) (by kernel_rfl) (fun _ _ _ h => h) (by rfl) ?_ (by assumption) ?_
        rotate_left
        · (intro wq hSq; (try dsimp only at hSq); go_split_ands; go_simp; (try with_reducible rfl))
        try simp only [Act.put, List.setIfInBounds_toArray, List.set_cons_zero, List.set_cons_succ]
        refine reg_take 1 (v := ?_) (by rfl) (by kernel_rfl) (by kernel_rfl) (by kernel_rfl) (fun _ _ _ h => h) (by rfl) ?_ (by assumption) ?_
        rotate_left
        · (intro wq hSq; (try dsimp only at hSq); go_split_ands; go_simp; (try with_reducible rfl))
        try simp only [Act.put, List.setIfInBounds_toArray, List.set_cons_zero, List.set_cons_succ]
        refine reg_take 2 (v := ?_) (by rfl) (by kernel_rfl) (by kernel_rfl) (by kernel_rfl) (fun _ _ _ h => h) (by rfl) ?_ (by assumption) ?_
        rotate_left
        · (intro wq hSq; (try dsimp only at hSq); go_split_ands; go_simp; (try with_reducible rfl))
        try simp only [Act.put, List.setIfInBounds_toArray, List.set_cons_zero, List.set_cons_succ]
        refine reg_take 3 (v := ?_) (by rfl) (by kernel_rfl) (by kernel_rfl) (by kernel_rfl) (fun _ _ _ h => h) (by rfl) ?_ (by assumption) ?_
        rotate_left
        · (intro wq hSq; (try dsimp only at hSq); go_split_ands; go_simp; (try with_reducible rfl))
        try simp only [Act.put, List.setIfInBounds_toArray, List.set_cons_zero, List.set_cons_succ]
        refine reg_take 5 (v := ?_) (by rfl) (by kernel_rfl) (by kernel_rfl) (by kernel_rfl) (fun _ _ _ h => h) (by rfl) ?_ (by assumption) ?_
        rotate_left
        · (intro wq hSq; (try dsimp only at hSq); go_split_ands; go_simp; (try with_reducible rfl))
        try simp only [Act.put, List.setIfInBounds_toArray, List.set_cons_zero, List.set_cons_succ]
        refine reg_take 6 (v := ?_) (by rfl) (by kernel_rfl) (by kernel_rfl) (by kernel_rfl) (fun _ _ _ h => h) (by rfl) ?_ (by assumption) ?_
        rotate_left
        · (intro wq hSq; (try dsimp only at hSq); go_split_ands; go_simp; (try with_reducible rfl))
        try simp only [Act.put, List.setIfInBounds_toArray, List.set_cons_zero, List.set_cons_succ]
        refine reg_take 7 (v := ?_) (by rfl) (by kernel_rfl) (by kernel_rfl) (by kernel_rfl) (fun _ _ _ h => h) (by rfl) ?_ (by assumption) ?_
        rotate_left
        · (intro wq hSq; (try dsimp only at hSq); go_split_ands; go_simp; (try with_reducible rfl))
        try simp only [Act.put, List.setIfInBounds_toArray, List.set_cons_zero, List.set_cons_succ]
        refine reg_one 4 (by rfl) (by kernel_rfl) (by rfl) (fun K hK => ?_)
        (go_simp; go_at_call 22; refine (HC1.out _ (bdrew (bself w1))).mono ?_; rintro e w3 ⟨u3, rfl, ho3, hl3, hb3⟩; have b3 := bstep (bdrew (bself w1)) hb3; go_wp2_with fail)
        refine hK.out _ _ ?_ (fun hHeld => ?_)
        · trivial
        clear hK K
        try simp only [Act.put, List.setIfInBounds_toArray, List.set_cons_zero, List.set_cons_succ]
        refine reg_one 8 (by rfl) (by kernel_rfl) (by rfl) (fun K hK => ?_)
        (go_simp; go_at_call 18; refine (HC2.out _ b3).mono ?_; rintro e w4 ⟨rfl, hb4⟩; have b4 := bstep b3 hb4; have ho4 := ho3.below hb4 (Nat.le_refl _); go_wp2_with fail)
        refine hK.out _ _ ?_ (fun hHeld => ?_)
        · trivial
        clear hK K
        try simp only [Act.put, List.setIfInBounds_toArray, List.set_cons_zero, List.set_cons_succ]
        have own4 : OD (w4.alloc (.cells (dgA rd.1) 31)) w1.drew.heap.size u3 P := OD.alloc ho4 _
        have src4 : SD (w4.alloc (.cells (dgA rd.1) 31)) (w4.heap.size + 1) (.slice (some ⟨w4.heap.size, 0, none⟩) 1 1) [rd] := SD.new1 w4 rd rfl (by omega)
        have len4 : (P.length + [rd].length) * 32 ≤ 140737488355328 := by simp only [List.length_cons, List.length_nil]; omega
        have hbz4 : w1.drew.heap.size ≤ (w4.alloc (.cells (dgA rd.1) 31)).heap.size := by rw [World.size_alloc]; have := b4.size; show w1.heap.size ≤ _; omega
        have bb4 : Below w1.heap.size w1 (w4.alloc (.cells (dgA rd.1) 31)) := balloc b4 _
        refine reg_one 9 (by rfl) (by kernel_rfl) (by rfl) (fun K hK => ?_)
        (refine wp_buildD (.tmp 23) rfl (dgA rd.1) rfl (dgA_n rd) ?_)
        refine hK.out _ _ ?_ (fun hHeld => ?_)
        · trivial
        clear hK K
        try simp only [Act.put, List.setIfInBounds_toArray, List.set_cons_zero, List.set_cons_succ]
        refine reg_one 10 (by rfl) (by kernel_rfl) (by rfl) (fun K hK => ?_)
        (refine wp_appD (.tmp 19) (.tmp 24) rfl w1.drew.heap.size _ P rfl own4 (w4.heap.size + 1) _ [rd] rfl src4 len4 hbz4 ?_; intro v5 w5 ho5 hg5 hv5 hb5; have b5 : Below w1.heap.size w1 w5 := bb4.trans hb5)
        refine hK.out _ _ ?_ (fun hHeld => ?_)
        · trivial
        clear hK K
        try simp only [Act.put, List.setIfInBounds_toArray, List.set_cons_zero, List.set_cons_succ]
        refine reg_take 11 (v := ?_) (by rfl) (by kernel_rfl) (by kernel_rfl) (by kernel_rfl) (fun _ _ _ h => h) (by rfl) ?_ (by assumption) ?_
        rotate_left
        · (intro wq hSq; (try dsimp only at hSq); go_split_ands; go_simp; (try with_reducible rfl))
        try simp only [Act.put, List.setIfInBounds_toArray, List.set_cons_zero, List.set_cons_succ]
        refine wpAnyH_done (by kernel_rfl) (noPanic_mk ?_) _
        go_wp2_with fail
        go_ret
        refine ⟨v5, rfl, ?_, ?_, b5⟩
        · rw [HPR.out]; exact ho5
        · rw [HPR.out, List.length_append]; simp only [List.length_cons, List.length_nil]; omega
      · have hik2 : ¬ (i : Int) < (k : Int) := by omega
        obtain ⟨j, hj⟩ : ∃ j, j = i - k := ⟨_, rfl⟩
        obtain ⟨rd, hrd⟩ : ∃ rd, rd = rootR jnD zD (l.take k) := ⟨_, rfl⟩
        have HPR : Hid (proofR jnD zD l i = proofR jnD zD (l.drop k) j ++ [rd]) := Lib.hid (by rw [hrd, hj, hk9]; exact proofR_right jnD zD (by omega) (by rw [← hk9]; exact hik))
        have HC1 : Hid (∀ w', Below w1.heap.size w1 w' → Calls Tryd.prog 22 #[.slice (some ⟨b, o + k * 32, none⟩) (l.length - k) (c0 - k), .int .i64 (j : Int)] w' fun e w'' => ∃ u, e = .returned u ∧ OD w'' w'.heap.size u (proofR jnD zD (l.drop k) j) ∧ (proofR jnD zD (l.drop k) j).length ≤ l.length - k ∧ Below w'.heap.size w' w'') := Lib.hid (fun w' h => by
          have h5 := HIH.out (l.length - k) (by have := HLN.out; omega) (l.drop k) l2 (by omega) j (by omega) _ w' (s2.on h) (HK.out w' h).1 (HK.out w' h).2
          rw [l2] at h5
          exact h5)
        have HC2 : Hid (∀ w', Below w1.heap.size w1 w' → Calls Tryd.prog 18 #[.slice (some ⟨b, o, none⟩) k c0] w' fun e w'' => e = .returned (.agg (dgA rd.1)) ∧ Below w'.heap.size w' w'') := Lib.hid (fun w' h => rRoot_any (l.take k) (by omega) _ (dgA rd.1) (by rw [hrd]) w' (s1.on h) (HK.out w' h).1 (HK.out w' h).2)
        obtain ⟨P, hP⟩ : ∃ P, P = proofR jnD zD (l.drop k) j := ⟨_, rfl⟩
        have y6 : IntKind.i64.wrap (j : Int) = (j : Int) := IntWalk.i64_in _ (by omega)
        have y7 : (i : Int) - (k : Int) = (j : Int) := by omega
        rw [← hP] at HPR HC1
        clear hrd hP s1 s2 hk9 hv hk l1 l2 hj
        go_upto_region 6 with fail
        refine wp_region_noPanic ?_
        refine wp_region_held_drew (S := fun _ => True) (by kernel_rfl) trivial (fun hHeld => ?_)
        refine reg_take 0 (v := ?_) (by rfl) (by kernel_rfl) (by kernel_rfl) (by kernel_rfl) (fun _ _ _ h => h) (by rfl) ?_ (by assumption) ?_
        rotate_left
        · (intro wq hSq; (try dsimp only at hSq); go_split_ands; go_simp; (try with_reducible rfl))
        try simp only [Act.put, List.setIfInBounds_toArray, List.set_cons_zero, List.set_cons_succ]
        refine reg_take 1 (v := ?_) (by rfl) (by kernel_rfl) (by kernel_rfl) (by kernel_rfl) (fun _ _ _ h => h) (by rfl) ?_ (by assumption) ?_
        rotate_left
        · (intro wq hSq; (try dsimp only at hSq); go_split_ands; go_simp; (try with_reducible rfl))
        try simp only [Act.put, List.setIfInBounds_toArray, List.set_cons_zero, List.set_cons_succ]
        refine reg_take 2 (v := ?_) (by rfl) (by kernel_rfl) (by kernel_rfl) (by kernel_rfl) (fun _ _ _ h => h) (by rfl) ?_ (by assumption) ?_
        rotate_left
        · (intro wq hSq; (try dsimp only at hSq); go_split_ands; go_simp; (try with_reducible rfl))
        try simp only [Act.put, List.setIfInBounds_toArray, List.set_cons_zero, List.set_cons_succ]
        refine reg_take 3 (v := ?_) (by rfl) (by kernel_rfl) (by kernel_rfl) (by kernel_rfl) (fun _ _ _ h => h) (by rfl) ?_ (by assumption) ?_
        rotate_left
        · (intro wq hSq; (try dsimp only at hSq); go_split_ands; go_simp; (try with_reducible rfl))
        try simp only [Act.put, List.setIfInBounds_toArray, List.set_cons_zero, List.set_cons_succ]
        refine reg_take 4 (v := ?_) (by rfl) (by kernel_rfl) (by kernel_rfl) (by kernel_rfl) (fun _ _ _ h => h) (by rfl) ?_ (by assumption) ?_
        rotate_left
        · (intro wq hSq; (try dsimp only at hSq); go_split_ands; go_simp; (try with_reducible rfl))
        try simp only [Act.put, List.setIfInBounds_toArray, List.set_cons_zero, List.set_cons_succ]
        refine reg_take 5 (v := ?_) (by rfl) (by kernel_rfl) (by kernel_rfl) (by kernel_rfl) (fun _ _ _ h => h) (by rfl) ?_ (by assumption) ?_
        rotate_left
        · (intro wq hSq; (try dsimp only at hSq); go_split_ands; go_simp; (try with_reducible rfl))
        try simp only [Act.put, List.setIfInBounds_toArray, List.set_cons_zero, List.set_cons_succ]
        refine reg_take 7 (v := ?_) (by rfl) (by kernel_rfl) (by kernel_rfl) (by kernel_rfl) (fun _ _ _ h => h) (by rfl) ?_ (by assumption) ?_
        rotate_left
        · (intro wq hSq; (try dsimp only at hSq); go_split_ands; go_simp; (try with_reducible rfl))
        try simp only [Act.put, List.setIfInBounds_toArray, List.set_cons_zero, List.set_cons_succ]
        refine reg_take 8 (v := ?_) (by rfl) (by kernel_rfl) (by kernel_rfl) (by kernel_rfl) (fun _ _ _ h => h) (by rfl) ?_ (by assumption) ?_
        rotate_left
        · (intro wq hSq; (try dsimp only at hSq); go_split_ands; go_simp; (try with_reducible rfl))
        try simp only [Act.put, List.setIfInBounds_toArray, List.set_cons_zero, List.set_cons_succ]
        refine reg_take 9 (v := ?_) (by rfl) (by kernel_rfl) (by kernel_rfl) (by kernel_rfl) (fun _ _ _ h => h) (by rfl) ?_ (by assumption) ?_
        rotate_left
        · (intro wq hSq; (try dsimp only at hSq); go_split_ands; go_simp; (try with_reducible rfl))
        try simp only [Act.put, List.setIfInBounds_toArray, List.set_cons_zero, List.set_cons_succ]
        refine reg_one 6 (by rfl) (by kernel_rfl) (by rfl) (fun K hK => ?_)
        (go_simp; go_at_call 22; refine (HC1.out _ (bdrew (bself w1))).mono ?_; rintro e w3 ⟨u3, rfl, ho3, hl3, hb3⟩; have b3 := bstep (bdrew (bself w1)) hb3; go_wp2_with fail)
        refine hK.out _ _ ?_ (fun hHeld => ?_)
        · trivial
        clear hK K
        try simp only [Act.put, List.setIfInBounds_toArray, List.set_cons_zero, List.set_cons_succ]
        refine reg_one 10 (by rfl) (by kernel_rfl) (by rfl) (fun K hK => ?_)
        (go_simp; go_at_call 18; refine (HC2.out _ b3).mono ?_; rintro e w4 ⟨rfl, hb4⟩; have b4 := bstep b3 hb4; have ho4 := ho3.below hb4 (Nat.le_refl _); go_wp2_with fail)
        refine hK.out _ _ ?_ (fun hHeld => ?_)
        · trivial
        clear hK K
        try simp only [Act.put, List.setIfInBounds_toArray, List.set_cons_zero, List.set_cons_succ]
        have own4 : OD (w4.alloc (.cells (dgA rd.1) 31)) w1.drew.heap.size u3 P := OD.alloc ho4 _
        have src4 : SD (w4.alloc (.cells (dgA rd.1) 31)) (w4.heap.size + 1) (.slice (some ⟨w4.heap.size, 0, none⟩) 1 1) [rd] := SD.new1 w4 rd rfl (by omega)
        have len4 : (P.length + [rd].length) * 32 ≤ 140737488355328 := by simp only [List.length_cons, List.length_nil]; omega
        have hbz4 : w1.drew.heap.size ≤ (w4.alloc (.cells (dgA rd.1) 31)).heap.size := by rw [World.size_alloc]; have := b4.size; show w1.heap.size ≤ _; omega
        have bb4 : Below w1.heap.size w1 (w4.alloc (.cells (dgA rd.1) 31)) := balloc b4 _
        refine reg_one 11 (by rfl) (by kernel_rfl) (by rfl) (fun K hK => ?_)
        (refine wp_buildD (.tmp 36) rfl (dgA rd.1) rfl (dgA_n rd) ?_)
        refine hK.out _ _ ?_ (fun hHeld => ?_)
        · trivial
        clear hK K
        try simp only [Act.put, List.setIfInBounds_toArray, List.set_cons_zero, List.set_cons_succ]
        refine reg_one 12 (by rfl) (by kernel_rfl) (by rfl) (fun K hK => ?_)
        (refine wp_appD (.tmp 32) (.tmp 37) rfl w1.drew.heap.size _ P rfl own4 (w4.heap.size + 1) _ [rd] rfl src4 len4 hbz4 ?_; intro v5 w5 ho5 hg5 hv5 hb5; have b5 : Below w1.heap.size w1 w5 := bb4.trans hb5)
        refine hK.out _ _ ?_ (fun hHeld => ?_)
        · trivial
        clear hK K
        try simp only [Act.put, List.setIfInBounds_toArray, List.set_cons_zero, List.set_cons_succ]
        refine reg_take 13 (v := ?_) (by rfl) (by kernel_rfl) (by kernel_rfl) (by kernel_rfl) (fun _ _ _ h => h) (by rfl) ?_ (by assumption) ?_
        rotate_left
        · (intro wq hSq; (try dsimp only at hSq); go_split_ands; go_simp; (try with_reducible rfl))
        try simp only [Act.put, List.setIfInBounds_toArray, List.set_cons_zero, List.set_cons_succ]
        refine wpAnyH_done (by kernel_rfl) (noPanic_mk ?_) _
        go_wp2_with fail
        go_ret
        refine ⟨v5, rfl, ?_, ?_, b5⟩
        · rw [HPR.out]; exact ho5
        · rw [HPR.out, List.length_append]; simp only [List.length_cons, List.length_nil]; omega
theorem rProof_bad (l : List Dg) (v : Value) (m : Int) (hm : m < 0 ∨ (l.length : Int) ≤ m) (w : World) (B : Nat) (hv : SD w B v l) : Calls Tryd.prog 11 #[v, .int .i64 m] w fun e w' => e = .returned (.tuple #[.slice none 0 0, .int .i64 2]) ∧ w' = w := by
  obtain ⟨A, c0, rfl, _, _⟩ := hv.form
  go_enter Tryd.func11, Tryd.ntmps11
  by_cases h0 : m < 0
  · go_wp2_with fail
    exact bodyPost_ret (v := .tuple #[.slice none 0 0, .int .i64 2]) (by simp [results, Tryd.results11, go_sem]) rfl ⟨rfl, rfl⟩
  · have h8 : (l.length : Int) ≤ m := by omega
    go_wp2_with fail
    exact bodyPost_ret (v := .tuple #[.slice none 0 0, .int .i64 2]) (by simp [results, Tryd.results11, go_sem]) rfl ⟨rfl, rfl⟩
theorem rProof_any (l : List Dg) (hl : l.length ≤ 2000) (i : Nat) (hi : i < l.length) (v : Value) (w : World) (hv : SD w w.heap.size v l) (hk : KTab w 0) (h0 : 0 < w.heap.size) :
    Calls Tryd.prog 11 #[v, .int .i64 (i : Int)] w fun e w' => ∃ u, e = .returned (.tuple #[u, .int .i64 0]) ∧ SD w' w'.heap.size u (proofR jnD zD l i) ∧ Below w.heap.size w w' := by
  obtain ⟨A, c0, rfl, _, _⟩ := hv.form
  have e1 : ¬ (i : Int) < 0 := by omega
  have e2 : ¬ (l.length : Int) ≤ (i : Int) := by omega
  have HC := Lib.hid (rproof_n l.length l rfl hl i hi _ w hv hk h0)
  go_enter Tryd.func11, Tryd.ntmps11
  go_wp2_with fail
  refine HC.out.mono ?_
  rintro e w1 ⟨u, rfl, ho, _, hb⟩
  go_wp2_with fail
  exact bodyPost_ret (v := .tuple #[u, .int .i64 0]) (by simp [results, Tryd.results11, go_sem]) rfl ⟨u, rfl, ho.sd, hb⟩
end Go.Proofs.YtjmlohfldkbbaaaDoor
