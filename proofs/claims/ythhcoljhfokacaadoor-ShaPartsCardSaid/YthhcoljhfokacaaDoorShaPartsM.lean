/-
  What is proved here: what ShaParts of tantaluslaw03 comes to, at this seat's numbers. Conditions: the bytes' length; the table of constants.
-/
import Derived.Test.YthhcoljhfokacaaDoorShaPartsE
namespace Go.Proofs.YthhcoljhfokacaaDoor
open Go.RowKit

set_option maxRecDepth 100000 in
set_option maxHeartbeats 4000000 in
theorem shaParts_mid (b : List UInt8) (A : Option Addr) (c0 k : Nat) (cut : UInt64) (W : World) (hv : SB W W.heap.size (.slice A b.length c0) b) (hl : b.length ≤ 140737488351232) (hk1 : KTab W 1) (h1 : 1 < W.heap.size) (hcc : b.length ≤ c0) (hcm : c0 ≤ 9223372036854775807)
    (hk : k = cut.toNat % (b.length + 1)) (hck : ¬ c0 = k) :
    Calls Tryd.prog 6 #[.slice A b.length c0, .int .u64 (cut.toNat : Int)] W fun e W' => e = .returned (.bool true) ∧ Below W.heap.size W W' := by
  have hkl : k ≤ b.length := by have := Nat.mod_lt cut.toNat (show 0 < b.length + 1 by omega); omega
  have hT : SB W W.heap.size (.slice A k c0) (b.take k) := hv.takeAt rfl hkl
  have hD : SB W W.heap.size (.slice (A.map (·.add k)) (b.length - k) (c0 - k)) (b.drop k) := by
    have h := hv.cutAt rfl hkl
    rw [if_neg hck] at h
    exact h
  have htl : (b.take k).length = k := by rw [List.length_take]; omega
  have hdl : (b.drop k).length = b.length - k := List.length_drop
  have hpos : (0 : Int) < (b.length : Int) + 1 := by omega
  have e1 : (cut.toNat : Int) % ((b.length : Int) + 1) = (k : Int) := by rw [hk]; norm_cast
  have hcut := cut.toNat_lt
  obtain ⟨c, hc⟩ : ∃ c, dgA (shaOf b) = c := ⟨_, rfl⟩
  obtain ⟨c1, hc1⟩ : ∃ c1, dgA (shaOf (b.take k)) = c1 := ⟨_, rfl⟩
  have hEq : ∀ w', (Op.equalIn 10000 25 (.agg c) (.agg c)).run Tryd.prog w' = .ok true w' := fun w' => run_eqC w' c _ (shaOf_length b) hc
  have hEq1 : ∀ w', (Op.equalIn 10000 25 (.agg c1) (.agg c1)).run Tryd.prog w' = .ok true w' := fun w' => run_eqC w' c1 _ (shaOf_length _) hc1
  have HN1 : Hid (c1.size = 32 ∧ ∀ v ∈ c1.toList, v.oneCell' = true) := Lib.hid (by rw [← hc1]; exact ⟨by rw [dgA_size, shaOf_length], dgA_one _⟩)
  have HC := Lib.hid hc
  have HC1 := Lib.hid hc1
  clear hc hc1 hk
  go_enter Tryd.func6, Tryd.ntmps6
  go_wp2_with fail
  refine (kNew_any _).mono ?_
  rintro e w1 ⟨P, rfl, hP1, hb1⟩
  have z1 := hb1.size
  go_wp2_with fail
  refine (kNew_any _).mono ?_
  rintro e w2 ⟨Q, rfl, hQ2, hb2⟩
  have b2 := bstep hb1 hb2
  have T2 := TwoAt.new hP1 hb2 hQ2 z1
  have hvs2 : VS w2 P (.slice A k c0) (b.take k) := VS.old (B := W.heap.size) (hT.below b2) b2.size (by obtain ⟨_, _, _, _, h5⟩ := T2.1; exact h5) (fun k hk => (T2.1.row k hk).1)
  have HW3 := Lib.hid (kWrite_any W.heap.size P [] (b.take k) _ w2 T2.1 hvs2 (by rw [htl]; simp only [List.length_nil]; omega) (hk1.on b2 h1) h1 T2.2.2.2.2.2.2)
  have HN3 : Hid (∀ w3, StAt w3 W.heap.size P ([] ++ b.take k) → Off w2 w3 P → (rowP w3 P = rowP w2 P ∨ ∀ g, rowP w3 P = some g → w2.heap.size ≤ g) → Below W.heap.size w2 w3 → TwoAt w3 W.heap.size P Q (b.take k) [] ∧ Below W.heap.size W w3) := Lib.hid (fun w3 q1 q2 q3 q4 =>
    ⟨T2.wrote (by rw [List.nil_append] at q1; exact q1) q2 q3 q4.size, b2.trans q4⟩)
  clear hP1 hQ2 T2 hvs2
  have hkc : k ≤ c0 := by omega
  have hkc2 : (k : Int) ≤ (c0 : Int) := by omega
  have hkb2 : (k : Int) ≤ (b.length : Int) := by omega
  go_wp2_with fail
  refine HW3.out.mono ?_
  rintro e w3 ⟨rfl, q1, q2, q3, q4⟩
  obtain ⟨T3, b3⟩ := HN3.out w3 q1 q2 q3 q4
  have HS3 := Lib.hid (kStSumC W.heap.size P (b.take k) c1 HC1.out w3 T3.1 (by rw [htl]; omega) (hk1.on b3 h1) (by have := b3.size; omega))
  have HT3 := Lib.hid T3
  clear q1 q2 q3 q4 T3 HW3 HN3
  go_wp2_with fail
  refine HS3.out.mono ?_
  rintro e w4 ⟨rfl, hb4⟩
  have T4 := HT3.out.below hb4
  have b4 := bstep b3 hb4
  have HT4 := Lib.hid T4
  clear T4 HS3 HT3
  go_upto_region 7 with (refine wl_storeD rfl (.tmp 8) (.tmp 30) rfl _ rfl _ c1 rfl (heap_alloc_new w4 _) (by kernel_rfl) HN1.out.1 HN1.out.2 ?_)
  generalize hw5 : World.setRow _ _ _ = w5
  have rF : w5.heap[w4.heap.size]? = some (rowO c1) := by rw [← hw5]; exact setRow_heap _ _ _ _ _ _ (heap_alloc_new w4 _)
  have b45 : Below w4.heap.size w4 w5 := by rw [← hw5]; exact below_setRow (balloc (bself w4) _) (Nat.le_refl _) _
  have z5 : Hid (w5.heap.size = w4.heap.size + 1) := Lib.hid (by rw [← hw5]; simp)
  clear hw5
  have T5 := HT4.out.below b45
  have b5 := bstep b4 b45
  have O5 : Own w5 P Q w4.heap.size 32 := Own.new HT4.out b45 (Nat.le_refl _) (by have := z5.out; omega) (by have h := rF; rw [← HC1.out] at h; exact Bb.row h (shaOf_length _))
  have hvs5 : VS w5 P (.slice (A.map (·.add k)) (b.length - k) (c0 - k)) (b.drop k) := VS.old (B := W.heap.size) (hD.below b5) b5.size (by obtain ⟨_, _, _, _, h5⟩ := T5.1; exact h5) (fun k hk => (T5.1.row k hk).1)
  have HW6 := Lib.hid (kWrite_any W.heap.size P (b.take k) (b.drop k) _ w5 T5.1 hvs5 (by rw [htl, hdl]; omega) (hk1.on b5 h1) h1 T5.2.2.2.2.2.2)
  have HN6 : Hid (∀ w6, StAt w6 W.heap.size P (b.take k ++ b.drop k) → Off w5 w6 P → (rowP w6 P = rowP w5 P ∨ ∀ g, rowP w6 P = some g → w5.heap.size ≤ g) → Below W.heap.size w5 w6 → TwoAt w6 W.heap.size P Q b [] ∧ Own w6 P Q w4.heap.size 32 ∧ w6.heap[w4.heap.size]? = some (rowO c1) ∧ Below W.heap.size W w6) := Lib.hid (fun w6 q1 q2 q3 q4 =>
    ⟨T5.wrote (by rw [List.take_append_drop] at q1; exact q1) q2 q3 q4.size, (O5.wrote T5 q2 q3 q4.size).1, (O5.wrote T5 q2 q3 q4.size).2.trans rF, b5.trans q4⟩)
  clear rF b45 T5 O5 hvs5 HT4
  go_wp2_with fail
  refine HW6.out.mono ?_
  rintro e w6 ⟨rfl, q1, q2, q3, q4⟩
  obtain ⟨T6, O6, rF6, b6⟩ := HN6.out w6 q1 q2 q3 q4
  have T6s := T6.symm
  have hvs6 : VS w6 Q (.slice A b.length c0) b := VS.old (B := W.heap.size) (hv.below b6) b6.size (by obtain ⟨_, _, _, _, h5⟩ := T6s.1; exact h5) (fun k hk => (T6s.1.row k hk).1)
  have HW9 := Lib.hid (kWrite_any W.heap.size Q [] b _ w6 T6s.1 hvs6 (by simp only [List.length_nil]; omega) (hk1.on b6 h1) h1 T6s.2.2.2.2.2.2)
  have HN9 : Hid (∀ w9, StAt w9 W.heap.size Q ([] ++ b) → Off w6 w9 Q → (rowP w9 Q = rowP w6 Q ∨ ∀ g, rowP w9 Q = some g → w6.heap.size ≤ g) → Below W.heap.size w6 w9 → TwoAt w9 W.heap.size P Q b b ∧ w9.heap[w4.heap.size]? = some (rowO c1) ∧ Below W.heap.size W w9) := Lib.hid (fun w9 q1 q2 q3 q4 =>
    ⟨(T6s.wrote (by rw [List.nil_append] at q1; exact q1) q2 q3 q4.size).symm, (O6.symm.wrote T6s q2 q3 q4.size).2.trans rF6, b6.trans q4⟩)
  clear q1 q2 q3 q4 T6 O6 rF6 T6s hvs6 HW6 HN6
  go_wp2_with fail
  refine HW9.out.mono ?_
  rintro e w9 ⟨rfl, q1, q2, q3, q4⟩
  obtain ⟨T9, rF9, b9⟩ := HN9.out w9 q1 q2 q3 q4
  clear q1 q2 q3 q4 HW9 HN9
  have l9 : W.heap.size ≤ w9.heap.size := b9.size
  have HSH : Hid (∀ w', Below w9.heap.size w9 w' → Calls Tryd.prog 8 #[] w' fun e w'' => e = .returned (.bool true) ∧ Below w'.heap.size w' w'') := Lib.hid (fun w' h => shown_any w' (hk1.on (bstep b9 h) h1) (by have := h.size; omega))
  have HSQ : Hid (∀ w', Below w9.heap.size w9 w' → Calls Tryd.prog 13 #[.pointer (some ⟨Q, 0, none⟩)] w' fun e w'' => e = .returned (.agg c) ∧ Below w'.heap.size w' w'') := Lib.hid (fun w' h => kStSumC W.heap.size Q b c HC.out w' (T9.2.1.below h) (by omega) (hk1.on (bstep b9 h) h1) (by have := h.size; omega))
  have HSP : Hid (∀ w', Below w9.heap.size w9 w' → Calls Tryd.prog 13 #[.pointer (some ⟨P, 0, none⟩)] w' fun e w'' => e = .returned (.agg c) ∧ Below w'.heap.size w' w'') := Lib.hid (fun w' h => kStSumC W.heap.size P b c HC.out w' (T9.1.below h) (by omega) (hk1.on (bstep b9 h) h1) (by have := h.size; omega))
  have HLP : Hid (∀ w', Below w9.heap.size w9 w' → Calls Tryd.prog 12 #[.pointer (some ⟨P, 0, none⟩)] w' fun e w'' => e = .returned (.int .i64 (b.length : Int)) ∧ w'' = w') := Lib.hid (fun w' h => kLen_any W.heap.size P b w' (T9.1.below h))
  have HL1 : Hid (∀ x g, Below w9.heap.size w9 x → g = x.heap.size → ∀ x', Below (x.alloc (.cells #[.slice A b.length c0] 22)).heap.size (x.alloc (.cells #[.slice A b.length c0] 22)) x' → Calls Tryd.prog 9 #[.slice (some ⟨g, 0, none⟩) 1 1] x' fun e w'' => e = .returned (.agg c) ∧ Below x'.heap.size x' w'') := Lib.hid (fun x g hx hg x' hx' => by
    have hX := bstep b9 hx
    have h3 := bstep (balloc hX (.cells #[.slice A b.length c0] 22)) hx'
    exact kSumC [b] c (by rw [flat1]; exact HC.out) _ x' ((LL.one 22 hg ((hv.below hX).more hX.size)).on hx') (by rw [flat1]; omega) (hk1.on h3 h1) (by have := h3.size; omega))
  have HLK : Hid (∀ x g, Below w9.heap.size w9 x → g = x.heap.size → ∀ x', Below (x.alloc (.cells #[.slice A k c0] 22)).heap.size (x.alloc (.cells #[.slice A k c0] 22)) x' → Calls Tryd.prog 9 #[.slice (some ⟨g, 0, none⟩) 1 1] x' fun e w'' => e = .returned (.agg c1) ∧ Below x'.heap.size x' w'') := Lib.hid (fun x g hx hg x' hx' => by
    have hX := bstep b9 hx
    have h3 := bstep (balloc hX (.cells #[.slice A k c0] 22)) hx'
    exact kSumC [b.take k] c1 (by rw [flat1]; exact HC1.out) _ x' ((LL.one 22 hg ((hT.below hX).more hX.size)).on hx') (by rw [flat1, htl]; omega) (hk1.on h3 h1) (by have := h3.size; omega))
  have HL3 : Hid (∀ x g, Below w9.heap.size w9 x → g = x.heap.size → ∀ x', Below (x.alloc (.cells #[.slice A k c0, .slice none 0 0, .slice (A.map (·.add k)) (b.length - k) (c0 - k)] 22)).heap.size (x.alloc (.cells #[.slice A k c0, .slice none 0 0, .slice (A.map (·.add k)) (b.length - k) (c0 - k)] 22)) x' → Calls Tryd.prog 9 #[.slice (some ⟨g, 0, none⟩) 3 3] x' fun e w'' => e = .returned (.agg c) ∧ Below x'.heap.size x' w'') := Lib.hid (fun x g hx hg x' hx' => by
    have hX := bstep b9 hx
    have h2 : LL (x.alloc (.cells #[.slice A k c0, .slice none 0 0, .slice (A.map (·.add k)) (b.length - k) (c0 - k)] 22)) _ (.slice (some ⟨g, 0, none⟩) 3 3) [b.take k, [], b.drop k] := LL.new (w := x) [.slice A k c0, .slice none 0 0, .slice (A.map (·.add k)) (b.length - k) (c0 - k)] [b.take k, [], b.drop k] 22 hg rfl rfl (by simp [maxLen]) (fun i u l h1 h2 => by
      rcases i with _ | _ | _ | i
      · simp only [List.getElem?_cons_zero, Option.some.injEq] at h1 h2; subst h1; subst h2; exact (hT.below hX).more hX.size
      · simp only [List.getElem?_cons_succ, List.getElem?_cons_zero, Option.some.injEq] at h1 h2; subst h1; subst h2; exact SB.nil_ _ _
      · simp only [List.getElem?_cons_succ, List.getElem?_cons_zero, Option.some.injEq] at h1 h2; subst h1; subst h2; exact (hD.below hX).more hX.size
      · simp at h1)
    have h3 := bstep (balloc hX (.cells #[.slice A k c0, .slice none 0 0, .slice (A.map (·.add k)) (b.length - k) (c0 - k)] 22)) hx'
    exact kSumC [b.take k, [], b.drop k] c (by rw [flat3, List.take_append_drop]; exact HC.out) _ x' (h2.on hx') (by rw [flat3, List.take_append_drop]; omega) (hk1.on h3 h1) (by have := h3.size; omega))
  have KS : Hid (∀ w', Below w9.heap.size w9 w' → w'.heap[w4.heap.size]? = some (rowO c1)) := Lib.hid (fun w' h => (h.block w4.heap.size (Array.getElem?_eq_some_iff.1 rF9).1).trans rF9)
  clear T9 rF9
  go_upto_region 9 with fail
  refine wp_region_noPanic ?_
  refine wp_region_held_drew (S := fun w' => w'.heap[w4.heap.size]? = some (rowO c1)) (by kernel_rfl) (KS.out _ (bdrew (bself w9))) (fun hHeld => ?_)
  refine reg_one 0 (by rfl) (by kernel_rfl) (by rfl) (fun K hK => ?_)
  (go_simp; go_at_call 8; refine (HSH.out _ (bdrew (bself w9))).mono ?_; rintro e x1 ⟨rfl, hx1⟩; have B1 := bstep (bdrew (bself w9)) hx1; go_wp2_with fail)
  refine hK.out _ _ ?_ (fun hHeld => ?_)
  · exact KS.out _ B1
  clear hK K
  try simp only [Act.put, List.setIfInBounds_toArray, List.set_cons_zero, List.set_cons_succ]
  refine reg_take 1 (v := ?_) (by rfl) (by kernel_rfl) (by kernel_rfl) (by kernel_rfl) (fun _ _ _ h => h) (by rfl) ?_ (by assumption) ?_
  rotate_left
  · (intro wq hSq; (try dsimp only at hSq); go_split_ands; go_simp; (try with_reducible rfl))
  try simp only [Act.put, List.setIfInBounds_toArray, List.set_cons_zero, List.set_cons_succ]
  refine reg_take 2 (v := ?_) (by rfl) (by kernel_rfl) (by kernel_rfl) (by kernel_rfl) (fun _ _ _ h => h) (by rfl) ?_ (by assumption) ?_
  rotate_left
  · (intro wq hSq; (try dsimp only at hSq); go_split_ands; go_simp; (try with_reducible rfl))
  try simp only [Act.put, List.setIfInBounds_toArray, List.set_cons_zero, List.set_cons_succ]
  refine reg_take 4 (v := ?_) (by rfl) (by kernel_rfl) (by kernel_rfl) (by kernel_rfl) (fun _ _ _ h => h) (by rfl) ?_ (by assumption) ?_
  rotate_left
  · (intro wq hSq; (try dsimp only at hSq); go_split_ands; go_simp; (try with_reducible rfl))
  try simp only [Act.put, List.setIfInBounds_toArray, List.set_cons_zero, List.set_cons_succ]
  refine reg_one 3 (by rfl) (by kernel_rfl) (by rfl) (fun K hK => ?_)
  (go_simp; go_at_call 13; refine (HSP.out _ B1).mono ?_; rintro e x2 ⟨rfl, hx2⟩; have B2 := bstep B1 hx2; go_wp2_with fail)
  refine hK.out _ _ ?_ (fun hHeld => ?_)
  · exact KS.out _ B2
  clear hK K
  try simp only [Act.put, List.setIfInBounds_toArray, List.set_cons_zero, List.set_cons_succ]
  refine reg_one 5 (by rfl) (by kernel_rfl) (by rfl) (fun K hK => ?_)
  (go_simp; go_at_call 13; refine (HSQ.out _ B2).mono ?_; rintro e x3 ⟨rfl, hx3⟩; have B3 := bstep B2 hx3; go_wp2_with fail)
  refine hK.out _ _ ?_ (fun hHeld => ?_)
  · exact KS.out _ B3
  clear hK K
  try simp only [Act.put, List.setIfInBounds_toArray, List.set_cons_zero, List.set_cons_succ]
  refine reg_take 6 (v := ?_) (by rfl) (by kernel_rfl) (by kernel_rfl) (by kernel_rfl) (fun _ _ _ h => h) (by rfl) ?_ (by assumption) ?_
  rotate_left
  · (intro wq hSq; (try dsimp only at hSq); go_split_ands; go_simp; (try with_reducible rfl))
  try simp only [Act.put, List.setIfInBounds_toArray, List.set_cons_zero, List.set_cons_succ]
  refine reg_take 7 (v := ?_) (by rfl) (by kernel_rfl) (by kernel_rfl) (by kernel_rfl) (fun _ _ _ h => h) (by rfl) ?_ (by assumption) ?_
  rotate_left
  · (intro wq hSq; (try dsimp only at hSq); go_split_ands; go_simp; (try with_reducible rfl))
  try simp only [Act.put, List.setIfInBounds_toArray, List.set_cons_zero, List.set_cons_succ]
  refine reg_take 8 (v := ?_) (by rfl) (by kernel_rfl) (by kernel_rfl) (by kernel_rfl) (fun _ _ _ h => h) (by rfl) ?_ (by assumption) ?_
  rotate_left
  · (intro wq hSq; (try dsimp only at hSq); go_split_ands; go_simp; (try with_reducible rfl))
  try simp only [Act.put, List.setIfInBounds_toArray, List.set_cons_zero, List.set_cons_succ]
  refine reg_take 9 (v := ?_) (by rfl) (by kernel_rfl) (by kernel_rfl) (by kernel_rfl) (fun _ _ _ h => h) (by rfl) ?_ (by assumption) ?_
  rotate_left
  · (intro wq hSq; (try dsimp only at hSq); go_split_ands; go_simp; (try with_reducible rfl))
  try simp only [Act.put, List.setIfInBounds_toArray, List.set_cons_zero, List.set_cons_succ]
  refine reg_take 11 (v := ?_) (by rfl) (by kernel_rfl) (by kernel_rfl) (by kernel_rfl) (fun _ _ _ h => h) (by rfl) ?_ (by assumption) ?_
  rotate_left
  · (intro wq hSq; (try dsimp only at hSq); go_split_ands; go_simp; (try with_reducible rfl))
  try simp only [Act.put, List.setIfInBounds_toArray, List.set_cons_zero, List.set_cons_succ]
  refine reg_two 10 12 (by rfl) (by rfl) (by kernel_rfl) (by rfl) (by rfl) (fun K hK => ?_) (fun K hK => ?_)
  · (go_simp; go_at_call 13; refine (HSP.out _ B3).mono ?_; rintro e x4 ⟨rfl, hx4⟩; have B4 := bstep B3 hx4; go_wp2_with fail)
    refine hK.out _ _ ?_ (fun hHeld => ?_)
    · exact KS.out _ B4
    clear hK K
    try simp only [Act.put, List.setIfInBounds_toArray, List.set_cons_zero, List.set_cons_succ]
    refine reg_one 12 (by rfl) (by kernel_rfl) (by rfl) (fun K hK => ?_)
    (go_simp)
    refine hK.out _ _ ?_ (fun hHeld => ?_)
    · exact KS.out _ (balloc B4 _)
    clear hK K
    try simp only [Act.put, List.setIfInBounds_toArray, List.set_cons_zero, List.set_cons_succ]
    refine reg_one 13 (by rfl) (by kernel_rfl) (by rfl) (fun K hK => ?_)
    (go_simp; go_at_call 9; refine (HL1.out _ _ B4 (by first | rfl | simp) _ (bself _)).mono ?_; rintro e x5 ⟨rfl, hx5⟩; have B5 := bstep (balloc B4 _) hx5; go_wp2_with fail)
    refine hK.out _ _ ?_ (fun hHeld => ?_)
    · exact KS.out _ B5
    clear hK K
    try simp only [Act.put, List.setIfInBounds_toArray, List.set_cons_zero, List.set_cons_succ]
    refine reg_take 14 (v := ?_) (by rfl) (by kernel_rfl) (by kernel_rfl) (by kernel_rfl) (fun _ _ _ h => h) (by rfl) ?_ (by assumption) ?_
    rotate_left
    · (intro wq hSq; (try dsimp only at hSq); go_split_ands; go_simp; (try with_reducible rfl))
    try simp only [Act.put, List.setIfInBounds_toArray, List.set_cons_zero, List.set_cons_succ]
    refine reg_take 15 (v := ?_) (by rfl) (by kernel_rfl) (by kernel_rfl) (by kernel_rfl) (fun _ _ _ h => h) (by rfl) ?_ (by assumption) ?_
    rotate_left
    · (intro wq hSq; (try dsimp only at hSq); go_split_ands; go_simp; (try with_reducible rfl))
    try simp only [Act.put, List.setIfInBounds_toArray, List.set_cons_zero, List.set_cons_succ]
    refine reg_take 16 (v := ?_) (by rfl) (by kernel_rfl) (by kernel_rfl) (by kernel_rfl) (fun _ _ _ h => h) (by rfl) ?_ (by assumption) ?_
    rotate_left
    · (intro wq hSq; (try dsimp only at hSq); go_split_ands; go_simp; (try with_reducible rfl))
    try simp only [Act.put, List.setIfInBounds_toArray, List.set_cons_zero, List.set_cons_succ]
    refine reg_take 17 (v := ?_) (by rfl) (by kernel_rfl) (by kernel_rfl) (by kernel_rfl) (fun _ _ _ h => h) (by rfl) ?_ (by assumption) ?_
    rotate_left
    · (intro wq hSq; (try dsimp only at hSq); go_split_ands; go_simp; (try with_reducible rfl))
    try simp only [Act.put, List.setIfInBounds_toArray, List.set_cons_zero, List.set_cons_succ]
    refine reg_take 18 (v := ?_) (by rfl) (by kernel_rfl) (by kernel_rfl) (by kernel_rfl) (fun _ _ _ h => h) (by rfl) ?_ (by assumption) ?_
    rotate_left
    · (intro wq hSq; (try dsimp only at hSq); go_split_ands; go_simp; (try with_reducible rfl))
    try simp only [Act.put, List.setIfInBounds_toArray, List.set_cons_zero, List.set_cons_succ]
    refine reg_take 19 (v := ?_) (by rfl) (by kernel_rfl) (by kernel_rfl) (by kernel_rfl) (fun _ _ _ h => h) (by rfl) ?_ (by assumption) ?_
    rotate_left
    · (intro wq hSq; (try dsimp only at hSq); go_split_ands; go_simp; (try with_reducible rfl))
    try simp only [Act.put, List.setIfInBounds_toArray, List.set_cons_zero, List.set_cons_succ]
    refine reg_take 20 (v := ?_) (by rfl) (by kernel_rfl) (by kernel_rfl) (by kernel_rfl) (fun _ _ _ h => h) (by rfl) ?_ (by assumption) ?_
    rotate_left
    · (intro wq hSq; (try dsimp only at hSq); go_split_ands; go_simp; (try with_reducible rfl))
    try simp only [Act.put, List.setIfInBounds_toArray, List.set_cons_zero, List.set_cons_succ]
    refine reg_take 21 (v := ?_) (by rfl) (by kernel_rfl) (by kernel_rfl) (by kernel_rfl) (fun _ _ _ h => h) (by rfl) ?_ (by assumption) ?_
    rotate_left
    · (intro wq hSq; (try dsimp only at hSq); go_split_ands; go_simp; (try with_reducible rfl))
    try simp only [Act.put, List.setIfInBounds_toArray, List.set_cons_zero, List.set_cons_succ]
    refine reg_take 22 (v := ?_) (by rfl) (by kernel_rfl) (by kernel_rfl) (by kernel_rfl) (fun _ _ _ h => h) (by rfl) ?_ (by assumption) ?_
    rotate_left
    · (intro wq hSq; (try dsimp only at hSq); go_split_ands; go_simp; (try with_reducible rfl))
    try simp only [Act.put, List.setIfInBounds_toArray, List.set_cons_zero, List.set_cons_succ]
    refine reg_take 25 (v := ?_) (by rfl) (by kernel_rfl) (by kernel_rfl) (by kernel_rfl) (fun _ _ _ h => h) (by rfl) ?_ (by assumption) ?_
    rotate_left
    · (intro wq hSq; (try dsimp only at hSq); go_split_ands; go_simp; (try with_reducible rfl))
    try simp only [Act.put, List.setIfInBounds_toArray, List.set_cons_zero, List.set_cons_succ]
    refine reg_two 23 26 (by rfl) (by rfl) (by kernel_rfl) (by rfl) (by rfl) (fun K hK => ?_) (fun K hK => ?_)
    · (go_simp)
      refine hK.out _ _ ?_ (fun hHeld => ?_)
      · exact KS.out _ (balloc B5 _)
      clear hK K
      try simp only [Act.put, List.setIfInBounds_toArray, List.set_cons_zero, List.set_cons_succ]
      refine reg_two 24 26 (by rfl) (by rfl) (by kernel_rfl) (by rfl) (by rfl) (fun K hK => ?_) (fun K hK => ?_)
      · (go_simp; go_at_call 9; refine (HL3.out _ _ B5 (by first | rfl | simp) _ (bself _)).mono ?_; rintro e x6 ⟨rfl, hx6⟩; have B6 := bstep (balloc B5 _) hx6; go_wp2_with fail)
        refine hK.out _ _ ?_ (fun hHeld => ?_)
        · exact KS.out _ B6
        clear hK K
        try simp only [Act.put, List.setIfInBounds_toArray, List.set_cons_zero, List.set_cons_succ]
        refine reg_one 26 (by rfl) (by kernel_rfl) (by rfl) (fun K hK => ?_)
        (go_simp)
        refine hK.out _ _ ?_ (fun hHeld => ?_)
        · exact KS.out _ (balloc B6 _)
        clear hK K
        try simp only [Act.put, List.setIfInBounds_toArray, List.set_cons_zero, List.set_cons_succ]
        refine reg_one 27 (by rfl) (by kernel_rfl) (by rfl) (fun K hK => ?_)
        (go_simp; go_at_call 9; refine (HL1.out _ _ B6 (by first | rfl | simp) _ (bself _)).mono ?_; rintro e x7 ⟨rfl, hx7⟩; have B7 := bstep (balloc B6 _) hx7; go_wp2_with fail)
        refine hK.out _ _ ?_ (fun hHeld => ?_)
        · exact KS.out _ B7
        clear hK K
        try simp only [Act.put, List.setIfInBounds_toArray, List.set_cons_zero, List.set_cons_succ]
        refine reg_take 28 (v := ?_) (by rfl) (by kernel_rfl) (by kernel_rfl) (by kernel_rfl) (fun _ _ _ h => h) (by rfl) ?_ (by assumption) ?_
        rotate_left
        · (intro wq hSq; (try dsimp only at hSq); go_split_ands; go_simp; (try with_reducible rfl))
        try simp only [Act.put, List.setIfInBounds_toArray, List.set_cons_zero, List.set_cons_succ]
        refine reg_take 29 (v := ?_) (by rfl) (by kernel_rfl) (by kernel_rfl) (by kernel_rfl) (fun _ _ _ h => h) (by rfl) ?_ (by assumption) ?_
        rotate_left
        · (intro wq hSq; (try dsimp only at hSq); go_split_ands; go_simp; (try with_reducible rfl))
        try simp only [Act.put, List.setIfInBounds_toArray, List.set_cons_zero, List.set_cons_succ]
        refine reg_take 30 (v := ?_) (by rfl) (by kernel_rfl) (by kernel_rfl) (by kernel_rfl) (fun _ _ _ h => h) (by rfl) ?_ (by assumption) ?_
        rotate_left
        · (intro wq hSq; (try dsimp only at hSq); go_split_ands; go_simp; (try with_reducible rfl))
        try simp only [Act.put, List.setIfInBounds_toArray, List.set_cons_zero, List.set_cons_succ]
        refine reg_take 31 (v := .agg c1) (by rfl) (by kernel_rfl) (by kernel_rfl) (by kernel_rfl) (fun _ _ _ h => h) (by rfl) ?_ (by assumption) ?_
        · (intro wq hSq; exact exec_loadD (.tmp 8) rfl _ rfl c1 hSq HN1.out.1)
        try simp only [Act.put, List.setIfInBounds_toArray, List.set_cons_zero, List.set_cons_succ]
        refine reg_take 32 (v := ?_) (by rfl) (by kernel_rfl) (by kernel_rfl) (by kernel_rfl) (fun _ _ _ h => h) (by rfl) ?_ (by assumption) ?_
        rotate_left
        · (intro wq hSq; (try dsimp only at hSq); go_split_ands; go_simp; (try with_reducible rfl))
        try simp only [Act.put, List.setIfInBounds_toArray, List.set_cons_zero, List.set_cons_succ]
        refine reg_take 33 (v := ?_) (by rfl) (by kernel_rfl) (by kernel_rfl) (by kernel_rfl) (fun _ _ _ h => h) (by rfl) ?_ (by assumption) ?_
        rotate_left
        · (intro wq hSq; (try dsimp only at hSq); go_split_ands; go_simp; (try with_reducible rfl))
        try simp only [Act.put, List.setIfInBounds_toArray, List.set_cons_zero, List.set_cons_succ]
        refine reg_take 34 (v := ?_) (by rfl) (by kernel_rfl) (by kernel_rfl) (by kernel_rfl) (fun _ _ _ h => h) (by rfl) ?_ (by assumption) ?_
        rotate_left
        · (intro wq hSq; (try dsimp only at hSq); go_split_ands; go_simp; (try with_reducible rfl))
        try simp only [Act.put, List.setIfInBounds_toArray, List.set_cons_zero, List.set_cons_succ]
        refine reg_one 35 (by rfl) (by kernel_rfl) (by rfl) (fun K hK => ?_)
        (go_simp)
        refine hK.out _ _ ?_ (fun hHeld => ?_)
        · exact KS.out _ (balloc B7 _)
        clear hK K
        try simp only [Act.put, List.setIfInBounds_toArray, List.set_cons_zero, List.set_cons_succ]
        refine reg_one 36 (by rfl) (by kernel_rfl) (by rfl) (fun K hK => ?_)
        (go_simp; go_at_call 9; refine (HLK.out _ _ B7 (by first | rfl | simp) _ (bself _)).mono ?_; rintro e x8 ⟨rfl, hx8⟩; have B8 := bstep (balloc B7 _) hx8; go_wp2_with fail)
        refine hK.out _ _ ?_ (fun hHeld => ?_)
        · exact KS.out _ B8
        clear hK K
        try simp only [Act.put, List.setIfInBounds_toArray, List.set_cons_zero, List.set_cons_succ]
        refine reg_take 37 (v := ?_) (by rfl) (by kernel_rfl) (by kernel_rfl) (by kernel_rfl) (fun _ _ _ h => h) (by rfl) ?_ (by assumption) ?_
        rotate_left
        · (intro wq hSq; (try dsimp only at hSq); go_split_ands; go_simp; (try with_reducible rfl))
        try simp only [Act.put, List.setIfInBounds_toArray, List.set_cons_zero, List.set_cons_succ]
        refine reg_take 38 (v := ?_) (by rfl) (by kernel_rfl) (by kernel_rfl) (by kernel_rfl) (fun _ _ _ h => h) (by rfl) ?_ (by assumption) ?_
        rotate_left
        · (intro wq hSq; (try dsimp only at hSq); go_split_ands; go_simp; (try with_reducible rfl))
        try simp only [Act.put, List.setIfInBounds_toArray, List.set_cons_zero, List.set_cons_succ]
        refine reg_take 39 (v := ?_) (by rfl) (by kernel_rfl) (by kernel_rfl) (by kernel_rfl) (fun _ _ _ h => h) (by rfl) ?_ (by assumption) ?_
        rotate_left
        · (intro wq hSq; (try dsimp only at hSq); go_split_ands; go_simp; (try with_reducible rfl))
        try simp only [Act.put, List.setIfInBounds_toArray, List.set_cons_zero, List.set_cons_succ]
        refine reg_take 40 (v := ?_) (by rfl) (by kernel_rfl) (by kernel_rfl) (by kernel_rfl) (fun _ _ _ h => h) (by rfl) ?_ (by assumption) ?_
        rotate_left
        · (intro wq hSq; (try dsimp only at hSq); go_split_ands; go_simp; (try with_reducible rfl))
        try simp only [Act.put, List.setIfInBounds_toArray, List.set_cons_zero, List.set_cons_succ]
        refine reg_take 42 (v := ?_) (by rfl) (by kernel_rfl) (by kernel_rfl) (by kernel_rfl) (fun _ _ _ h => h) (by rfl) ?_ (by assumption) ?_
        rotate_left
        · (intro wq hSq; (try dsimp only at hSq); go_split_ands; go_simp; (try with_reducible rfl))
        try simp only [Act.put, List.setIfInBounds_toArray, List.set_cons_zero, List.set_cons_succ]
        refine reg_take 43 (v := ?_) (by rfl) (by kernel_rfl) (by kernel_rfl) (by kernel_rfl) (fun _ _ _ h => h) (by rfl) ?_ (by assumption) ?_
        rotate_left
        · (intro wq hSq; (try dsimp only at hSq); go_split_ands; go_simp; (try with_reducible rfl))
        try simp only [Act.put, List.setIfInBounds_toArray, List.set_cons_zero, List.set_cons_succ]
        refine reg_one 41 (by rfl) (by kernel_rfl) (by rfl) (fun K hK => ?_)
        (go_simp; go_at_call 12; refine (HLP.out _ B8).mono ?_; rintro e y ⟨rfl, rfl⟩; go_wp2_with fail)
        refine hK.out _ _ ?_ (fun hHeld => ?_)
        · exact KS.out _ B8
        clear hK K
        try simp only [Act.put, List.setIfInBounds_toArray, List.set_cons_zero, List.set_cons_succ]
        refine reg_take 44 (v := ?_) (by rfl) (by kernel_rfl) (by kernel_rfl) (by kernel_rfl) (fun _ _ _ h => h) (by rfl) ?_ (by assumption) ?_
        rotate_left
        · (intro wq hSq; (try dsimp only at hSq); go_split_ands; go_simp; (try with_reducible rfl))
        try simp only [Act.put, List.setIfInBounds_toArray, List.set_cons_zero, List.set_cons_succ]
        refine reg_take 45 (v := ?_) (by rfl) (by kernel_rfl) (by kernel_rfl) (by kernel_rfl) (fun _ _ _ h => h) (by rfl) ?_ (by assumption) ?_
        rotate_left
        · (intro wq hSq; (try dsimp only at hSq); go_split_ands; go_simp; (try with_reducible rfl))
        try simp only [Act.put, List.setIfInBounds_toArray, List.set_cons_zero, List.set_cons_succ]
        refine reg_take 46 (v := ?_) (by rfl) (by kernel_rfl) (by kernel_rfl) (by kernel_rfl) (fun _ _ _ h => h) (by rfl) ?_ (by assumption) ?_
        rotate_left
        · (intro wq hSq; (try dsimp only at hSq); go_split_ands; go_simp; (try with_reducible rfl))
        try simp only [Act.put, List.setIfInBounds_toArray, List.set_cons_zero, List.set_cons_succ]
        refine wpAnyH_done (by kernel_rfl) (noPanic_mk ?_) _
        go_wp2_with fail
        go_ret
        exact ⟨rfl, bstep b9 B8⟩
      · (go_simp)
        refine hK.out _ _ ?_ (fun hHeld => ?_)
        · exact KS.out _ (balloc (balloc B5 _) _)
        clear hK K
        try simp only [Act.put, List.setIfInBounds_toArray, List.set_cons_zero, List.set_cons_succ]
        refine reg_one 24 (by rfl) (by kernel_rfl) (by rfl) (fun K hK => ?_)
        (go_simp; go_at_call 9; refine (HL3.out _ _ B5 (by first | rfl | simp) _ (balloc (bself _) _)).mono ?_; rintro e x6 ⟨rfl, hx6⟩; have B6 := bstep (balloc (balloc B5 _) _) hx6; go_wp2_with fail)
        refine hK.out _ _ ?_ (fun hHeld => ?_)
        · exact KS.out _ B6
        clear hK K
        try simp only [Act.put, List.setIfInBounds_toArray, List.set_cons_zero, List.set_cons_succ]
        refine reg_one 27 (by rfl) (by kernel_rfl) (by rfl) (fun K hK => ?_)
        (go_simp; go_at_call 9; refine (HL1.out _ _ (balloc B5 _) (by first | rfl | simp) _ (bstep (bself _) hx6)).mono ?_; rintro e x7 ⟨rfl, hx7⟩; have B7 := bstep B6 hx7; go_wp2_with fail)
        refine hK.out _ _ ?_ (fun hHeld => ?_)
        · exact KS.out _ B7
        clear hK K
        try simp only [Act.put, List.setIfInBounds_toArray, List.set_cons_zero, List.set_cons_succ]
        refine reg_take 28 (v := ?_) (by rfl) (by kernel_rfl) (by kernel_rfl) (by kernel_rfl) (fun _ _ _ h => h) (by rfl) ?_ (by assumption) ?_
        rotate_left
        · (intro wq hSq; (try dsimp only at hSq); go_split_ands; go_simp; (try with_reducible rfl))
        try simp only [Act.put, List.setIfInBounds_toArray, List.set_cons_zero, List.set_cons_succ]
        refine reg_take 29 (v := ?_) (by rfl) (by kernel_rfl) (by kernel_rfl) (by kernel_rfl) (fun _ _ _ h => h) (by rfl) ?_ (by assumption) ?_
        rotate_left
        · (intro wq hSq; (try dsimp only at hSq); go_split_ands; go_simp; (try with_reducible rfl))
        try simp only [Act.put, List.setIfInBounds_toArray, List.set_cons_zero, List.set_cons_succ]
        refine reg_take 30 (v := ?_) (by rfl) (by kernel_rfl) (by kernel_rfl) (by kernel_rfl) (fun _ _ _ h => h) (by rfl) ?_ (by assumption) ?_
        rotate_left
        · (intro wq hSq; (try dsimp only at hSq); go_split_ands; go_simp; (try with_reducible rfl))
        try simp only [Act.put, List.setIfInBounds_toArray, List.set_cons_zero, List.set_cons_succ]
        refine reg_take 31 (v := .agg c1) (by rfl) (by kernel_rfl) (by kernel_rfl) (by kernel_rfl) (fun _ _ _ h => h) (by rfl) ?_ (by assumption) ?_
        · (intro wq hSq; exact exec_loadD (.tmp 8) rfl _ rfl c1 hSq HN1.out.1)
        try simp only [Act.put, List.setIfInBounds_toArray, List.set_cons_zero, List.set_cons_succ]
        refine reg_take 32 (v := ?_) (by rfl) (by kernel_rfl) (by kernel_rfl) (by kernel_rfl) (fun _ _ _ h => h) (by rfl) ?_ (by assumption) ?_
        rotate_left
        · (intro wq hSq; (try dsimp only at hSq); go_split_ands; go_simp; (try with_reducible rfl))
        try simp only [Act.put, List.setIfInBounds_toArray, List.set_cons_zero, List.set_cons_succ]
        refine reg_take 33 (v := ?_) (by rfl) (by kernel_rfl) (by kernel_rfl) (by kernel_rfl) (fun _ _ _ h => h) (by rfl) ?_ (by assumption) ?_
        rotate_left
        · (intro wq hSq; (try dsimp only at hSq); go_split_ands; go_simp; (try with_reducible rfl))
        try simp only [Act.put, List.setIfInBounds_toArray, List.set_cons_zero, List.set_cons_succ]
        refine reg_take 34 (v := ?_) (by rfl) (by kernel_rfl) (by kernel_rfl) (by kernel_rfl) (fun _ _ _ h => h) (by rfl) ?_ (by assumption) ?_
        rotate_left
        · (intro wq hSq; (try dsimp only at hSq); go_split_ands; go_simp; (try with_reducible rfl))
        try simp only [Act.put, List.setIfInBounds_toArray, List.set_cons_zero, List.set_cons_succ]
        refine reg_one 35 (by rfl) (by kernel_rfl) (by rfl) (fun K hK => ?_)
        (go_simp)
        refine hK.out _ _ ?_ (fun hHeld => ?_)
        · exact KS.out _ (balloc B7 _)
        clear hK K
        try simp only [Act.put, List.setIfInBounds_toArray, List.set_cons_zero, List.set_cons_succ]
        refine reg_one 36 (by rfl) (by kernel_rfl) (by rfl) (fun K hK => ?_)
        (go_simp; go_at_call 9; refine (HLK.out _ _ B7 (by first | rfl | simp) _ (bself _)).mono ?_; rintro e x8 ⟨rfl, hx8⟩; have B8 := bstep (balloc B7 _) hx8; go_wp2_with fail)
        refine hK.out _ _ ?_ (fun hHeld => ?_)
        · exact KS.out _ B8
        clear hK K
        try simp only [Act.put, List.setIfInBounds_toArray, List.set_cons_zero, List.set_cons_succ]
        refine reg_take 37 (v := ?_) (by rfl) (by kernel_rfl) (by kernel_rfl) (by kernel_rfl) (fun _ _ _ h => h) (by rfl) ?_ (by assumption) ?_
        rotate_left
        · (intro wq hSq; (try dsimp only at hSq); go_split_ands; go_simp; (try with_reducible rfl))
        try simp only [Act.put, List.setIfInBounds_toArray, List.set_cons_zero, List.set_cons_succ]
        refine reg_take 38 (v := ?_) (by rfl) (by kernel_rfl) (by kernel_rfl) (by kernel_rfl) (fun _ _ _ h => h) (by rfl) ?_ (by assumption) ?_
        rotate_left
        · (intro wq hSq; (try dsimp only at hSq); go_split_ands; go_simp; (try with_reducible rfl))
        try simp only [Act.put, List.setIfInBounds_toArray, List.set_cons_zero, List.set_cons_succ]
        refine reg_take 39 (v := ?_) (by rfl) (by kernel_rfl) (by kernel_rfl) (by kernel_rfl) (fun _ _ _ h => h) (by rfl) ?_ (by assumption) ?_
        rotate_left
        · (intro wq hSq; (try dsimp only at hSq); go_split_ands; go_simp; (try with_reducible rfl))
        try simp only [Act.put, List.setIfInBounds_toArray, List.set_cons_zero, List.set_cons_succ]
        refine reg_take 40 (v := ?_) (by rfl) (by kernel_rfl) (by kernel_rfl) (by kernel_rfl) (fun _ _ _ h => h) (by rfl) ?_ (by assumption) ?_
        rotate_left
        · (intro wq hSq; (try dsimp only at hSq); go_split_ands; go_simp; (try with_reducible rfl))
        try simp only [Act.put, List.setIfInBounds_toArray, List.set_cons_zero, List.set_cons_succ]
        refine reg_take 42 (v := ?_) (by rfl) (by kernel_rfl) (by kernel_rfl) (by kernel_rfl) (fun _ _ _ h => h) (by rfl) ?_ (by assumption) ?_
        rotate_left
        · (intro wq hSq; (try dsimp only at hSq); go_split_ands; go_simp; (try with_reducible rfl))
        try simp only [Act.put, List.setIfInBounds_toArray, List.set_cons_zero, List.set_cons_succ]
        refine reg_take 43 (v := ?_) (by rfl) (by kernel_rfl) (by kernel_rfl) (by kernel_rfl) (fun _ _ _ h => h) (by rfl) ?_ (by assumption) ?_
        rotate_left
        · (intro wq hSq; (try dsimp only at hSq); go_split_ands; go_simp; (try with_reducible rfl))
        try simp only [Act.put, List.setIfInBounds_toArray, List.set_cons_zero, List.set_cons_succ]
        refine reg_one 41 (by rfl) (by kernel_rfl) (by rfl) (fun K hK => ?_)
        (go_simp; go_at_call 12; refine (HLP.out _ B8).mono ?_; rintro e y ⟨rfl, rfl⟩; go_wp2_with fail)
        refine hK.out _ _ ?_ (fun hHeld => ?_)
        · exact KS.out _ B8
        clear hK K
        try simp only [Act.put, List.setIfInBounds_toArray, List.set_cons_zero, List.set_cons_succ]
        refine reg_take 44 (v := ?_) (by rfl) (by kernel_rfl) (by kernel_rfl) (by kernel_rfl) (fun _ _ _ h => h) (by rfl) ?_ (by assumption) ?_
        rotate_left
        · (intro wq hSq; (try dsimp only at hSq); go_split_ands; go_simp; (try with_reducible rfl))
        try simp only [Act.put, List.setIfInBounds_toArray, List.set_cons_zero, List.set_cons_succ]
        refine reg_take 45 (v := ?_) (by rfl) (by kernel_rfl) (by kernel_rfl) (by kernel_rfl) (fun _ _ _ h => h) (by rfl) ?_ (by assumption) ?_
        rotate_left
        · (intro wq hSq; (try dsimp only at hSq); go_split_ands; go_simp; (try with_reducible rfl))
        try simp only [Act.put, List.setIfInBounds_toArray, List.set_cons_zero, List.set_cons_succ]
        refine reg_take 46 (v := ?_) (by rfl) (by kernel_rfl) (by kernel_rfl) (by kernel_rfl) (fun _ _ _ h => h) (by rfl) ?_ (by assumption) ?_
        rotate_left
        · (intro wq hSq; (try dsimp only at hSq); go_split_ands; go_simp; (try with_reducible rfl))
        try simp only [Act.put, List.setIfInBounds_toArray, List.set_cons_zero, List.set_cons_succ]
        refine wpAnyH_done (by kernel_rfl) (noPanic_mk ?_) _
        go_wp2_with fail
        go_ret
        exact ⟨rfl, bstep b9 B8⟩
    · (go_simp)
      refine hK.out _ _ ?_ (fun hHeld => ?_)
      · exact KS.out _ (balloc B5 _)
      clear hK K
      try simp only [Act.put, List.setIfInBounds_toArray, List.set_cons_zero, List.set_cons_succ]
      refine reg_one 23 (by rfl) (by kernel_rfl) (by rfl) (fun K hK => ?_)
      (go_simp)
      refine hK.out _ _ ?_ (fun hHeld => ?_)
      · exact KS.out _ (balloc (balloc B5 _) _)
      clear hK K
      try simp only [Act.put, List.setIfInBounds_toArray, List.set_cons_zero, List.set_cons_succ]
      refine reg_one 24 (by rfl) (by kernel_rfl) (by rfl) (fun K hK => ?_)
      (go_simp; go_at_call 9; refine (HL3.out _ _ (balloc B5 _) (by first | rfl | simp) _ (bself _)).mono ?_; rintro e x6 ⟨rfl, hx6⟩; have B6 := bstep (balloc (balloc B5 _) _) hx6; go_wp2_with fail)
      refine hK.out _ _ ?_ (fun hHeld => ?_)
      · exact KS.out _ B6
      clear hK K
      try simp only [Act.put, List.setIfInBounds_toArray, List.set_cons_zero, List.set_cons_succ]
      refine reg_one 27 (by rfl) (by kernel_rfl) (by rfl) (fun K hK => ?_)
      (go_simp; go_at_call 9; refine (HL1.out _ _ B5 (by first | rfl | simp) _ (bstep (balloc (bself _) _) hx6)).mono ?_; rintro e x7 ⟨rfl, hx7⟩; have B7 := bstep B6 hx7; go_wp2_with fail)
      refine hK.out _ _ ?_ (fun hHeld => ?_)
      · exact KS.out _ B7
      clear hK K
      try simp only [Act.put, List.setIfInBounds_toArray, List.set_cons_zero, List.set_cons_succ]
      refine reg_take 28 (v := ?_) (by rfl) (by kernel_rfl) (by kernel_rfl) (by kernel_rfl) (fun _ _ _ h => h) (by rfl) ?_ (by assumption) ?_
      rotate_left
      · (intro wq hSq; (try dsimp only at hSq); go_split_ands; go_simp; (try with_reducible rfl))
      try simp only [Act.put, List.setIfInBounds_toArray, List.set_cons_zero, List.set_cons_succ]
      refine reg_take 29 (v := ?_) (by rfl) (by kernel_rfl) (by kernel_rfl) (by kernel_rfl) (fun _ _ _ h => h) (by rfl) ?_ (by assumption) ?_
      rotate_left
      · (intro wq hSq; (try dsimp only at hSq); go_split_ands; go_simp; (try with_reducible rfl))
      try simp only [Act.put, List.setIfInBounds_toArray, List.set_cons_zero, List.set_cons_succ]
      refine reg_take 30 (v := ?_) (by rfl) (by kernel_rfl) (by kernel_rfl) (by kernel_rfl) (fun _ _ _ h => h) (by rfl) ?_ (by assumption) ?_
      rotate_left
      · (intro wq hSq; (try dsimp only at hSq); go_split_ands; go_simp; (try with_reducible rfl))
      try simp only [Act.put, List.setIfInBounds_toArray, List.set_cons_zero, List.set_cons_succ]
      refine reg_take 31 (v := .agg c1) (by rfl) (by kernel_rfl) (by kernel_rfl) (by kernel_rfl) (fun _ _ _ h => h) (by rfl) ?_ (by assumption) ?_
      · (intro wq hSq; exact exec_loadD (.tmp 8) rfl _ rfl c1 hSq HN1.out.1)
      try simp only [Act.put, List.setIfInBounds_toArray, List.set_cons_zero, List.set_cons_succ]
      refine reg_take 32 (v := ?_) (by rfl) (by kernel_rfl) (by kernel_rfl) (by kernel_rfl) (fun _ _ _ h => h) (by rfl) ?_ (by assumption) ?_
      rotate_left
      · (intro wq hSq; (try dsimp only at hSq); go_split_ands; go_simp; (try with_reducible rfl))
      try simp only [Act.put, List.setIfInBounds_toArray, List.set_cons_zero, List.set_cons_succ]
      refine reg_take 33 (v := ?_) (by rfl) (by kernel_rfl) (by kernel_rfl) (by kernel_rfl) (fun _ _ _ h => h) (by rfl) ?_ (by assumption) ?_
      rotate_left
      · (intro wq hSq; (try dsimp only at hSq); go_split_ands; go_simp; (try with_reducible rfl))
      try simp only [Act.put, List.setIfInBounds_toArray, List.set_cons_zero, List.set_cons_succ]
      refine reg_take 34 (v := ?_) (by rfl) (by kernel_rfl) (by kernel_rfl) (by kernel_rfl) (fun _ _ _ h => h) (by rfl) ?_ (by assumption) ?_
      rotate_left
      · (intro wq hSq; (try dsimp only at hSq); go_split_ands; go_simp; (try with_reducible rfl))
      try simp only [Act.put, List.setIfInBounds_toArray, List.set_cons_zero, List.set_cons_succ]
      refine reg_one 35 (by rfl) (by kernel_rfl) (by rfl) (fun K hK => ?_)
      (go_simp)
      refine hK.out _ _ ?_ (fun hHeld => ?_)
      · exact KS.out _ (balloc B7 _)
      clear hK K
      try simp only [Act.put, List.setIfInBounds_toArray, List.set_cons_zero, List.set_cons_succ]
      refine reg_one 36 (by rfl) (by kernel_rfl) (by rfl) (fun K hK => ?_)
      (go_simp; go_at_call 9; refine (HLK.out _ _ B7 (by first | rfl | simp) _ (bself _)).mono ?_; rintro e x8 ⟨rfl, hx8⟩; have B8 := bstep (balloc B7 _) hx8; go_wp2_with fail)
      refine hK.out _ _ ?_ (fun hHeld => ?_)
      · exact KS.out _ B8
      clear hK K
      try simp only [Act.put, List.setIfInBounds_toArray, List.set_cons_zero, List.set_cons_succ]
      refine reg_take 37 (v := ?_) (by rfl) (by kernel_rfl) (by kernel_rfl) (by kernel_rfl) (fun _ _ _ h => h) (by rfl) ?_ (by assumption) ?_
      rotate_left
      · (intro wq hSq; (try dsimp only at hSq); go_split_ands; go_simp; (try with_reducible rfl))
      try simp only [Act.put, List.setIfInBounds_toArray, List.set_cons_zero, List.set_cons_succ]
      refine reg_take 38 (v := ?_) (by rfl) (by kernel_rfl) (by kernel_rfl) (by kernel_rfl) (fun _ _ _ h => h) (by rfl) ?_ (by assumption) ?_
      rotate_left
      · (intro wq hSq; (try dsimp only at hSq); go_split_ands; go_simp; (try with_reducible rfl))
      try simp only [Act.put, List.setIfInBounds_toArray, List.set_cons_zero, List.set_cons_succ]
      refine reg_take 39 (v := ?_) (by rfl) (by kernel_rfl) (by kernel_rfl) (by kernel_rfl) (fun _ _ _ h => h) (by rfl) ?_ (by assumption) ?_
      rotate_left
      · (intro wq hSq; (try dsimp only at hSq); go_split_ands; go_simp; (try with_reducible rfl))
      try simp only [Act.put, List.setIfInBounds_toArray, List.set_cons_zero, List.set_cons_succ]
      refine reg_take 40 (v := ?_) (by rfl) (by kernel_rfl) (by kernel_rfl) (by kernel_rfl) (fun _ _ _ h => h) (by rfl) ?_ (by assumption) ?_
      rotate_left
      · (intro wq hSq; (try dsimp only at hSq); go_split_ands; go_simp; (try with_reducible rfl))
      try simp only [Act.put, List.setIfInBounds_toArray, List.set_cons_zero, List.set_cons_succ]
      refine reg_take 42 (v := ?_) (by rfl) (by kernel_rfl) (by kernel_rfl) (by kernel_rfl) (fun _ _ _ h => h) (by rfl) ?_ (by assumption) ?_
      rotate_left
      · (intro wq hSq; (try dsimp only at hSq); go_split_ands; go_simp; (try with_reducible rfl))
      try simp only [Act.put, List.setIfInBounds_toArray, List.set_cons_zero, List.set_cons_succ]
      refine reg_take 43 (v := ?_) (by rfl) (by kernel_rfl) (by kernel_rfl) (by kernel_rfl) (fun _ _ _ h => h) (by rfl) ?_ (by assumption) ?_
      rotate_left
      · (intro wq hSq; (try dsimp only at hSq); go_split_ands; go_simp; (try with_reducible rfl))
      try simp only [Act.put, List.setIfInBounds_toArray, List.set_cons_zero, List.set_cons_succ]
      refine reg_one 41 (by rfl) (by kernel_rfl) (by rfl) (fun K hK => ?_)
      (go_simp; go_at_call 12; refine (HLP.out _ B8).mono ?_; rintro e y ⟨rfl, rfl⟩; go_wp2_with fail)
      refine hK.out _ _ ?_ (fun hHeld => ?_)
      · exact KS.out _ B8
      clear hK K
      try simp only [Act.put, List.setIfInBounds_toArray, List.set_cons_zero, List.set_cons_succ]
      refine reg_take 44 (v := ?_) (by rfl) (by kernel_rfl) (by kernel_rfl) (by kernel_rfl) (fun _ _ _ h => h) (by rfl) ?_ (by assumption) ?_
      rotate_left
      · (intro wq hSq; (try dsimp only at hSq); go_split_ands; go_simp; (try with_reducible rfl))
      try simp only [Act.put, List.setIfInBounds_toArray, List.set_cons_zero, List.set_cons_succ]
      refine reg_take 45 (v := ?_) (by rfl) (by kernel_rfl) (by kernel_rfl) (by kernel_rfl) (fun _ _ _ h => h) (by rfl) ?_ (by assumption) ?_
      rotate_left
      · (intro wq hSq; (try dsimp only at hSq); go_split_ands; go_simp; (try with_reducible rfl))
      try simp only [Act.put, List.setIfInBounds_toArray, List.set_cons_zero, List.set_cons_succ]
      refine reg_take 46 (v := ?_) (by rfl) (by kernel_rfl) (by kernel_rfl) (by kernel_rfl) (fun _ _ _ h => h) (by rfl) ?_ (by assumption) ?_
      rotate_left
      · (intro wq hSq; (try dsimp only at hSq); go_split_ands; go_simp; (try with_reducible rfl))
      try simp only [Act.put, List.setIfInBounds_toArray, List.set_cons_zero, List.set_cons_succ]
      refine wpAnyH_done (by kernel_rfl) (noPanic_mk ?_) _
      go_wp2_with fail
      go_ret
      exact ⟨rfl, bstep b9 B8⟩
  · (go_simp)
    refine hK.out _ _ ?_ (fun hHeld => ?_)
    · exact KS.out _ (balloc B3 _)
    clear hK K
    try simp only [Act.put, List.setIfInBounds_toArray, List.set_cons_zero, List.set_cons_succ]
    refine reg_one 10 (by rfl) (by kernel_rfl) (by rfl) (fun K hK => ?_)
    (go_simp; go_at_call 13; refine (HSP.out _ (balloc B3 _)).mono ?_; rintro e x4 ⟨rfl, hx4⟩; have B4 := bstep (balloc B3 _) hx4; go_wp2_with fail)
    refine hK.out _ _ ?_ (fun hHeld => ?_)
    · exact KS.out _ B4
    clear hK K
    try simp only [Act.put, List.setIfInBounds_toArray, List.set_cons_zero, List.set_cons_succ]
    refine reg_one 13 (by rfl) (by kernel_rfl) (by rfl) (fun K hK => ?_)
    (go_simp; go_at_call 9; refine (HL1.out _ _ B3 (by first | rfl | simp) _ (bstep (bself _) hx4)).mono ?_; rintro e x5 ⟨rfl, hx5⟩; have B5 := bstep B4 hx5; go_wp2_with fail)
    refine hK.out _ _ ?_ (fun hHeld => ?_)
    · exact KS.out _ B5
    clear hK K
    try simp only [Act.put, List.setIfInBounds_toArray, List.set_cons_zero, List.set_cons_succ]
    refine reg_take 14 (v := ?_) (by rfl) (by kernel_rfl) (by kernel_rfl) (by kernel_rfl) (fun _ _ _ h => h) (by rfl) ?_ (by assumption) ?_
    rotate_left
    · (intro wq hSq; (try dsimp only at hSq); go_split_ands; go_simp; (try with_reducible rfl))
    try simp only [Act.put, List.setIfInBounds_toArray, List.set_cons_zero, List.set_cons_succ]
    refine reg_take 15 (v := ?_) (by rfl) (by kernel_rfl) (by kernel_rfl) (by kernel_rfl) (fun _ _ _ h => h) (by rfl) ?_ (by assumption) ?_
    rotate_left
    · (intro wq hSq; (try dsimp only at hSq); go_split_ands; go_simp; (try with_reducible rfl))
    try simp only [Act.put, List.setIfInBounds_toArray, List.set_cons_zero, List.set_cons_succ]
    refine reg_take 16 (v := ?_) (by rfl) (by kernel_rfl) (by kernel_rfl) (by kernel_rfl) (fun _ _ _ h => h) (by rfl) ?_ (by assumption) ?_
    rotate_left
    · (intro wq hSq; (try dsimp only at hSq); go_split_ands; go_simp; (try with_reducible rfl))
    try simp only [Act.put, List.setIfInBounds_toArray, List.set_cons_zero, List.set_cons_succ]
    refine reg_take 17 (v := ?_) (by rfl) (by kernel_rfl) (by kernel_rfl) (by kernel_rfl) (fun _ _ _ h => h) (by rfl) ?_ (by assumption) ?_
    rotate_left
    · (intro wq hSq; (try dsimp only at hSq); go_split_ands; go_simp; (try with_reducible rfl))
    try simp only [Act.put, List.setIfInBounds_toArray, List.set_cons_zero, List.set_cons_succ]
    refine reg_take 18 (v := ?_) (by rfl) (by kernel_rfl) (by kernel_rfl) (by kernel_rfl) (fun _ _ _ h => h) (by rfl) ?_ (by assumption) ?_
    rotate_left
    · (intro wq hSq; (try dsimp only at hSq); go_split_ands; go_simp; (try with_reducible rfl))
    try simp only [Act.put, List.setIfInBounds_toArray, List.set_cons_zero, List.set_cons_succ]
    refine reg_take 19 (v := ?_) (by rfl) (by kernel_rfl) (by kernel_rfl) (by kernel_rfl) (fun _ _ _ h => h) (by rfl) ?_ (by assumption) ?_
    rotate_left
    · (intro wq hSq; (try dsimp only at hSq); go_split_ands; go_simp; (try with_reducible rfl))
    try simp only [Act.put, List.setIfInBounds_toArray, List.set_cons_zero, List.set_cons_succ]
    refine reg_take 20 (v := ?_) (by rfl) (by kernel_rfl) (by kernel_rfl) (by kernel_rfl) (fun _ _ _ h => h) (by rfl) ?_ (by assumption) ?_
    rotate_left
    · (intro wq hSq; (try dsimp only at hSq); go_split_ands; go_simp; (try with_reducible rfl))
    try simp only [Act.put, List.setIfInBounds_toArray, List.set_cons_zero, List.set_cons_succ]
    refine reg_take 21 (v := ?_) (by rfl) (by kernel_rfl) (by kernel_rfl) (by kernel_rfl) (fun _ _ _ h => h) (by rfl) ?_ (by assumption) ?_
    rotate_left
    · (intro wq hSq; (try dsimp only at hSq); go_split_ands; go_simp; (try with_reducible rfl))
    try simp only [Act.put, List.setIfInBounds_toArray, List.set_cons_zero, List.set_cons_succ]
    refine reg_take 22 (v := ?_) (by rfl) (by kernel_rfl) (by kernel_rfl) (by kernel_rfl) (fun _ _ _ h => h) (by rfl) ?_ (by assumption) ?_
    rotate_left
    · (intro wq hSq; (try dsimp only at hSq); go_split_ands; go_simp; (try with_reducible rfl))
    try simp only [Act.put, List.setIfInBounds_toArray, List.set_cons_zero, List.set_cons_succ]
    refine reg_take 25 (v := ?_) (by rfl) (by kernel_rfl) (by kernel_rfl) (by kernel_rfl) (fun _ _ _ h => h) (by rfl) ?_ (by assumption) ?_
    rotate_left
    · (intro wq hSq; (try dsimp only at hSq); go_split_ands; go_simp; (try with_reducible rfl))
    try simp only [Act.put, List.setIfInBounds_toArray, List.set_cons_zero, List.set_cons_succ]
    refine reg_two 23 26 (by rfl) (by rfl) (by kernel_rfl) (by rfl) (by rfl) (fun K hK => ?_) (fun K hK => ?_)
    · (go_simp)
      refine hK.out _ _ ?_ (fun hHeld => ?_)
      · exact KS.out _ (balloc B5 _)
      clear hK K
      try simp only [Act.put, List.setIfInBounds_toArray, List.set_cons_zero, List.set_cons_succ]
      refine reg_two 24 26 (by rfl) (by rfl) (by kernel_rfl) (by rfl) (by rfl) (fun K hK => ?_) (fun K hK => ?_)
      · (go_simp; go_at_call 9; refine (HL3.out _ _ B5 (by first | rfl | simp) _ (bself _)).mono ?_; rintro e x6 ⟨rfl, hx6⟩; have B6 := bstep (balloc B5 _) hx6; go_wp2_with fail)
        refine hK.out _ _ ?_ (fun hHeld => ?_)
        · exact KS.out _ B6
        clear hK K
        try simp only [Act.put, List.setIfInBounds_toArray, List.set_cons_zero, List.set_cons_succ]
        refine reg_one 26 (by rfl) (by kernel_rfl) (by rfl) (fun K hK => ?_)
        (go_simp)
        refine hK.out _ _ ?_ (fun hHeld => ?_)
        · exact KS.out _ (balloc B6 _)
        clear hK K
        try simp only [Act.put, List.setIfInBounds_toArray, List.set_cons_zero, List.set_cons_succ]
        refine reg_one 27 (by rfl) (by kernel_rfl) (by rfl) (fun K hK => ?_)
        (go_simp; go_at_call 9; refine (HL1.out _ _ B6 (by first | rfl | simp) _ (bself _)).mono ?_; rintro e x7 ⟨rfl, hx7⟩; have B7 := bstep (balloc B6 _) hx7; go_wp2_with fail)
        refine hK.out _ _ ?_ (fun hHeld => ?_)
        · exact KS.out _ B7
        clear hK K
        try simp only [Act.put, List.setIfInBounds_toArray, List.set_cons_zero, List.set_cons_succ]
        refine reg_take 28 (v := ?_) (by rfl) (by kernel_rfl) (by kernel_rfl) (by kernel_rfl) (fun _ _ _ h => h) (by rfl) ?_ (by assumption) ?_
        rotate_left
        · (intro wq hSq; (try dsimp only at hSq); go_split_ands; go_simp; (try with_reducible rfl))
        try simp only [Act.put, List.setIfInBounds_toArray, List.set_cons_zero, List.set_cons_succ]
        refine reg_take 29 (v := ?_) (by rfl) (by kernel_rfl) (by kernel_rfl) (by kernel_rfl) (fun _ _ _ h => h) (by rfl) ?_ (by assumption) ?_
        rotate_left
        · (intro wq hSq; (try dsimp only at hSq); go_split_ands; go_simp; (try with_reducible rfl))
        try simp only [Act.put, List.setIfInBounds_toArray, List.set_cons_zero, List.set_cons_succ]
        refine reg_take 30 (v := ?_) (by rfl) (by kernel_rfl) (by kernel_rfl) (by kernel_rfl) (fun _ _ _ h => h) (by rfl) ?_ (by assumption) ?_
        rotate_left
        · (intro wq hSq; (try dsimp only at hSq); go_split_ands; go_simp; (try with_reducible rfl))
        try simp only [Act.put, List.setIfInBounds_toArray, List.set_cons_zero, List.set_cons_succ]
        refine reg_take 31 (v := .agg c1) (by rfl) (by kernel_rfl) (by kernel_rfl) (by kernel_rfl) (fun _ _ _ h => h) (by rfl) ?_ (by assumption) ?_
        · (intro wq hSq; exact exec_loadD (.tmp 8) rfl _ rfl c1 hSq HN1.out.1)
        try simp only [Act.put, List.setIfInBounds_toArray, List.set_cons_zero, List.set_cons_succ]
        refine reg_take 32 (v := ?_) (by rfl) (by kernel_rfl) (by kernel_rfl) (by kernel_rfl) (fun _ _ _ h => h) (by rfl) ?_ (by assumption) ?_
        rotate_left
        · (intro wq hSq; (try dsimp only at hSq); go_split_ands; go_simp; (try with_reducible rfl))
        try simp only [Act.put, List.setIfInBounds_toArray, List.set_cons_zero, List.set_cons_succ]
        refine reg_take 33 (v := ?_) (by rfl) (by kernel_rfl) (by kernel_rfl) (by kernel_rfl) (fun _ _ _ h => h) (by rfl) ?_ (by assumption) ?_
        rotate_left
        · (intro wq hSq; (try dsimp only at hSq); go_split_ands; go_simp; (try with_reducible rfl))
        try simp only [Act.put, List.setIfInBounds_toArray, List.set_cons_zero, List.set_cons_succ]
        refine reg_take 34 (v := ?_) (by rfl) (by kernel_rfl) (by kernel_rfl) (by kernel_rfl) (fun _ _ _ h => h) (by rfl) ?_ (by assumption) ?_
        rotate_left
        · (intro wq hSq; (try dsimp only at hSq); go_split_ands; go_simp; (try with_reducible rfl))
        try simp only [Act.put, List.setIfInBounds_toArray, List.set_cons_zero, List.set_cons_succ]
        refine reg_one 35 (by rfl) (by kernel_rfl) (by rfl) (fun K hK => ?_)
        (go_simp)
        refine hK.out _ _ ?_ (fun hHeld => ?_)
        · exact KS.out _ (balloc B7 _)
        clear hK K
        try simp only [Act.put, List.setIfInBounds_toArray, List.set_cons_zero, List.set_cons_succ]
        refine reg_one 36 (by rfl) (by kernel_rfl) (by rfl) (fun K hK => ?_)
        (go_simp; go_at_call 9; refine (HLK.out _ _ B7 (by first | rfl | simp) _ (bself _)).mono ?_; rintro e x8 ⟨rfl, hx8⟩; have B8 := bstep (balloc B7 _) hx8; go_wp2_with fail)
        refine hK.out _ _ ?_ (fun hHeld => ?_)
        · exact KS.out _ B8
        clear hK K
        try simp only [Act.put, List.setIfInBounds_toArray, List.set_cons_zero, List.set_cons_succ]
        refine reg_take 37 (v := ?_) (by rfl) (by kernel_rfl) (by kernel_rfl) (by kernel_rfl) (fun _ _ _ h => h) (by rfl) ?_ (by assumption) ?_
        rotate_left
        · (intro wq hSq; (try dsimp only at hSq); go_split_ands; go_simp; (try with_reducible rfl))
        try simp only [Act.put, List.setIfInBounds_toArray, List.set_cons_zero, List.set_cons_succ]
        refine reg_take 38 (v := ?_) (by rfl) (by kernel_rfl) (by kernel_rfl) (by kernel_rfl) (fun _ _ _ h => h) (by rfl) ?_ (by assumption) ?_
        rotate_left
        · (intro wq hSq; (try dsimp only at hSq); go_split_ands; go_simp; (try with_reducible rfl))
        try simp only [Act.put, List.setIfInBounds_toArray, List.set_cons_zero, List.set_cons_succ]
        refine reg_take 39 (v := ?_) (by rfl) (by kernel_rfl) (by kernel_rfl) (by kernel_rfl) (fun _ _ _ h => h) (by rfl) ?_ (by assumption) ?_
        rotate_left
        · (intro wq hSq; (try dsimp only at hSq); go_split_ands; go_simp; (try with_reducible rfl))
        try simp only [Act.put, List.setIfInBounds_toArray, List.set_cons_zero, List.set_cons_succ]
        refine reg_take 40 (v := ?_) (by rfl) (by kernel_rfl) (by kernel_rfl) (by kernel_rfl) (fun _ _ _ h => h) (by rfl) ?_ (by assumption) ?_
        rotate_left
        · (intro wq hSq; (try dsimp only at hSq); go_split_ands; go_simp; (try with_reducible rfl))
        try simp only [Act.put, List.setIfInBounds_toArray, List.set_cons_zero, List.set_cons_succ]
        refine reg_take 42 (v := ?_) (by rfl) (by kernel_rfl) (by kernel_rfl) (by kernel_rfl) (fun _ _ _ h => h) (by rfl) ?_ (by assumption) ?_
        rotate_left
        · (intro wq hSq; (try dsimp only at hSq); go_split_ands; go_simp; (try with_reducible rfl))
        try simp only [Act.put, List.setIfInBounds_toArray, List.set_cons_zero, List.set_cons_succ]
        refine reg_take 43 (v := ?_) (by rfl) (by kernel_rfl) (by kernel_rfl) (by kernel_rfl) (fun _ _ _ h => h) (by rfl) ?_ (by assumption) ?_
        rotate_left
        · (intro wq hSq; (try dsimp only at hSq); go_split_ands; go_simp; (try with_reducible rfl))
        try simp only [Act.put, List.setIfInBounds_toArray, List.set_cons_zero, List.set_cons_succ]
        refine reg_one 41 (by rfl) (by kernel_rfl) (by rfl) (fun K hK => ?_)
        (go_simp; go_at_call 12; refine (HLP.out _ B8).mono ?_; rintro e y ⟨rfl, rfl⟩; go_wp2_with fail)
        refine hK.out _ _ ?_ (fun hHeld => ?_)
        · exact KS.out _ B8
        clear hK K
        try simp only [Act.put, List.setIfInBounds_toArray, List.set_cons_zero, List.set_cons_succ]
        refine reg_take 44 (v := ?_) (by rfl) (by kernel_rfl) (by kernel_rfl) (by kernel_rfl) (fun _ _ _ h => h) (by rfl) ?_ (by assumption) ?_
        rotate_left
        · (intro wq hSq; (try dsimp only at hSq); go_split_ands; go_simp; (try with_reducible rfl))
        try simp only [Act.put, List.setIfInBounds_toArray, List.set_cons_zero, List.set_cons_succ]
        refine reg_take 45 (v := ?_) (by rfl) (by kernel_rfl) (by kernel_rfl) (by kernel_rfl) (fun _ _ _ h => h) (by rfl) ?_ (by assumption) ?_
        rotate_left
        · (intro wq hSq; (try dsimp only at hSq); go_split_ands; go_simp; (try with_reducible rfl))
        try simp only [Act.put, List.setIfInBounds_toArray, List.set_cons_zero, List.set_cons_succ]
        refine reg_take 46 (v := ?_) (by rfl) (by kernel_rfl) (by kernel_rfl) (by kernel_rfl) (fun _ _ _ h => h) (by rfl) ?_ (by assumption) ?_
        rotate_left
        · (intro wq hSq; (try dsimp only at hSq); go_split_ands; go_simp; (try with_reducible rfl))
        try simp only [Act.put, List.setIfInBounds_toArray, List.set_cons_zero, List.set_cons_succ]
        refine wpAnyH_done (by kernel_rfl) (noPanic_mk ?_) _
        go_wp2_with fail
        go_ret
        exact ⟨rfl, bstep b9 B8⟩
      · (go_simp)
        refine hK.out _ _ ?_ (fun hHeld => ?_)
        · exact KS.out _ (balloc (balloc B5 _) _)
        clear hK K
        try simp only [Act.put, List.setIfInBounds_toArray, List.set_cons_zero, List.set_cons_succ]
        refine reg_one 24 (by rfl) (by kernel_rfl) (by rfl) (fun K hK => ?_)
        (go_simp; go_at_call 9; refine (HL3.out _ _ B5 (by first | rfl | simp) _ (balloc (bself _) _)).mono ?_; rintro e x6 ⟨rfl, hx6⟩; have B6 := bstep (balloc (balloc B5 _) _) hx6; go_wp2_with fail)
        refine hK.out _ _ ?_ (fun hHeld => ?_)
        · exact KS.out _ B6
        clear hK K
        try simp only [Act.put, List.setIfInBounds_toArray, List.set_cons_zero, List.set_cons_succ]
        refine reg_one 27 (by rfl) (by kernel_rfl) (by rfl) (fun K hK => ?_)
        (go_simp; go_at_call 9; refine (HL1.out _ _ (balloc B5 _) (by first | rfl | simp) _ (bstep (bself _) hx6)).mono ?_; rintro e x7 ⟨rfl, hx7⟩; have B7 := bstep B6 hx7; go_wp2_with fail)
        refine hK.out _ _ ?_ (fun hHeld => ?_)
        · exact KS.out _ B7
        clear hK K
        try simp only [Act.put, List.setIfInBounds_toArray, List.set_cons_zero, List.set_cons_succ]
        refine reg_take 28 (v := ?_) (by rfl) (by kernel_rfl) (by kernel_rfl) (by kernel_rfl) (fun _ _ _ h => h) (by rfl) ?_ (by assumption) ?_
        rotate_left
        · (intro wq hSq; (try dsimp only at hSq); go_split_ands; go_simp; (try with_reducible rfl))
        try simp only [Act.put, List.setIfInBounds_toArray, List.set_cons_zero, List.set_cons_succ]
        refine reg_take 29 (v := ?_) (by rfl) (by kernel_rfl) (by kernel_rfl) (by kernel_rfl) (fun _ _ _ h => h) (by rfl) ?_ (by assumption) ?_
        rotate_left
        · (intro wq hSq; (try dsimp only at hSq); go_split_ands; go_simp; (try with_reducible rfl))
        try simp only [Act.put, List.setIfInBounds_toArray, List.set_cons_zero, List.set_cons_succ]
        refine reg_take 30 (v := ?_) (by rfl) (by kernel_rfl) (by kernel_rfl) (by kernel_rfl) (fun _ _ _ h => h) (by rfl) ?_ (by assumption) ?_
        rotate_left
        · (intro wq hSq; (try dsimp only at hSq); go_split_ands; go_simp; (try with_reducible rfl))
        try simp only [Act.put, List.setIfInBounds_toArray, List.set_cons_zero, List.set_cons_succ]
        refine reg_take 31 (v := .agg c1) (by rfl) (by kernel_rfl) (by kernel_rfl) (by kernel_rfl) (fun _ _ _ h => h) (by rfl) ?_ (by assumption) ?_
        · (intro wq hSq; exact exec_loadD (.tmp 8) rfl _ rfl c1 hSq HN1.out.1)
        try simp only [Act.put, List.setIfInBounds_toArray, List.set_cons_zero, List.set_cons_succ]
        refine reg_take 32 (v := ?_) (by rfl) (by kernel_rfl) (by kernel_rfl) (by kernel_rfl) (fun _ _ _ h => h) (by rfl) ?_ (by assumption) ?_
        rotate_left
        · (intro wq hSq; (try dsimp only at hSq); go_split_ands; go_simp; (try with_reducible rfl))
        try simp only [Act.put, List.setIfInBounds_toArray, List.set_cons_zero, List.set_cons_succ]
        refine reg_take 33 (v := ?_) (by rfl) (by kernel_rfl) (by kernel_rfl) (by kernel_rfl) (fun _ _ _ h => h) (by rfl) ?_ (by assumption) ?_
        rotate_left
        · (intro wq hSq; (try dsimp only at hSq); go_split_ands; go_simp; (try with_reducible rfl))
        try simp only [Act.put, List.setIfInBounds_toArray, List.set_cons_zero, List.set_cons_succ]
        refine reg_take 34 (v := ?_) (by rfl) (by kernel_rfl) (by kernel_rfl) (by kernel_rfl) (fun _ _ _ h => h) (by rfl) ?_ (by assumption) ?_
        rotate_left
        · (intro wq hSq; (try dsimp only at hSq); go_split_ands; go_simp; (try with_reducible rfl))
        try simp only [Act.put, List.setIfInBounds_toArray, List.set_cons_zero, List.set_cons_succ]
        refine reg_one 35 (by rfl) (by kernel_rfl) (by rfl) (fun K hK => ?_)
        (go_simp)
        refine hK.out _ _ ?_ (fun hHeld => ?_)
        · exact KS.out _ (balloc B7 _)
        clear hK K
        try simp only [Act.put, List.setIfInBounds_toArray, List.set_cons_zero, List.set_cons_succ]
        refine reg_one 36 (by rfl) (by kernel_rfl) (by rfl) (fun K hK => ?_)
        (go_simp; go_at_call 9; refine (HLK.out _ _ B7 (by first | rfl | simp) _ (bself _)).mono ?_; rintro e x8 ⟨rfl, hx8⟩; have B8 := bstep (balloc B7 _) hx8; go_wp2_with fail)
        refine hK.out _ _ ?_ (fun hHeld => ?_)
        · exact KS.out _ B8
        clear hK K
        try simp only [Act.put, List.setIfInBounds_toArray, List.set_cons_zero, List.set_cons_succ]
        refine reg_take 37 (v := ?_) (by rfl) (by kernel_rfl) (by kernel_rfl) (by kernel_rfl) (fun _ _ _ h => h) (by rfl) ?_ (by assumption) ?_
        rotate_left
        · (intro wq hSq; (try dsimp only at hSq); go_split_ands; go_simp; (try with_reducible rfl))
        try simp only [Act.put, List.setIfInBounds_toArray, List.set_cons_zero, List.set_cons_succ]
        refine reg_take 38 (v := ?_) (by rfl) (by kernel_rfl) (by kernel_rfl) (by kernel_rfl) (fun _ _ _ h => h) (by rfl) ?_ (by assumption) ?_
        rotate_left
        · (intro wq hSq; (try dsimp only at hSq); go_split_ands; go_simp; (try with_reducible rfl))
        try simp only [Act.put, List.setIfInBounds_toArray, List.set_cons_zero, List.set_cons_succ]
        refine reg_take 39 (v := ?_) (by rfl) (by kernel_rfl) (by kernel_rfl) (by kernel_rfl) (fun _ _ _ h => h) (by rfl) ?_ (by assumption) ?_
        rotate_left
        · (intro wq hSq; (try dsimp only at hSq); go_split_ands; go_simp; (try with_reducible rfl))
        try simp only [Act.put, List.setIfInBounds_toArray, List.set_cons_zero, List.set_cons_succ]
        refine reg_take 40 (v := ?_) (by rfl) (by kernel_rfl) (by kernel_rfl) (by kernel_rfl) (fun _ _ _ h => h) (by rfl) ?_ (by assumption) ?_
        rotate_left
        · (intro wq hSq; (try dsimp only at hSq); go_split_ands; go_simp; (try with_reducible rfl))
        try simp only [Act.put, List.setIfInBounds_toArray, List.set_cons_zero, List.set_cons_succ]
        refine reg_take 42 (v := ?_) (by rfl) (by kernel_rfl) (by kernel_rfl) (by kernel_rfl) (fun _ _ _ h => h) (by rfl) ?_ (by assumption) ?_
        rotate_left
        · (intro wq hSq; (try dsimp only at hSq); go_split_ands; go_simp; (try with_reducible rfl))
        try simp only [Act.put, List.setIfInBounds_toArray, List.set_cons_zero, List.set_cons_succ]
        refine reg_take 43 (v := ?_) (by rfl) (by kernel_rfl) (by kernel_rfl) (by kernel_rfl) (fun _ _ _ h => h) (by rfl) ?_ (by assumption) ?_
        rotate_left
        · (intro wq hSq; (try dsimp only at hSq); go_split_ands; go_simp; (try with_reducible rfl))
        try simp only [Act.put, List.setIfInBounds_toArray, List.set_cons_zero, List.set_cons_succ]
        refine reg_one 41 (by rfl) (by kernel_rfl) (by rfl) (fun K hK => ?_)
        (go_simp; go_at_call 12; refine (HLP.out _ B8).mono ?_; rintro e y ⟨rfl, rfl⟩; go_wp2_with fail)
        refine hK.out _ _ ?_ (fun hHeld => ?_)
        · exact KS.out _ B8
        clear hK K
        try simp only [Act.put, List.setIfInBounds_toArray, List.set_cons_zero, List.set_cons_succ]
        refine reg_take 44 (v := ?_) (by rfl) (by kernel_rfl) (by kernel_rfl) (by kernel_rfl) (fun _ _ _ h => h) (by rfl) ?_ (by assumption) ?_
        rotate_left
        · (intro wq hSq; (try dsimp only at hSq); go_split_ands; go_simp; (try with_reducible rfl))
        try simp only [Act.put, List.setIfInBounds_toArray, List.set_cons_zero, List.set_cons_succ]
        refine reg_take 45 (v := ?_) (by rfl) (by kernel_rfl) (by kernel_rfl) (by kernel_rfl) (fun _ _ _ h => h) (by rfl) ?_ (by assumption) ?_
        rotate_left
        · (intro wq hSq; (try dsimp only at hSq); go_split_ands; go_simp; (try with_reducible rfl))
        try simp only [Act.put, List.setIfInBounds_toArray, List.set_cons_zero, List.set_cons_succ]
        refine reg_take 46 (v := ?_) (by rfl) (by kernel_rfl) (by kernel_rfl) (by kernel_rfl) (fun _ _ _ h => h) (by rfl) ?_ (by assumption) ?_
        rotate_left
        · (intro wq hSq; (try dsimp only at hSq); go_split_ands; go_simp; (try with_reducible rfl))
        try simp only [Act.put, List.setIfInBounds_toArray, List.set_cons_zero, List.set_cons_succ]
        refine wpAnyH_done (by kernel_rfl) (noPanic_mk ?_) _
        go_wp2_with fail
        go_ret
        exact ⟨rfl, bstep b9 B8⟩
    · (go_simp)
      refine hK.out _ _ ?_ (fun hHeld => ?_)
      · exact KS.out _ (balloc B5 _)
      clear hK K
      try simp only [Act.put, List.setIfInBounds_toArray, List.set_cons_zero, List.set_cons_succ]
      refine reg_one 23 (by rfl) (by kernel_rfl) (by rfl) (fun K hK => ?_)
      (go_simp)
      refine hK.out _ _ ?_ (fun hHeld => ?_)
      · exact KS.out _ (balloc (balloc B5 _) _)
      clear hK K
      try simp only [Act.put, List.setIfInBounds_toArray, List.set_cons_zero, List.set_cons_succ]
      refine reg_one 24 (by rfl) (by kernel_rfl) (by rfl) (fun K hK => ?_)
      (go_simp; go_at_call 9; refine (HL3.out _ _ (balloc B5 _) (by first | rfl | simp) _ (bself _)).mono ?_; rintro e x6 ⟨rfl, hx6⟩; have B6 := bstep (balloc (balloc B5 _) _) hx6; go_wp2_with fail)
      refine hK.out _ _ ?_ (fun hHeld => ?_)
      · exact KS.out _ B6
      clear hK K
      try simp only [Act.put, List.setIfInBounds_toArray, List.set_cons_zero, List.set_cons_succ]
      refine reg_one 27 (by rfl) (by kernel_rfl) (by rfl) (fun K hK => ?_)
      (go_simp; go_at_call 9; refine (HL1.out _ _ B5 (by first | rfl | simp) _ (bstep (balloc (bself _) _) hx6)).mono ?_; rintro e x7 ⟨rfl, hx7⟩; have B7 := bstep B6 hx7; go_wp2_with fail)
      refine hK.out _ _ ?_ (fun hHeld => ?_)
      · exact KS.out _ B7
      clear hK K
      try simp only [Act.put, List.setIfInBounds_toArray, List.set_cons_zero, List.set_cons_succ]
      refine reg_take 28 (v := ?_) (by rfl) (by kernel_rfl) (by kernel_rfl) (by kernel_rfl) (fun _ _ _ h => h) (by rfl) ?_ (by assumption) ?_
      rotate_left
      · (intro wq hSq; (try dsimp only at hSq); go_split_ands; go_simp; (try with_reducible rfl))
      try simp only [Act.put, List.setIfInBounds_toArray, List.set_cons_zero, List.set_cons_succ]
      refine reg_take 29 (v := ?_) (by rfl) (by kernel_rfl) (by kernel_rfl) (by kernel_rfl) (fun _ _ _ h => h) (by rfl) ?_ (by assumption) ?_
      rotate_left
      · (intro wq hSq; (try dsimp only at hSq); go_split_ands; go_simp; (try with_reducible rfl))
      try simp only [Act.put, List.setIfInBounds_toArray, List.set_cons_zero, List.set_cons_succ]
      refine reg_take 30 (v := ?_) (by rfl) (by kernel_rfl) (by kernel_rfl) (by kernel_rfl) (fun _ _ _ h => h) (by rfl) ?_ (by assumption) ?_
      rotate_left
      · (intro wq hSq; (try dsimp only at hSq); go_split_ands; go_simp; (try with_reducible rfl))
      try simp only [Act.put, List.setIfInBounds_toArray, List.set_cons_zero, List.set_cons_succ]
      refine reg_take 31 (v := .agg c1) (by rfl) (by kernel_rfl) (by kernel_rfl) (by kernel_rfl) (fun _ _ _ h => h) (by rfl) ?_ (by assumption) ?_
      · (intro wq hSq; exact exec_loadD (.tmp 8) rfl _ rfl c1 hSq HN1.out.1)
      try simp only [Act.put, List.setIfInBounds_toArray, List.set_cons_zero, List.set_cons_succ]
      refine reg_take 32 (v := ?_) (by rfl) (by kernel_rfl) (by kernel_rfl) (by kernel_rfl) (fun _ _ _ h => h) (by rfl) ?_ (by assumption) ?_
      rotate_left
      · (intro wq hSq; (try dsimp only at hSq); go_split_ands; go_simp; (try with_reducible rfl))
      try simp only [Act.put, List.setIfInBounds_toArray, List.set_cons_zero, List.set_cons_succ]
      refine reg_take 33 (v := ?_) (by rfl) (by kernel_rfl) (by kernel_rfl) (by kernel_rfl) (fun _ _ _ h => h) (by rfl) ?_ (by assumption) ?_
      rotate_left
      · (intro wq hSq; (try dsimp only at hSq); go_split_ands; go_simp; (try with_reducible rfl))
      try simp only [Act.put, List.setIfInBounds_toArray, List.set_cons_zero, List.set_cons_succ]
      refine reg_take 34 (v := ?_) (by rfl) (by kernel_rfl) (by kernel_rfl) (by kernel_rfl) (fun _ _ _ h => h) (by rfl) ?_ (by assumption) ?_
      rotate_left
      · (intro wq hSq; (try dsimp only at hSq); go_split_ands; go_simp; (try with_reducible rfl))
      try simp only [Act.put, List.setIfInBounds_toArray, List.set_cons_zero, List.set_cons_succ]
      refine reg_one 35 (by rfl) (by kernel_rfl) (by rfl) (fun K hK => ?_)
      (go_simp)
      refine hK.out _ _ ?_ (fun hHeld => ?_)
      · exact KS.out _ (balloc B7 _)
      clear hK K
      try simp only [Act.put, List.setIfInBounds_toArray, List.set_cons_zero, List.set_cons_succ]
      refine reg_one 36 (by rfl) (by kernel_rfl) (by rfl) (fun K hK => ?_)
      (go_simp; go_at_call 9; refine (HLK.out _ _ B7 (by first | rfl | simp) _ (bself _)).mono ?_; rintro e x8 ⟨rfl, hx8⟩; have B8 := bstep (balloc B7 _) hx8; go_wp2_with fail)
      refine hK.out _ _ ?_ (fun hHeld => ?_)
      · exact KS.out _ B8
      clear hK K
      try simp only [Act.put, List.setIfInBounds_toArray, List.set_cons_zero, List.set_cons_succ]
      refine reg_take 37 (v := ?_) (by rfl) (by kernel_rfl) (by kernel_rfl) (by kernel_rfl) (fun _ _ _ h => h) (by rfl) ?_ (by assumption) ?_
      rotate_left
      · (intro wq hSq; (try dsimp only at hSq); go_split_ands; go_simp; (try with_reducible rfl))
      try simp only [Act.put, List.setIfInBounds_toArray, List.set_cons_zero, List.set_cons_succ]
      refine reg_take 38 (v := ?_) (by rfl) (by kernel_rfl) (by kernel_rfl) (by kernel_rfl) (fun _ _ _ h => h) (by rfl) ?_ (by assumption) ?_
      rotate_left
      · (intro wq hSq; (try dsimp only at hSq); go_split_ands; go_simp; (try with_reducible rfl))
      try simp only [Act.put, List.setIfInBounds_toArray, List.set_cons_zero, List.set_cons_succ]
      refine reg_take 39 (v := ?_) (by rfl) (by kernel_rfl) (by kernel_rfl) (by kernel_rfl) (fun _ _ _ h => h) (by rfl) ?_ (by assumption) ?_
      rotate_left
      · (intro wq hSq; (try dsimp only at hSq); go_split_ands; go_simp; (try with_reducible rfl))
      try simp only [Act.put, List.setIfInBounds_toArray, List.set_cons_zero, List.set_cons_succ]
      refine reg_take 40 (v := ?_) (by rfl) (by kernel_rfl) (by kernel_rfl) (by kernel_rfl) (fun _ _ _ h => h) (by rfl) ?_ (by assumption) ?_
      rotate_left
      · (intro wq hSq; (try dsimp only at hSq); go_split_ands; go_simp; (try with_reducible rfl))
      try simp only [Act.put, List.setIfInBounds_toArray, List.set_cons_zero, List.set_cons_succ]
      refine reg_take 42 (v := ?_) (by rfl) (by kernel_rfl) (by kernel_rfl) (by kernel_rfl) (fun _ _ _ h => h) (by rfl) ?_ (by assumption) ?_
      rotate_left
      · (intro wq hSq; (try dsimp only at hSq); go_split_ands; go_simp; (try with_reducible rfl))
      try simp only [Act.put, List.setIfInBounds_toArray, List.set_cons_zero, List.set_cons_succ]
      refine reg_take 43 (v := ?_) (by rfl) (by kernel_rfl) (by kernel_rfl) (by kernel_rfl) (fun _ _ _ h => h) (by rfl) ?_ (by assumption) ?_
      rotate_left
      · (intro wq hSq; (try dsimp only at hSq); go_split_ands; go_simp; (try with_reducible rfl))
      try simp only [Act.put, List.setIfInBounds_toArray, List.set_cons_zero, List.set_cons_succ]
      refine reg_one 41 (by rfl) (by kernel_rfl) (by rfl) (fun K hK => ?_)
      (go_simp; go_at_call 12; refine (HLP.out _ B8).mono ?_; rintro e y ⟨rfl, rfl⟩; go_wp2_with fail)
      refine hK.out _ _ ?_ (fun hHeld => ?_)
      · exact KS.out _ B8
      clear hK K
      try simp only [Act.put, List.setIfInBounds_toArray, List.set_cons_zero, List.set_cons_succ]
      refine reg_take 44 (v := ?_) (by rfl) (by kernel_rfl) (by kernel_rfl) (by kernel_rfl) (fun _ _ _ h => h) (by rfl) ?_ (by assumption) ?_
      rotate_left
      · (intro wq hSq; (try dsimp only at hSq); go_split_ands; go_simp; (try with_reducible rfl))
      try simp only [Act.put, List.setIfInBounds_toArray, List.set_cons_zero, List.set_cons_succ]
      refine reg_take 45 (v := ?_) (by rfl) (by kernel_rfl) (by kernel_rfl) (by kernel_rfl) (fun _ _ _ h => h) (by rfl) ?_ (by assumption) ?_
      rotate_left
      · (intro wq hSq; (try dsimp only at hSq); go_split_ands; go_simp; (try with_reducible rfl))
      try simp only [Act.put, List.setIfInBounds_toArray, List.set_cons_zero, List.set_cons_succ]
      refine reg_take 46 (v := ?_) (by rfl) (by kernel_rfl) (by kernel_rfl) (by kernel_rfl) (fun _ _ _ h => h) (by rfl) ?_ (by assumption) ?_
      rotate_left
      · (intro wq hSq; (try dsimp only at hSq); go_split_ands; go_simp; (try with_reducible rfl))
      try simp only [Act.put, List.setIfInBounds_toArray, List.set_cons_zero, List.set_cons_succ]
      refine wpAnyH_done (by kernel_rfl) (noPanic_mk ?_) _
      go_wp2_with fail
      go_ret
      exact ⟨rfl, bstep b9 B8⟩
end Go.Proofs.YthhcoljhfokacaaDoor
