/-
  What is proved here: what MacDerives of tantaluslaw04 comes to, at this seat's numbers. Conditions: the lengths; the tables of constants.
-/
import Derived.Test.YtlkogeccmcmilaaDoorMacDerR
namespace Go.Proofs.YtlkogeccmcmilaaDoor
open Go.RowKit

set_option maxRecDepth 100000 in
set_option maxHeartbeats 2000000 in
theorem macDerives_any (root use : List UInt8) (hr : root.length = 32) (u : Value) (W : World) (hu : SB W W.heap.size u use) (hl2 : use.length ≤ 140737488351232) (hk : KTab W 0) (h1 : 0 < W.heap.size) (hk0 : KTab W 1) (h0 : 1 < W.heap.size) :
    Calls Tryd.prog 9 #[.agg (dgA root), u] W fun e W' => e = .returned (.bool true) ∧ Below W.heap.size W W' := by
  obtain ⟨A2, c2, rfl, _, _, _⟩ := id hu
  obtain ⟨cr, hcr⟩ : ∃ cr, dgA root = cr := ⟨_, rfl⟩
  obtain ⟨kk, hkk⟩ : ∃ kk, dgA (keyOfUse root use) = kk := ⟨_, rfl⟩
  have hEq : ∀ w', (Op.equalIn 10000 41 (.agg kk) (.agg kk)).run Tryd.prog w' = .ok true w' := fun w' => run_eqKey w' _ (keyOfUse_length root use) kk hkk
  have HN : Hid (cr.size = 32) := Lib.hid (by rw [← hcr, dgA_size, hr])
  have HS := Lib.hid (And.intro hcr hkk)
  rw [hcr]
  clear hcr hkk
  go_enter Tryd.func9, Tryd.ntmps9
  have hcn : cr.size = 32 := HN.out
  go_upto_region 1 with fail
  clear hcn
  generalize hw1 : World.alloc _ _ = w1
  have rR : w1.heap[W.heap.size]? = some (rowO cr) := by rw [← hw1]; exact heap_alloc_new W _
  have b1 : Below W.heap.size W w1 := by rw [← hw1]; exact balloc (bself W) _
  have z1 : W.heap.size < w1.heap.size := by rw [← hw1]; simp
  clear hw1
  have KS : Hid (∀ w', Below w1.heap.size w1 w' → w'.heap[W.heap.size]? = some (rowO cr)) := Lib.hid (fun w' h => (h.block W.heap.size z1).trans rR)
  have HSH : Hid (∀ w', Below w1.heap.size w1 w' → Calls Tryd.prog 12 #[] w' fun e w'' => e = .returned (.bool true) ∧ Below w1.heap.size w1 w'') := Lib.hid (fun w' h => (shown4_any w' (hk.on (bstep b1 h) h1) (by have := (bstep b1 h).size; omega)).mono fun e w'' ⟨he, hb⟩ => ⟨he, bstep h hb⟩)
  have HM1 : Hid (∀ w', Below w1.heap.size w1 w' → Calls Tryd.prog 19 #[.agg cr, .slice A2 use.length c2] w' fun e w'' => e = .returned (.agg kk) ∧ Below w1.heap.size w1 w'') := Lib.hid (fun w' h => (kDerive_any root use hr cr kk HS.out.1 HS.out.2 _ w' (hu.on (bstep b1 h)) (by omega) (hk.on (bstep b1 h) h1) (by have := (bstep b1 h).size; omega)).mono fun e w'' ⟨he, hb⟩ => ⟨he, bstep h hb⟩)
  have HM2 : Hid (∀ w', Below w1.heap.size w1 w' → Calls Tryd.prog 20 #[.agg cr, .slice A2 use.length c2] w' fun e w'' => e = .returned (.agg kk) ∧ Below w1.heap.size w1 w'') := Lib.hid (fun w' h => (rDerive_any root use hr cr kk HS.out.1 HS.out.2 _ w' (hu.on (bstep b1 h)) (by omega) (hk0.on0 (bstep b1 h) h0) (by have := (bstep b1 h).size; omega)).mono fun e w'' ⟨he, hb⟩ => ⟨he, bstep h hb⟩)
  clear rR
  refine wp_region_noPanic ?_
  refine wp_region_held_drew (S := fun w' => w'.heap[W.heap.size]? = some (rowO cr)) (by kernel_rfl) (KS.out _ (bdrew (bself w1))) (fun hHeld => ?_)
  refine reg_one 0 (by rfl) (by kernel_rfl) (by rfl) (fun K hK => ?_)
  (go_simp; go_at_call 12; refine (HSH.out _ (bdrew (bself w1))).mono ?_; rintro e w3 ⟨rfl, b3⟩; go_wp2_with fail)
  refine hK.out _ _ ?_ (fun hHeld => ?_)
  · exact KS.out _ b3
  clear hK K
  try simp only [Act.put, List.setIfInBounds_toArray, List.set_cons_zero, List.set_cons_succ]
  refine reg_take 1 (v := ?_) (by rfl) (by kernel_rfl) (by kernel_rfl) (by kernel_rfl) (fun _ _ _ h => h) (by rfl) ?_ (by assumption) ?_
  rotate_left
  · (intro wq hSq; (try dsimp only at hSq); go_split_ands; go_simp; (try with_reducible rfl))
  try simp only [Act.put, List.setIfInBounds_toArray, List.set_cons_zero, List.set_cons_succ]
  refine reg_take 2 (v := .agg cr) (by rfl) (by kernel_rfl) (by kernel_rfl) (by kernel_rfl) (fun _ _ _ h => h) (by rfl) ?_ (by assumption) ?_
  · (intro wq hSq; exact exec_loadD' (.tmp 2) rfl _ rfl cr hSq HN.out)
  try simp only [Act.put, List.setIfInBounds_toArray, List.set_cons_zero, List.set_cons_succ]
  refine reg_take 3 (v := ?_) (by rfl) (by kernel_rfl) (by kernel_rfl) (by kernel_rfl) (fun _ _ _ h => h) (by rfl) ?_ (by assumption) ?_
  rotate_left
  · (intro wq hSq; (try dsimp only at hSq); go_split_ands; go_simp; (try with_reducible rfl))
  try simp only [Act.put, List.setIfInBounds_toArray, List.set_cons_zero, List.set_cons_succ]
  refine reg_take 5 (v := .agg cr) (by rfl) (by kernel_rfl) (by kernel_rfl) (by kernel_rfl) (fun _ _ _ h => h) (by rfl) ?_ (by assumption) ?_
  · (intro wq hSq; exact exec_loadD' (.tmp 2) rfl _ rfl cr hSq HN.out)
  try simp only [Act.put, List.setIfInBounds_toArray, List.set_cons_zero, List.set_cons_succ]
  refine reg_take 6 (v := ?_) (by rfl) (by kernel_rfl) (by kernel_rfl) (by kernel_rfl) (fun _ _ _ h => h) (by rfl) ?_ (by assumption) ?_
  rotate_left
  · (intro wq hSq; (try dsimp only at hSq); go_split_ands; go_simp; (try with_reducible rfl))
  try simp only [Act.put, List.setIfInBounds_toArray, List.set_cons_zero, List.set_cons_succ]
  refine reg_one 4 (by rfl) (by kernel_rfl) (by rfl) (fun K hK => ?_)
  (go_simp; go_at_call 19; refine (HM1.out _ b3).mono ?_; rintro e w4 ⟨rfl, b4⟩; go_wp2_with fail)
  refine hK.out _ _ ?_ (fun hHeld => ?_)
  · exact KS.out _ b4
  clear hK K
  try simp only [Act.put, List.setIfInBounds_toArray, List.set_cons_zero, List.set_cons_succ]
  refine reg_one 7 (by rfl) (by kernel_rfl) (by rfl) (fun K hK => ?_)
  (go_simp; go_at_call 20; refine (HM2.out _ b4).mono ?_; rintro e w5 ⟨rfl, b5⟩; go_wp2_with fail)
  refine hK.out _ _ ?_ (fun hHeld => ?_)
  · exact KS.out _ b5
  clear hK K
  try simp only [Act.put, List.setIfInBounds_toArray, List.set_cons_zero, List.set_cons_succ]
  refine reg_take 8 (v := ?_) (by rfl) (by kernel_rfl) (by kernel_rfl) (by kernel_rfl) (fun _ _ _ h => h) (by rfl) ?_ (by assumption) ?_
  rotate_left
  · (intro wq hSq; (try dsimp only at hSq); go_split_ands; go_simp; (try with_reducible rfl))
  try simp only [Act.put, List.setIfInBounds_toArray, List.set_cons_zero, List.set_cons_succ]
  refine reg_take 9 (v := ?_) (by rfl) (by kernel_rfl) (by kernel_rfl) (by kernel_rfl) (fun _ _ _ h => h) (by rfl) ?_ (by assumption) ?_
  rotate_left
  · (intro wq hSq; (try dsimp only at hSq); go_split_ands; go_simp; (try with_reducible rfl))
  try simp only [Act.put, List.setIfInBounds_toArray, List.set_cons_zero, List.set_cons_succ]
  refine reg_take 10 (v := ?_) (by rfl) (by kernel_rfl) (by kernel_rfl) (by kernel_rfl) (fun _ _ _ h => h) (by rfl) ?_ (by assumption) ?_
  rotate_left
  · (intro wq hSq; (try dsimp only at hSq); go_split_ands; go_simp; (try with_reducible rfl))
  try simp only [Act.put, List.setIfInBounds_toArray, List.set_cons_zero, List.set_cons_succ]
  refine wpAnyH_done (by kernel_rfl) (noPanic_mk ?_) _
  go_wp2_with fail
  go_ret
  exact ⟨rfl, bstep b1 b5⟩
end Go.Proofs.YtlkogeccmcmilaaDoor
