/-
  What is proved here: what MerkleChecks of tantaluslaw11 comes to, at this seat's numbers. Conditions: the tables of constants.
-/
import Derived.Test.YtjmlohfldkbbaaaDoorMerkRefL
import Derived.Test.YtjmlohfldkbbaaaDoorHeldArg
namespace Go.Proofs.YtjmlohfldkbbaaaDoor
open Go.RowKit

set_option maxRecDepth 100000 in
set_option maxHeartbeats 1000000 in
theorem merkleChecks_any (root leaf : Dg) (n at_ : Int) (u : Value) (l : List Dg) (W : World) (hn : n ≤ 9223372036854775807) (hu : SD W W.heap.size u l) (hk : KTab W 1) (h1 : 1 < W.heap.size) (hk0 : KTab W 0) (h0 : 0 < W.heap.size) :
    Calls Tryd.prog 4 #[.agg (heldC root n at_ leaf u).toArray] W fun e W' => e = .returned (.bool true) ∧ Below W.heap.size W W' := by
  obtain ⟨A, c0, rfl, _, _⟩ := hu.form
  obtain ⟨hc, hhc⟩ : ∃ hc, hc = (heldC root n at_ leaf (.slice A l.length c0)).toArray := ⟨_, rfl⟩
  have HN : Hid (hc.size = 67) := Lib.hid (by rw [hhc]; simp [heldC, bv_length, root.2, leaf.2])
  obtain ⟨q, hq⟩ : ∃ q, q = decide (checkD root n at_ leaf l) := ⟨_, rfl⟩
  rw [← hhc]
  go_enter Tryd.func4, Tryd.ntmps4
  have hcn := HN.out
  go_upto_region 1 with fail
  clear hcn
  generalize hw1 : World.alloc _ _ = w1
  have rR : w1.heap[W.heap.size]? = some (.cells hc 33) := by rw [← hw1, hhc]; exact heap_alloc_new W _
  have b1 : Below W.heap.size W w1 := by rw [← hw1]; exact balloc (bself W) _
  have z1 : W.heap.size < w1.heap.size := by rw [← hw1]; simp
  clear hw1
  have hcell : ∀ w', Below w1.heap.size w1 w' → ∀ j u, (heldC root n at_ leaf (.slice A l.length c0))[j]? = some u → w'.cell? ⟨W.heap.size, j, none⟩ = some u := fun w' h j u hj => by
    rw [cell_of_row _ _ j _ _ _ ((h.block W.heap.size z1).trans rR), hhc, ← hj]
    simp
  have lr : (bv root.1).length = 32 := dbv_len root
  have ll : (bv leaf.1).length = 32 := dbv_len leaf
  have KS : Hid (∀ w', Below w1.heap.size w1 w' → w'.rangeAt W.heap.size 0 (bv root.1) ∧ w'.rangeAt W.heap.size 34 (bv leaf.1) ∧ w'.cell? ⟨W.heap.size, 32, none⟩ = some (.int .i64 n) ∧ w'.cell? ⟨W.heap.size, 33, none⟩ = some (.int .i64 at_) ∧ w'.cell? ⟨W.heap.size, 66, none⟩ = some (.slice A l.length c0)) := Lib.hid (fun w' h => by
    have hc := hcell w' h
    refine ⟨fun j u hj => ?_, fun j u hj => ?_, hc 32 _ ?_, hc 33 _ ?_, hc 66 _ ?_⟩
    · have hl := (List.getElem?_eq_some_iff.1 hj).1
      rw [Nat.zero_add]
      refine hc j u ?_
      unfold heldC
      rw [List.getElem?_append_left hl]
      exact hj
    · have hl := (List.getElem?_eq_some_iff.1 hj).1
      refine hc (34 + j) u ?_
      unfold heldC
      rw [List.getElem?_append_right (by omega), lr, show 34 + j - 32 = (j + 1) + 1 by omega, List.getElem?_cons_succ, List.getElem?_cons_succ, List.getElem?_append_left hl]
      exact hj
    · unfold heldC; rw [List.getElem?_append_right (by omega), lr]; rfl
    · unfold heldC; rw [List.getElem?_append_right (by omega), lr]; rfl
    · unfold heldC
      rw [List.getElem?_append_right (by omega), lr, show 66 - 32 = (32 + 1) + 1 by omega, List.getElem?_cons_succ, List.getElem?_cons_succ, List.getElem?_append_right (by omega), ll]
      rfl)
  have HSH : Hid (∀ w', Below w1.heap.size w1 w' → Calls Tryd.prog 12 #[] w' fun e w'' => e = .returned (.bool true) ∧ Below w1.heap.size w1 w'') := Lib.hid (fun w' h => (shown11_any w' (hk.on (bstep b1 h) h1) (by have := (bstep b1 h).size; omega)).mono fun e w'' ⟨he, hb⟩ => ⟨he, bstep h hb⟩)
  have HM1 : Hid (∀ w', Below w1.heap.size w1 w' → Calls Tryd.prog 14 #[.agg (dgA root.1), .int .i64 n, .int .i64 at_, .agg (dgA leaf.1), .slice A l.length c0] w' fun e w'' => e = .returned (.bool q) ∧ Below w1.heap.size w1 w'') := Lib.hid (fun w' h => by
    rw [hq]
    exact (kCheck_any root leaf n at_ l _ w' hn (hu.on (bstep b1 h)) (hk.on (bstep b1 h) h1) (by have := (bstep b1 h).size; omega)).mono fun e w'' ⟨he, hb⟩ => ⟨he, bstep h hb⟩)
  have HM2 : Hid (∀ w', Below w1.heap.size w1 w' → Calls Tryd.prog 15 #[.agg (dgA root.1), .int .i64 n, .int .i64 at_, .agg (dgA leaf.1), .slice A l.length c0] w' fun e w'' => e = .returned (.bool q) ∧ Below w1.heap.size w1 w'') := Lib.hid (fun w' h => by
    rw [hq]
    exact (rCheck_any root leaf n at_ l _ w' hn (hu.on (bstep b1 h)) (hk0.on0 (bstep b1 h) h0) (by have := (bstep b1 h).size; omega)).mono fun e w'' ⟨he, hb⟩ => ⟨he, bstep h hb⟩)
  clear hcell rR hhc hu lr ll hq
  refine wp_region_noPanic ?_
  refine wp_region_held_drew (S := fun w' => w'.rangeAt W.heap.size 0 (bv root.1) ∧ w'.rangeAt W.heap.size 34 (bv leaf.1) ∧ w'.cell? ⟨W.heap.size, 32, none⟩ = some (.int .i64 n) ∧ w'.cell? ⟨W.heap.size, 33, none⟩ = some (.int .i64 at_) ∧ w'.cell? ⟨W.heap.size, 66, none⟩ = some (.slice A l.length c0)) (by kernel_rfl) (KS.out _ (bdrew (bself w1))) (fun hHeld => ?_)
  refine reg_one 0 (by rfl) (by kernel_rfl) (by rfl) (fun K hK => ?_)
  (go_simp; go_at_call 12; refine (HSH.out _ (bdrew (bself w1))).mono ?_; rintro e w3 ⟨rfl, b3⟩; go_wp2_with fail)
  refine hK.out _ _ ?_ (fun hHeld => ?_)
  · exact KS.out _ b3
  clear hK K
  try simp only [Act.put, List.setIfInBounds_toArray, List.set_cons_zero, List.set_cons_succ]
  refine reg_take 1 (v := ?_) (by rfl) (by kernel_rfl) (by kernel_rfl) (by kernel_rfl) (fun _ _ _ h => h) (by rfl) ?_ (by assumption) ?_
  rotate_left
  · (intro wq hSq; (try dsimp only at hSq); go_split_ands; go_simp; (try with_reducible rfl))
  try simp only [Act.put, List.setIfInBounds_toArray, List.set_cons_zero, List.set_cons_succ]
  refine reg_take 2 (v := ?_) (by rfl) (by kernel_rfl) (by kernel_rfl) (by kernel_rfl) (fun _ _ _ h => h) (by rfl) ?_ (by assumption) ?_
  rotate_left
  · (intro wq hSq; (try dsimp only at hSq); go_split_ands; go_simp; (try with_reducible rfl))
  try simp only [Act.put, List.setIfInBounds_toArray, List.set_cons_zero, List.set_cons_succ]
  refine reg_take 3 (v := .agg (dgA root.1)) (by rfl) (by kernel_rfl) (by kernel_rfl) (by kernel_rfl) (fun _ _ _ h => h) (by rfl) ?_ (by assumption) ?_
  · (intro wq hSq; exact exec_loadM (.tmp 5) rfl W.heap.size 0 rfl root hSq.1)
  try simp only [Act.put, List.setIfInBounds_toArray, List.set_cons_zero, List.set_cons_succ]
  refine reg_take 4 (v := ?_) (by rfl) (by kernel_rfl) (by kernel_rfl) (by kernel_rfl) (fun _ _ _ h => h) (by rfl) ?_ (by assumption) ?_
  rotate_left
  · (intro wq hSq; (try dsimp only at hSq); go_split_ands; go_simp; (try with_reducible rfl))
  try simp only [Act.put, List.setIfInBounds_toArray, List.set_cons_zero, List.set_cons_succ]
  refine reg_take 5 (v := ?_) (by rfl) (by kernel_rfl) (by kernel_rfl) (by kernel_rfl) (fun _ _ _ h => h) (by rfl) ?_ (by assumption) ?_
  rotate_left
  · (intro wq hSq; (try dsimp only at hSq); go_split_ands; go_simp; (try with_reducible rfl))
  try simp only [Act.put, List.setIfInBounds_toArray, List.set_cons_zero, List.set_cons_succ]
  refine reg_take 6 (v := ?_) (by rfl) (by kernel_rfl) (by kernel_rfl) (by kernel_rfl) (fun _ _ _ h => h) (by rfl) ?_ (by assumption) ?_
  rotate_left
  · (intro wq hSq; (try dsimp only at hSq); go_split_ands; go_simp; (try with_reducible rfl))
  try simp only [Act.put, List.setIfInBounds_toArray, List.set_cons_zero, List.set_cons_succ]
  refine reg_take 7 (v := ?_) (by rfl) (by kernel_rfl) (by kernel_rfl) (by kernel_rfl) (fun _ _ _ h => h) (by rfl) ?_ (by assumption) ?_
  rotate_left
  · (intro wq hSq; (try dsimp only at hSq); go_split_ands; go_simp; (try with_reducible rfl))
  try simp only [Act.put, List.setIfInBounds_toArray, List.set_cons_zero, List.set_cons_succ]
  refine reg_take 8 (v := ?_) (by rfl) (by kernel_rfl) (by kernel_rfl) (by kernel_rfl) (fun _ _ _ h => h) (by rfl) ?_ (by assumption) ?_
  rotate_left
  · (intro wq hSq; (try dsimp only at hSq); go_split_ands; go_simp; (try with_reducible rfl))
  try simp only [Act.put, List.setIfInBounds_toArray, List.set_cons_zero, List.set_cons_succ]
  refine reg_take 9 (v := .agg (dgA leaf.1)) (by rfl) (by kernel_rfl) (by kernel_rfl) (by kernel_rfl) (fun _ _ _ h => h) (by rfl) ?_ (by assumption) ?_
  · (intro wq hSq; exact exec_loadM (.tmp 11) rfl W.heap.size 34 rfl leaf hSq.2.1)
  try simp only [Act.put, List.setIfInBounds_toArray, List.set_cons_zero, List.set_cons_succ]
  refine reg_take 10 (v := ?_) (by rfl) (by kernel_rfl) (by kernel_rfl) (by kernel_rfl) (fun _ _ _ h => h) (by rfl) ?_ (by assumption) ?_
  rotate_left
  · (intro wq hSq; (try dsimp only at hSq); go_split_ands; go_simp; (try with_reducible rfl))
  try simp only [Act.put, List.setIfInBounds_toArray, List.set_cons_zero, List.set_cons_succ]
  refine reg_take 11 (v := ?_) (by rfl) (by kernel_rfl) (by kernel_rfl) (by kernel_rfl) (fun _ _ _ h => h) (by rfl) ?_ (by assumption) ?_
  rotate_left
  · (intro wq hSq; (try dsimp only at hSq); go_split_ands; go_simp; (try with_reducible rfl))
  try simp only [Act.put, List.setIfInBounds_toArray, List.set_cons_zero, List.set_cons_succ]
  refine reg_take 13 (v := ?_) (by rfl) (by kernel_rfl) (by kernel_rfl) (by kernel_rfl) (fun _ _ _ h => h) (by rfl) ?_ (by assumption) ?_
  rotate_left
  · (intro wq hSq; (try dsimp only at hSq); go_split_ands; go_simp; (try with_reducible rfl))
  try simp only [Act.put, List.setIfInBounds_toArray, List.set_cons_zero, List.set_cons_succ]
  refine reg_take 14 (v := .agg (dgA root.1)) (by rfl) (by kernel_rfl) (by kernel_rfl) (by kernel_rfl) (fun _ _ _ h => h) (by rfl) ?_ (by assumption) ?_
  · (intro wq hSq; exact exec_loadM (.tmp 16) rfl W.heap.size 0 rfl root hSq.1)
  try simp only [Act.put, List.setIfInBounds_toArray, List.set_cons_zero, List.set_cons_succ]
  refine reg_take 15 (v := ?_) (by rfl) (by kernel_rfl) (by kernel_rfl) (by kernel_rfl) (fun _ _ _ h => h) (by rfl) ?_ (by assumption) ?_
  rotate_left
  · (intro wq hSq; (try dsimp only at hSq); go_split_ands; go_simp; (try with_reducible rfl))
  try simp only [Act.put, List.setIfInBounds_toArray, List.set_cons_zero, List.set_cons_succ]
  refine reg_take 16 (v := ?_) (by rfl) (by kernel_rfl) (by kernel_rfl) (by kernel_rfl) (fun _ _ _ h => h) (by rfl) ?_ (by assumption) ?_
  rotate_left
  · (intro wq hSq; (try dsimp only at hSq); go_split_ands; go_simp; (try with_reducible rfl))
  try simp only [Act.put, List.setIfInBounds_toArray, List.set_cons_zero, List.set_cons_succ]
  refine reg_take 17 (v := ?_) (by rfl) (by kernel_rfl) (by kernel_rfl) (by kernel_rfl) (fun _ _ _ h => h) (by rfl) ?_ (by assumption) ?_
  rotate_left
  · (intro wq hSq; (try dsimp only at hSq); go_split_ands; go_simp; (try with_reducible rfl))
  try simp only [Act.put, List.setIfInBounds_toArray, List.set_cons_zero, List.set_cons_succ]
  refine reg_take 18 (v := ?_) (by rfl) (by kernel_rfl) (by kernel_rfl) (by kernel_rfl) (fun _ _ _ h => h) (by rfl) ?_ (by assumption) ?_
  rotate_left
  · (intro wq hSq; (try dsimp only at hSq); go_split_ands; go_simp; (try with_reducible rfl))
  try simp only [Act.put, List.setIfInBounds_toArray, List.set_cons_zero, List.set_cons_succ]
  refine reg_take 19 (v := ?_) (by rfl) (by kernel_rfl) (by kernel_rfl) (by kernel_rfl) (fun _ _ _ h => h) (by rfl) ?_ (by assumption) ?_
  rotate_left
  · (intro wq hSq; (try dsimp only at hSq); go_split_ands; go_simp; (try with_reducible rfl))
  try simp only [Act.put, List.setIfInBounds_toArray, List.set_cons_zero, List.set_cons_succ]
  refine reg_take 20 (v := .agg (dgA leaf.1)) (by rfl) (by kernel_rfl) (by kernel_rfl) (by kernel_rfl) (fun _ _ _ h => h) (by rfl) ?_ (by assumption) ?_
  · (intro wq hSq; exact exec_loadM (.tmp 22) rfl W.heap.size 34 rfl leaf hSq.2.1)
  try simp only [Act.put, List.setIfInBounds_toArray, List.set_cons_zero, List.set_cons_succ]
  refine reg_take 21 (v := ?_) (by rfl) (by kernel_rfl) (by kernel_rfl) (by kernel_rfl) (fun _ _ _ h => h) (by rfl) ?_ (by assumption) ?_
  rotate_left
  · (intro wq hSq; (try dsimp only at hSq); go_split_ands; go_simp; (try with_reducible rfl))
  try simp only [Act.put, List.setIfInBounds_toArray, List.set_cons_zero, List.set_cons_succ]
  refine reg_take 22 (v := ?_) (by rfl) (by kernel_rfl) (by kernel_rfl) (by kernel_rfl) (fun _ _ _ h => h) (by rfl) ?_ (by assumption) ?_
  rotate_left
  · (intro wq hSq; (try dsimp only at hSq); go_split_ands; go_simp; (try with_reducible rfl))
  try simp only [Act.put, List.setIfInBounds_toArray, List.set_cons_zero, List.set_cons_succ]
  refine reg_one 12 (by rfl) (by kernel_rfl) (by rfl) (fun K hK => ?_)
  (go_simp; go_at_call 14; refine (HM1.out _ b3).mono ?_; rintro e w4 ⟨rfl, b4⟩; go_wp2_with fail)
  refine hK.out _ _ ?_ (fun hHeld => ?_)
  · exact KS.out _ b4
  clear hK K
  try simp only [Act.put, List.setIfInBounds_toArray, List.set_cons_zero, List.set_cons_succ]
  refine reg_one 23 (by rfl) (by kernel_rfl) (by rfl) (fun K hK => ?_)
  (go_simp; go_at_call 15; refine (HM2.out _ b4).mono ?_; rintro e w5 ⟨rfl, b5⟩; go_wp2_with fail)
  refine hK.out _ _ ?_ (fun hHeld => ?_)
  · exact KS.out _ b5
  clear hK K
  try simp only [Act.put, List.setIfInBounds_toArray, List.set_cons_zero, List.set_cons_succ]
  refine reg_take 24 (v := ?_) (by rfl) (by kernel_rfl) (by kernel_rfl) (by kernel_rfl) (fun _ _ _ h => h) (by rfl) ?_ (by assumption) ?_
  rotate_left
  · (intro wq hSq; (try dsimp only at hSq); go_split_ands; go_simp; (try with_reducible rfl))
  try simp only [Act.put, List.setIfInBounds_toArray, List.set_cons_zero, List.set_cons_succ]
  refine reg_take 25 (v := ?_) (by rfl) (by kernel_rfl) (by kernel_rfl) (by kernel_rfl) (fun _ _ _ h => h) (by rfl) ?_ (by assumption) ?_
  rotate_left
  · (intro wq hSq; (try dsimp only at hSq); go_split_ands; go_simp; (try with_reducible rfl))
  try simp only [Act.put, List.setIfInBounds_toArray, List.set_cons_zero, List.set_cons_succ]
  refine reg_take 26 (v := ?_) (by rfl) (by kernel_rfl) (by kernel_rfl) (by kernel_rfl) (fun _ _ _ h => h) (by rfl) ?_ (by assumption) ?_
  rotate_left
  · (intro wq hSq; (try dsimp only at hSq); go_split_ands; go_simp; (try with_reducible rfl))
  try simp only [Act.put, List.setIfInBounds_toArray, List.set_cons_zero, List.set_cons_succ]
  refine wpAnyH_done (by kernel_rfl) (noPanic_mk ?_) _
  go_wp2_with fail
  go_ret
  exact ⟨rfl, bstep b1 b5⟩
end Go.Proofs.YtjmlohfldkbbaaaDoor
