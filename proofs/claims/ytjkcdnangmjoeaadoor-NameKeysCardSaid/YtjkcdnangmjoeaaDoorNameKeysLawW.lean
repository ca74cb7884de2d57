/-
  What is proved here: the call of the statement NameKeys returns true and turns nothing that was there. Condition: the tables of constants.
-/
import Derived.Test.YtjkcdnangmjoeaaDoorNameKeysW
namespace Go.Proofs.YtjkcdnangmjoeaaDoor
open Go.RowKit

set_option maxRecDepth 100000 in
set_option maxHeartbeats 2000000 in
theorem nameKeys_any (root : List UInt8) (hr : root.length = 32) (h : Hd) (ok : h.ok) (p : Nat) (hp : p < 18446744073709551616) (W : World) (hk : KTab W 1) (h1 : 1 < W.heap.size) (hk0 : KTab W 0) (h0 : 0 < W.heap.size) :
    Calls Tryd.prog 3 #[.agg (dgA root), hdV h, .int .u64 p] W fun e W' => e = .returned (.bool true) ∧ Below W.heap.size W W' := by
  obtain ⟨cr, hcr⟩ : ∃ cr, dgA root = cr := ⟨_, rfl⟩
  obtain ⟨kk, hkk⟩ : ∃ kk, dgA (keyOfUse root (layH h)) = kk := ⟨_, rfl⟩
  obtain ⟨cn, hcn⟩ : ∃ cn, nonA (nonceOf p) = cn := ⟨_, rfl⟩
  have hEq : ∀ w', (Op.equalIn 10000 29 (.agg kk) (.agg kk)).run Tryd.prog w' = .ok true w' := fun w' => run_eqKey w' _ (keyOfUse_length root _) kk hkk
  have hEn : ∀ w', (Op.equalIn 10000 32 (.agg cn) (.agg cn)).run Tryd.prog w' = .ok true w' := fun w' => by rw [run_eqNonce w' p p hp hp cn cn hcn hcn]; simp
  have HS := Lib.hid (And.intro hcr (And.intro hkk hcn))
  have hcz : cr.size = 32 := by rw [← hcr, dgA_size, hr]
  rw [hcr]
  clear hcr hkk hcn
  go_enter Tryd.func3, Tryd.ntmps3
  go_upto_region 1 with fail
  have HCN := Lib.hid hcz
  clear hcz
  generalize hw1 : World.alloc _ _ = w1
  have rR : w1.heap[W.heap.size]? = some (rowO cr) := by rw [← hw1]; exact heap_alloc2_old W _ _
  have rH : HdAt w1 (W.heap.size + 1) h := by rw [← hw1]; exact heap_alloc2_new W _ _
  have b1 : Below W.heap.size W w1 := by rw [← hw1]; exact balloc (balloc (bself W) _) _
  have z1 : W.heap.size + 1 < w1.heap.size := by rw [← hw1]; simp
  clear hw1
  have KS : Hid (∀ w0, Below w1.heap.size w1 w0 → (fun w' => True ∧ (w'.heap[W.heap.size]? = some (rowO cr) ∧ w'.cell? ⟨W.heap.size + 1, 0, none⟩ = some (.int .u8 (h.k : Int)) ∧ w'.cell? ⟨W.heap.size + 1, 1, none⟩ = some (.int .u8 (h.lv : Int)) ∧ w'.cell? ⟨W.heap.size + 1, 2, none⟩ = some (.int .u64 (h.g : Int)) ∧ w'.cell? ⟨W.heap.size + 1, 3, none⟩ = some (.int .u64 (h.e : Int)) ∧ w'.cell? ⟨W.heap.size + 1, 4, none⟩ = some (.int .u64 (h.n : Int)))) w0) := Lib.hid (fun w' hb =>
    have a : HdAt w' (W.heap.size + 1) h := (hb.block _ (by omega)).trans rH
    ⟨trivial, (hb.block _ (by omega)).trans rR, a.cells⟩)
  have HM1 : Hid (∀ w', Below w1.heap.size w1 w' → Calls Tryd.prog 5 #[.agg cr, .agg #[.int .u8 (h.k : Int), .int .u8 (h.lv : Int), .int .u64 (h.g : Int), .int .u64 (h.e : Int), .int .u64 (h.n : Int)]] w' fun e w'' => e = .returned (.agg kk) ∧ Below w1.heap.size w1 w'') := Lib.hid (fun w' hb => (kKeyOf_any root hr h ok cr kk HS.out.1 HS.out.2.1 w' (hk.on (bstep b1 hb) h1) (by have := (bstep b1 hb).size; omega)).mono fun e w'' ⟨he, hb2⟩ => ⟨he, bstep hb hb2⟩)
  have HM2 : Hid (∀ w', Below w1.heap.size w1 w' → Calls Tryd.prog 6 #[.agg cr, .agg #[.int .u8 (h.k : Int), .int .u8 (h.lv : Int), .int .u64 (h.g : Int), .int .u64 (h.e : Int), .int .u64 (h.n : Int)]] w' fun e w'' => e = .returned (.agg kk) ∧ Below w1.heap.size w1 w'') := Lib.hid (fun w' hb => (rKeyOf_any root hr h ok cr kk HS.out.1 HS.out.2.1 w' (hk0.on0 (bstep b1 hb) h0) (by have := (bstep b1 hb).size; omega)).mono fun e w'' ⟨he, hb2⟩ => ⟨he, bstep hb hb2⟩)
  have HN1 : Hid (∀ w', Calls Tryd.prog 7 #[.int .u64 p] w' fun e w'' => e = .returned (.agg cn) ∧ Below w'.heap.size w' w'') := Lib.hid (fun w' => kNonceC p hp cn HS.out.2.2 w')
  have HN2 : Hid (∀ w', Calls Tryd.prog 8 #[.int .u64 p] w' fun e w'' => e = .returned (.agg cn) ∧ Below w'.heap.size w' w'') := Lib.hid (fun w' => rNonceC p hp cn HS.out.2.2 w')
  clear rR rH
  refine wp_region_noPanic ?_
  refine wp_region_held_drew (S := fun w' => True ∧ (w'.heap[W.heap.size]? = some (rowO cr) ∧ w'.cell? ⟨W.heap.size + 1, 0, none⟩ = some (.int .u8 (h.k : Int)) ∧ w'.cell? ⟨W.heap.size + 1, 1, none⟩ = some (.int .u8 (h.lv : Int)) ∧ w'.cell? ⟨W.heap.size + 1, 2, none⟩ = some (.int .u64 (h.g : Int)) ∧ w'.cell? ⟨W.heap.size + 1, 3, none⟩ = some (.int .u64 (h.e : Int)) ∧ w'.cell? ⟨W.heap.size + 1, 4, none⟩ = some (.int .u64 (h.n : Int)))) (by kernel_rfl) (KS.out _ (bdrew (bself w1))) (fun hHeld => ?_)
  refine reg_one 0 (by rfl) (by kernel_rfl) (by rfl) (fun K hK => ?_)
  (go_simp; go_at_call 4; refine (shown_any _).mono ?_; rintro e w3 ⟨rfl, hb3⟩; have b3 := bstep (bdrew (bself w1)) hb3; go_wp2_with fail)
  refine hK.out _ _ ?_ (fun hHeld => ?_)
  · exact KS.out _ b3
  clear hK K
  try simp only [Act.put, List.setIfInBounds_toArray, List.set_cons_zero, List.set_cons_succ]
  refine reg_take 1 (v := ?_) (by rfl) (by kernel_rfl) (by kernel_rfl) (by kernel_rfl) (fun _ _ _ h => h) (by rfl) ?_ (by assumption) ?_
  rotate_left
  · (intro wq hSq; (try dsimp only at hSq); go_split_ands; go_simp; (try with_reducible rfl))
  try simp only [Act.put, List.setIfInBounds_toArray, List.set_cons_zero, List.set_cons_succ]
  refine reg_take 2 (v := .agg cr) (by rfl) (by kernel_rfl) (by kernel_rfl) (by kernel_rfl) (fun _ _ _ h => h) (by rfl) ?_ (by assumption) ?_
  · (intro wq hSq; exact exec_loadD' (.tmp 3) rfl _ rfl cr hSq.2.1 HCN.out)
  try simp only [Act.put, List.setIfInBounds_toArray, List.set_cons_zero, List.set_cons_succ]
  refine reg_take 3 (v := ?_) (by rfl) (by kernel_rfl) (by kernel_rfl) (by kernel_rfl) (fun _ _ _ h => h) (by rfl) ?_ (by assumption) ?_
  rotate_left
  · (intro wq hSq; (try dsimp only at hSq); go_split_ands; go_simp; (try with_reducible rfl))
  try simp only [Act.put, List.setIfInBounds_toArray, List.set_cons_zero, List.set_cons_succ]
  refine reg_take 5 (v := .agg cr) (by rfl) (by kernel_rfl) (by kernel_rfl) (by kernel_rfl) (fun _ _ _ h => h) (by rfl) ?_ (by assumption) ?_
  · (intro wq hSq; exact exec_loadD' (.tmp 3) rfl _ rfl cr hSq.2.1 HCN.out)
  try simp only [Act.put, List.setIfInBounds_toArray, List.set_cons_zero, List.set_cons_succ]
  refine reg_take 6 (v := ?_) (by rfl) (by kernel_rfl) (by kernel_rfl) (by kernel_rfl) (fun _ _ _ h => h) (by rfl) ?_ (by assumption) ?_
  rotate_left
  · (intro wq hSq; (try dsimp only at hSq); go_split_ands; go_simp; (try with_reducible rfl))
  try simp only [Act.put, List.setIfInBounds_toArray, List.set_cons_zero, List.set_cons_succ]
  refine reg_one 4 (by rfl) (by kernel_rfl) (by rfl) (fun K hK => ?_)
  (go_simp; go_at_call 5; refine (HM1.out _ b3).mono ?_; rintro e w4 ⟨rfl, b4⟩; go_wp2_with fail)
  refine hK.out _ _ ?_ (fun hHeld => ?_)
  · exact KS.out _ b4
  clear hK K
  try simp only [Act.put, List.setIfInBounds_toArray, List.set_cons_zero, List.set_cons_succ]
  refine reg_one 7 (by rfl) (by kernel_rfl) (by rfl) (fun K hK => ?_)
  (go_simp; go_at_call 6; refine (HM2.out _ b4).mono ?_; rintro e w5 ⟨rfl, b5⟩; go_wp2_with fail)
  refine hK.out _ _ ?_ (fun hHeld => ?_)
  · exact KS.out _ b5
  clear hK K
  try simp only [Act.put, List.setIfInBounds_toArray, List.set_cons_zero, List.set_cons_succ]
  refine reg_take 8 (v := ?_) (by rfl) (by kernel_rfl) (by kernel_rfl) (by kernel_rfl) (fun _ _ _ h => h) (by rfl) ?_ (by assumption) ?_
  rotate_left
  · (intro wq hSq; (try dsimp only at hSq); go_split_ands; go_simp; (try with_reducible rfl))
  try simp only [Act.put, List.setIfInBounds_toArray, List.set_cons_zero, List.set_cons_succ]
  refine reg_take 9 (v := ?_) (by rfl) (by kernel_rfl) (by kernel_rfl) (by kernel_rfl) (fun _ _ _ h => h) (by rfl) ?_ (by assumption) ?_
  rotate_left
  · (intro wq hSq; (try dsimp only at hSq); go_split_ands; go_simp; (try with_reducible rfl))
  try simp only [Act.put, List.setIfInBounds_toArray, List.set_cons_zero, List.set_cons_succ]
  refine reg_take 10 (v := ?_) (by rfl) (by kernel_rfl) (by kernel_rfl) (by kernel_rfl) (fun _ _ _ h => h) (by rfl) ?_ (by assumption) ?_
  rotate_left
  · (intro wq hSq; (try dsimp only at hSq); go_split_ands; go_simp; (try with_reducible rfl))
  try simp only [Act.put, List.setIfInBounds_toArray, List.set_cons_zero, List.set_cons_succ]
  refine reg_take 11 (v := ?_) (by rfl) (by kernel_rfl) (by kernel_rfl) (by kernel_rfl) (fun _ _ _ h => h) (by rfl) ?_ (by assumption) ?_
  rotate_left
  · (intro wq hSq; (try dsimp only at hSq); go_split_ands; go_simp; (try with_reducible rfl))
  try simp only [Act.put, List.setIfInBounds_toArray, List.set_cons_zero, List.set_cons_succ]
  refine reg_take 13 (v := ?_) (by rfl) (by kernel_rfl) (by kernel_rfl) (by kernel_rfl) (fun _ _ _ h => h) (by rfl) ?_ (by assumption) ?_
  rotate_left
  · (intro wq hSq; (try dsimp only at hSq); go_split_ands; go_simp; (try with_reducible rfl))
  try simp only [Act.put, List.setIfInBounds_toArray, List.set_cons_zero, List.set_cons_succ]
  refine reg_one 12 (by rfl) (by kernel_rfl) (by rfl) (fun K hK => ?_)
  (go_simp; go_at_call 7; refine (HN1.out _).mono ?_; rintro e w6 ⟨rfl, hb6⟩; have b6 := bstep b5 hb6; go_wp2_with fail)
  refine hK.out _ _ ?_ (fun hHeld => ?_)
  · exact KS.out _ b6
  clear hK K
  try simp only [Act.put, List.setIfInBounds_toArray, List.set_cons_zero, List.set_cons_succ]
  refine reg_one 14 (by rfl) (by kernel_rfl) (by rfl) (fun K hK => ?_)
  (go_simp; go_at_call 8; refine (HN2.out _).mono ?_; rintro e w7 ⟨rfl, hb7⟩; have b7 := bstep b6 hb7; go_wp2_with fail)
  refine hK.out _ _ ?_ (fun hHeld => ?_)
  · exact KS.out _ b7
  clear hK K
  try simp only [Act.put, List.setIfInBounds_toArray, List.set_cons_zero, List.set_cons_succ]
  refine reg_take 15 (v := ?_) (by rfl) (by kernel_rfl) (by kernel_rfl) (by kernel_rfl) (fun _ _ _ h => h) (by rfl) ?_ (by assumption) ?_
  rotate_left
  · (intro wq hSq; (try dsimp only at hSq); go_split_ands; go_simp; (try with_reducible rfl))
  try simp only [Act.put, List.setIfInBounds_toArray, List.set_cons_zero, List.set_cons_succ]
  refine reg_take 16 (v := ?_) (by rfl) (by kernel_rfl) (by kernel_rfl) (by kernel_rfl) (fun _ _ _ h => h) (by rfl) ?_ (by assumption) ?_
  rotate_left
  · (intro wq hSq; (try dsimp only at hSq); go_split_ands; go_simp; (try with_reducible rfl))
  try simp only [Act.put, List.setIfInBounds_toArray, List.set_cons_zero, List.set_cons_succ]
  refine reg_take 17 (v := ?_) (by rfl) (by kernel_rfl) (by kernel_rfl) (by kernel_rfl) (fun _ _ _ h => h) (by rfl) ?_ (by assumption) ?_
  rotate_left
  · (intro wq hSq; (try dsimp only at hSq); go_split_ands; go_simp; (try with_reducible rfl))
  try simp only [Act.put, List.setIfInBounds_toArray, List.set_cons_zero, List.set_cons_succ]
  refine wpAnyH_done (by kernel_rfl) (noPanic_mk ?_) _
  go_wp2_with fail
  go_ret
  exact ⟨rfl, bstep b1 b7⟩
end Go.Proofs.YtjkcdnangmjoeaaDoor
