/-
  What is proved here: what KeyOf of both sides and the reference's Nonce come to; the call of the statement NameKeys returns true and turns nothing that was there. Condition: the tables of constants.
-/
import Derived.Test.YtjkcdnangmjoeaaDoorMacDerR
import Derived.Test.YtjkcdnangmjoeaaDoorM3
namespace Go.Proofs.YtjkcdnangmjoeaaDoor
open Go.RowKit

set_option maxRecDepth 100000 in
set_option maxHeartbeats 2000000 in
theorem kKeyOf_any (root : List UInt8) (hr : root.length = 32) (h : Hd) (ok : h.ok) (cr kk : Array Value) (hcr : dgA root = cr) (hkk : dgA (keyOfUse root (layH h)) = kk) (w : World) (hk : KTab w 1) (h1 : 1 < w.heap.size) :
    Calls Tryd.prog 5 #[.agg cr, hdV h] w fun e w' => e = .returned (.agg kk) ∧ Below w.heap.size w w' := by
  have HKK := Lib.hid hkk
  have HCR := Lib.hid hcr
  have hcn : cr.size = 32 := by rw [← hcr, dgA_size, hr]
  have HN : Hid (kk.size = 64 ∧ ∀ v ∈ kk.toList, v.oneCell' = true) := Lib.hid (by rw [← hkk]; exact ⟨by rw [dgA_size, keyOfUse_length], dgA_one _⟩)
  clear hcr hkk
  go_enter Tryd.func5, Tryd.ntmps5
  go_upto_region 1 with fail
  have HCN := Lib.hid hcn
  clear hcn
  generalize hWA : World.alloc _ _ = wA
  have rZ : wA.heap[w.heap.size + 2]? = some (rowT 29 (dgA (List.replicate 64 0))) := by
    rw [← hWA]
    have h := heap_alloc_new ((w.alloc (rowO cr)).alloc (.cells #[.int .u8 (h.k : Int), .int .u8 (h.lv : Int), .int .u64 (h.g : Int), .int .u64 (h.e : Int), .int .u64 (h.n : Int)] 26)) (rowT 29 (dgA (List.replicate 64 0)))
    simp only [World.size_alloc] at h
    exact h
  have rH : HdAt wA (w.heap.size + 1) h := by
    rw [← hWA]
    exact (heap_alloc_old _ _ (by simp)).trans (heap_alloc2_new w _ _)
  have rR : wA.heap[w.heap.size]? = some (rowO cr) := by
    rw [← hWA]
    exact (heap_alloc_old _ _ (by simp; omega)).trans (heap_alloc2_old w _ _)
  have bA : Below w.heap.size w wA := by rw [← hWA]; exact balloc (balloc (balloc (bself w) _) _) _
  have zA : w.heap.size + 2 < wA.heap.size := by rw [← hWA]; simp
  clear hWA
  have KS : Hid (∀ w', Below wA.heap.size wA w' → w'.heap[w.heap.size]? = some (rowO cr) ∧ w'.cell? ⟨w.heap.size + 1, 0, none⟩ = some (.int .u8 (h.k : Int)) ∧ w'.cell? ⟨w.heap.size + 1, 1, none⟩ = some (.int .u8 (h.lv : Int)) ∧ w'.cell? ⟨w.heap.size + 1, 2, none⟩ = some (.int .u64 (h.g : Int)) ∧ w'.cell? ⟨w.heap.size + 1, 3, none⟩ = some (.int .u64 (h.e : Int)) ∧ w'.cell? ⟨w.heap.size + 1, 4, none⟩ = some (.int .u64 (h.n : Int))) := Lib.hid (fun w' hb =>
    have a : HdAt w' (w.heap.size + 1) h := (hb.block _ (by omega)).trans rH
    ⟨(hb.block _ (by omega)).trans rR, a.cells⟩)
  have HL : Hid (∀ W, Calls Tryd.prog 13 #[.agg #[.int .u8 (h.k : Int), .int .u8 (h.lv : Int), .int .u64 (h.g : Int), .int .u64 (h.e : Int), .int .u64 (h.n : Int)]] W fun e w' => ∃ r, e = .returned r ∧ OB w' W.heap.size r (layH h) ∧ Below W.heap.size W w') := Lib.hid (fun W => kLay_any h W ok)
  have HD : Hid (∀ W r B, Below wA.heap.size wA W → OB W B r (layH h) → Calls Tryd.prog 12 #[.agg cr, r] W fun e w' => e = .returned (.agg kk) ∧ Below W.heap.size W w') := Lib.hid (fun W r B hb ho => kDerive_any root (layH h) hr cr kk HCR.out HKK.out r W ho.sb (by rw [layH_len]; omega) (hk.on (bstep bA hb) h1) (by have := (bstep bA hb).size; omega))
  have HRR : Hid (∀ w', Below wA.heap.size wA w' → w'.heap[w.heap.size + 2]? = some (rowT 29 (dgA (List.replicate 64 0))) ∧ (w'.setRow (w.heap.size + 2) kk).heap[w.heap.size + 2]? = some (rowT 29 kk) ∧ Below w.heap.size w (w'.setRow (w.heap.size + 2) kk)) := Lib.hid (fun w' hb => by
    have h5 := (hb.block (w.heap.size + 2) (by omega)).trans rZ
    exact ⟨h5, setRow_heap _ _ _ _ _ _ h5, below_setRow (bstep bA hb) (by omega) _⟩)
  have HZ : Hid ((dgA (List.replicate 64 0)).size = 64) := Lib.hid (by rw [dgA_size]; rfl)
  have HS4 : Hid (∀ w', Below wA.heap.size wA w' → (w'.setRow (w.heap.size + 2) kk).heap[w.heap.size]? = some (rowO cr) ∧ (w'.setRow (w.heap.size + 2) kk).cell? ⟨w.heap.size + 1, 0, none⟩ = some (.int .u8 (h.k : Int)) ∧ (w'.setRow (w.heap.size + 2) kk).cell? ⟨w.heap.size + 1, 1, none⟩ = some (.int .u8 (h.lv : Int)) ∧ (w'.setRow (w.heap.size + 2) kk).cell? ⟨w.heap.size + 1, 2, none⟩ = some (.int .u64 (h.g : Int)) ∧ (w'.setRow (w.heap.size + 2) kk).cell? ⟨w.heap.size + 1, 3, none⟩ = some (.int .u64 (h.e : Int)) ∧ (w'.setRow (w.heap.size + 2) kk).cell? ⟨w.heap.size + 1, 4, none⟩ = some (.int .u64 (h.n : Int))) := Lib.hid (fun w' hb =>
    have a : HdAt (w'.setRow (w.heap.size + 2) kk) (w.heap.size + 1) h := (setRow_other w' (w.heap.size + 2) (w.heap.size + 1) kk (by omega)).trans ((hb.block _ (by omega)).trans rH)
    ⟨(setRow_other w' (w.heap.size + 2) w.heap.size kk (by omega)).trans ((hb.block _ (by omega)).trans rR), a.cells⟩)
  clear rZ rH rR
  refine wp_region_noPanic ?_
  refine wp_region_held_drew (S := fun w' => True ∧ (w'.heap[w.heap.size]? = some (rowO cr) ∧ w'.cell? ⟨w.heap.size + 1, 0, none⟩ = some (.int .u8 (h.k : Int)) ∧ w'.cell? ⟨w.heap.size + 1, 1, none⟩ = some (.int .u8 (h.lv : Int)) ∧ w'.cell? ⟨w.heap.size + 1, 2, none⟩ = some (.int .u64 (h.g : Int)) ∧ w'.cell? ⟨w.heap.size + 1, 3, none⟩ = some (.int .u64 (h.e : Int)) ∧ w'.cell? ⟨w.heap.size + 1, 4, none⟩ = some (.int .u64 (h.n : Int)))) (by kernel_rfl) ⟨trivial, KS.out _ (bdrew (bself wA))⟩ (fun hHeld => ?_)
  refine reg_take 0 (v := .agg cr) (by rfl) (by kernel_rfl) (by kernel_rfl) (by kernel_rfl) (fun _ _ _ h => h) (by rfl) ?_ (by assumption) ?_
  · (intro wq hSq; exact exec_loadD' (.tmp 2) rfl _ rfl cr hSq.2.1 HCN.out)
  try simp only [Act.put, List.setIfInBounds_toArray, List.set_cons_zero, List.set_cons_succ]
  refine reg_take 1 (v := ?_) (by rfl) (by kernel_rfl) (by kernel_rfl) (by kernel_rfl) (fun _ _ _ h => h) (by rfl) ?_ (by assumption) ?_
  rotate_left
  · (intro wq hSq; (try dsimp only at hSq); go_split_ands; go_simp; (try with_reducible rfl))
  try simp only [Act.put, List.setIfInBounds_toArray, List.set_cons_zero, List.set_cons_succ]
  refine reg_one 2 (by rfl) (by kernel_rfl) (by rfl) (fun K hK => ?_)
  (go_simp; go_at_call 13; refine (HL.out _).mono ?_; rintro _ w2 ⟨r2, rfl, ho2, hb2⟩; have b2 := bstep (bdrew (bself wA)) hb2; go_wp2_with fail)
  refine hK.out _ _ ?_ (fun hHeld => ?_)
  · exact ⟨trivial, KS.out _ b2⟩
  clear hK K
  try simp only [Act.put, List.setIfInBounds_toArray, List.set_cons_zero, List.set_cons_succ]
  refine reg_one 3 (by rfl) (by kernel_rfl) (by rfl) (fun K hK => ?_)
  (go_simp; go_at_call 12; refine (HD.out _ _ _ b2 ho2).mono ?_; rintro _ w3 ⟨rfl, hb3⟩; have b3 := bstep b2 hb3; have h9 := Lib.hid (HRR.out _ b3); go_wp2_with fail)
  refine hK.out _ _ ?_ (fun hHeld => ?_)
  · exact ⟨trivial, KS.out _ b3⟩
  clear hK K
  try simp only [Act.put, List.setIfInBounds_toArray, List.set_cons_zero, List.set_cons_succ]
  refine reg_one 4 (by rfl) (by kernel_rfl) (by rfl) (fun K hK => ?_)
  (refine wp_storeR 29 (.tmp 4) (.tmp 8) rfl _ rfl _ kk rfl h9.out.1 (by rw [HN.out.1]; kernel_rfl) (by rw [HN.out.1, HZ.out]) (Array.all_eq_true_iff_forall_mem.2 (fun v hv => HN.out.2 v (by simpa using hv))) ?_)
  refine hK.out _ _ ?_ (fun hHeld => ?_)
  · exact ⟨trivial, HS4.out _ b3⟩
  clear hK K
  try simp only [Act.put, List.setIfInBounds_toArray, List.set_cons_zero, List.set_cons_succ]
  refine wpAnyH_done (by kernel_rfl) (noPanic_mk ?_) _
  go_wp2_with fail
  exact bodyPost_ret (v := .agg kk) (res_key Tryd.results5 _ _ _ kk rfl h9.out.2.1 HN.out.1) rfl ⟨rfl, h9.out.2.2⟩
set_option maxRecDepth 100000 in
set_option maxHeartbeats 2000000 in
theorem rKeyOf_any (root : List UInt8) (hr : root.length = 32) (h : Hd) (ok : h.ok) (cr kk : Array Value) (hcr : dgA root = cr) (hkk : dgA (keyOfUse root (layH h)) = kk) (w : World) (hk : KTab w 0) (h1 : 0 < w.heap.size) :
    Calls Tryd.prog 6 #[.agg cr, hdV h] w fun e w' => e = .returned (.agg kk) ∧ Below w.heap.size w w' := by
  have HKK := Lib.hid hkk
  have HCR := Lib.hid hcr
  have hcn : cr.size = 32 := by rw [← hcr, dgA_size, hr]
  have HN : Hid (kk.size = 64 ∧ ∀ v ∈ kk.toList, v.oneCell' = true) := Lib.hid (by rw [← hkk]; exact ⟨by rw [dgA_size, keyOfUse_length], dgA_one _⟩)
  clear hcr hkk
  go_enter Tryd.func6, Tryd.ntmps6
  go_upto_region 1 with fail
  have HCN := Lib.hid hcn
  clear hcn
  generalize hWA : World.alloc _ _ = wA
  have rZ : wA.heap[w.heap.size + 2]? = some (rowT 29 (dgA (List.replicate 64 0))) := by
    rw [← hWA]
    have h := heap_alloc_new ((w.alloc (rowO cr)).alloc (.cells #[.int .u8 (h.k : Int), .int .u8 (h.lv : Int), .int .u64 (h.g : Int), .int .u64 (h.e : Int), .int .u64 (h.n : Int)] 26)) (rowT 29 (dgA (List.replicate 64 0)))
    simp only [World.size_alloc] at h
    exact h
  have rH : HdAt wA (w.heap.size + 1) h := by
    rw [← hWA]
    exact (heap_alloc_old _ _ (by simp)).trans (heap_alloc2_new w _ _)
  have rR : wA.heap[w.heap.size]? = some (rowO cr) := by
    rw [← hWA]
    exact (heap_alloc_old _ _ (by simp; omega)).trans (heap_alloc2_old w _ _)
  have bA : Below w.heap.size w wA := by rw [← hWA]; exact balloc (balloc (balloc (bself w) _) _) _
  have zA : w.heap.size + 2 < wA.heap.size := by rw [← hWA]; simp
  clear hWA
  have KS : Hid (∀ w', Below wA.heap.size wA w' → w'.heap[w.heap.size]? = some (rowO cr) ∧ w'.cell? ⟨w.heap.size + 1, 0, none⟩ = some (.int .u8 (h.k : Int)) ∧ w'.cell? ⟨w.heap.size + 1, 1, none⟩ = some (.int .u8 (h.lv : Int)) ∧ w'.cell? ⟨w.heap.size + 1, 2, none⟩ = some (.int .u64 (h.g : Int)) ∧ w'.cell? ⟨w.heap.size + 1, 3, none⟩ = some (.int .u64 (h.e : Int)) ∧ w'.cell? ⟨w.heap.size + 1, 4, none⟩ = some (.int .u64 (h.n : Int))) := Lib.hid (fun w' hb =>
    have a : HdAt w' (w.heap.size + 1) h := (hb.block _ (by omega)).trans rH
    ⟨(hb.block _ (by omega)).trans rR, a.cells⟩)
  have HL : Hid (∀ W, Calls Tryd.prog 15 #[.agg #[.int .u8 (h.k : Int), .int .u8 (h.lv : Int), .int .u64 (h.g : Int), .int .u64 (h.e : Int), .int .u64 (h.n : Int)]] W fun e w' => ∃ r, e = .returned r ∧ OB w' W.heap.size r (layH h) ∧ Below W.heap.size W w') := Lib.hid (fun W => rLay_any h W ok)
  have HD : Hid (∀ W r B, Below wA.heap.size wA W → OB W B r (layH h) → Calls Tryd.prog 14 #[.agg cr, r] W fun e w' => e = .returned (.agg kk) ∧ Below W.heap.size W w') := Lib.hid (fun W r B hb ho => rDerive_any root (layH h) hr cr kk HCR.out HKK.out r W ho.sb (by rw [layH_len]; omega) (hk.on0 (bstep bA hb) h1) (by have := (bstep bA hb).size; omega))
  have HRR : Hid (∀ w', Below wA.heap.size wA w' → w'.heap[w.heap.size + 2]? = some (rowT 29 (dgA (List.replicate 64 0))) ∧ (w'.setRow (w.heap.size + 2) kk).heap[w.heap.size + 2]? = some (rowT 29 kk) ∧ Below w.heap.size w (w'.setRow (w.heap.size + 2) kk)) := Lib.hid (fun w' hb => by
    have h5 := (hb.block (w.heap.size + 2) (by omega)).trans rZ
    exact ⟨h5, setRow_heap _ _ _ _ _ _ h5, below_setRow (bstep bA hb) (by omega) _⟩)
  have HZ : Hid ((dgA (List.replicate 64 0)).size = 64) := Lib.hid (by rw [dgA_size]; rfl)
  have HS4 : Hid (∀ w', Below wA.heap.size wA w' → (w'.setRow (w.heap.size + 2) kk).heap[w.heap.size]? = some (rowO cr) ∧ (w'.setRow (w.heap.size + 2) kk).cell? ⟨w.heap.size + 1, 0, none⟩ = some (.int .u8 (h.k : Int)) ∧ (w'.setRow (w.heap.size + 2) kk).cell? ⟨w.heap.size + 1, 1, none⟩ = some (.int .u8 (h.lv : Int)) ∧ (w'.setRow (w.heap.size + 2) kk).cell? ⟨w.heap.size + 1, 2, none⟩ = some (.int .u64 (h.g : Int)) ∧ (w'.setRow (w.heap.size + 2) kk).cell? ⟨w.heap.size + 1, 3, none⟩ = some (.int .u64 (h.e : Int)) ∧ (w'.setRow (w.heap.size + 2) kk).cell? ⟨w.heap.size + 1, 4, none⟩ = some (.int .u64 (h.n : Int))) := Lib.hid (fun w' hb =>
    have a : HdAt (w'.setRow (w.heap.size + 2) kk) (w.heap.size + 1) h := (setRow_other w' (w.heap.size + 2) (w.heap.size + 1) kk (by omega)).trans ((hb.block _ (by omega)).trans rH)
    ⟨(setRow_other w' (w.heap.size + 2) w.heap.size kk (by omega)).trans ((hb.block _ (by omega)).trans rR), a.cells⟩)
  clear rZ rH rR
  refine wp_region_noPanic ?_
  refine wp_region_held_drew (S := fun w' => True ∧ (w'.heap[w.heap.size]? = some (rowO cr) ∧ w'.cell? ⟨w.heap.size + 1, 0, none⟩ = some (.int .u8 (h.k : Int)) ∧ w'.cell? ⟨w.heap.size + 1, 1, none⟩ = some (.int .u8 (h.lv : Int)) ∧ w'.cell? ⟨w.heap.size + 1, 2, none⟩ = some (.int .u64 (h.g : Int)) ∧ w'.cell? ⟨w.heap.size + 1, 3, none⟩ = some (.int .u64 (h.e : Int)) ∧ w'.cell? ⟨w.heap.size + 1, 4, none⟩ = some (.int .u64 (h.n : Int)))) (by kernel_rfl) ⟨trivial, KS.out _ (bdrew (bself wA))⟩ (fun hHeld => ?_)
  refine reg_take 0 (v := .agg cr) (by rfl) (by kernel_rfl) (by kernel_rfl) (by kernel_rfl) (fun _ _ _ h => h) (by rfl) ?_ (by assumption) ?_
  · (intro wq hSq; exact exec_loadD' (.tmp 2) rfl _ rfl cr hSq.2.1 HCN.out)
  try simp only [Act.put, List.setIfInBounds_toArray, List.set_cons_zero, List.set_cons_succ]
  refine reg_take 1 (v := ?_) (by rfl) (by kernel_rfl) (by kernel_rfl) (by kernel_rfl) (fun _ _ _ h => h) (by rfl) ?_ (by assumption) ?_
  rotate_left
  · (intro wq hSq; (try dsimp only at hSq); go_split_ands; go_simp; (try with_reducible rfl))
  try simp only [Act.put, List.setIfInBounds_toArray, List.set_cons_zero, List.set_cons_succ]
  refine reg_one 2 (by rfl) (by kernel_rfl) (by rfl) (fun K hK => ?_)
  (go_simp; go_at_call 15; refine (HL.out _).mono ?_; rintro _ w2 ⟨r2, rfl, ho2, hb2⟩; have b2 := bstep (bdrew (bself wA)) hb2; go_wp2_with fail)
  refine hK.out _ _ ?_ (fun hHeld => ?_)
  · exact ⟨trivial, KS.out _ b2⟩
  clear hK K
  try simp only [Act.put, List.setIfInBounds_toArray, List.set_cons_zero, List.set_cons_succ]
  refine reg_one 3 (by rfl) (by kernel_rfl) (by rfl) (fun K hK => ?_)
  (go_simp; go_at_call 14; refine (HD.out _ _ _ b2 ho2).mono ?_; rintro _ w3 ⟨rfl, hb3⟩; have b3 := bstep b2 hb3; have h9 := Lib.hid (HRR.out _ b3); go_wp2_with fail)
  refine hK.out _ _ ?_ (fun hHeld => ?_)
  · exact ⟨trivial, KS.out _ b3⟩
  clear hK K
  try simp only [Act.put, List.setIfInBounds_toArray, List.set_cons_zero, List.set_cons_succ]
  refine reg_one 4 (by rfl) (by kernel_rfl) (by rfl) (fun K hK => ?_)
  (refine wp_storeR 29 (.tmp 4) (.tmp 8) rfl _ rfl _ kk rfl h9.out.1 (by rw [HN.out.1]; kernel_rfl) (by rw [HN.out.1, HZ.out]) (Array.all_eq_true_iff_forall_mem.2 (fun v hv => HN.out.2 v (by simpa using hv))) ?_)
  refine hK.out _ _ ?_ (fun hHeld => ?_)
  · exact ⟨trivial, HS4.out _ b3⟩
  clear hK K
  try simp only [Act.put, List.setIfInBounds_toArray, List.set_cons_zero, List.set_cons_succ]
  refine wpAnyH_done (by kernel_rfl) (noPanic_mk ?_) _
  go_wp2_with fail
  exact bodyPost_ret (v := .agg kk) (res_key Tryd.results6 _ _ _ kk rfl h9.out.2.1 HN.out.1) rfl ⟨rfl, h9.out.2.2⟩
set_option maxHeartbeats 1000000 in
theorem rNonceC (p : Nat) (hp : p < 18446744073709551616) (c : Array Value) (hc : nonA (nonceOf p) = c) (w : World) :
    Calls Tryd.prog 8 #[.int .u64 p] w fun e w' => e = .returned (.agg c) ∧ Below w.heap.size w w' := by
  have HN : Hid (c.size = 12 ∧ ∀ v ∈ c.toList, v.oneCell' = true) := Lib.hid (by rw [← hc]; exact ⟨(nonA_size _).trans (nonce_len p), nonA_one _⟩)
  have HC : Hid (nonA (nonUp p 8) = c) := Lib.hid (by rw [nonUp_8, hc])
  clear hc
  go_enter Tryd.func8, Tryd.ntmps8
  go_upto_region 2 with fail
  generalize hWA : World.alloc _ _ = wA
  have rN : wA.heap[w.heap.size + 1]? = some (rowN (nonA (nonUp p 0))) := by rw [← hWA]; exact (heap_alloc2_new w _ _).trans (by kernel_rfl)
  have rR : wA.heap[w.heap.size]? = some (rowN (nonA (nonUp 0 0))) := by rw [← hWA]; exact (heap_alloc2_old w _ _).trans (by kernel_rfl)
  have bA : Below w.heap.size w wA := by rw [← hWA]; exact balloc (balloc (bself w) _) _
  have zA : w.heap.size + 1 < wA.heap.size := by rw [← hWA]; simp
  clear hWA
  go_wp2_with fail
  refine (rFix_any p 8 wA hp (by omega) (by omega)).mono ?_
  rintro _ w2 ⟨r, rfl, ho, hb2⟩
  have rN2 := (hb2.block (w.heap.size + 1) (by omega)).trans rN
  have rR2 := (hb2.block w.heap.size (by omega)).trans rR
  have bw2 := bstep bA hb2
  have hfl := fix_length 8 p
  have hsb := ho.sb
  have hbase := ho.lt
  obtain ⟨A, cc, rfl, hc1, hc2, hr⟩ := hsb
  have e8 : (fix p (fixN 8)).length = 8 := hfl
  rw [e8] at hr hc1
  obtain ⟨bl, of, rfl, hbl, hcell⟩ := hr.at_ (by omega)
  have hbl1 : wA.heap.size ≤ bl := (hbase bl rfl).1
  rw [e8]
  have HCL : Hid (∀ w', Below w2.heap.size w2 w' ∨ True → ∀ j (hj : j < 8), w2.cell? ⟨bl, of + j, none⟩ = some (u8v (UInt8.ofNat (p / 256 ^ j)))) := Lib.hid (fun w' _ j hj => hcell j _ (by
    show (bv (fix p 8))[j]? = _
    obtain ⟨h1, h2⟩ := List.getElem?_eq_some_iff.1 (fix_at p 8 j hj)
    rw [bv_get _ _ h1, h2]))
  clear hcell hr ho hbase rN rR hb2 bA
  go_wp2
  go_loopw [5] (fun i wr => ∃ k : Nat, i = .int .i64 k ∧ k ≤ 8 ∧ Hid (wr.heap[w.heap.size + 1]? = some (rowN (nonA (nonUp p k))) ∧ wr.heap[w.heap.size]? = some (rowN (nonA (nonUp 0 0))) ∧ ∀ q : Addr, q.block = bl → wr.cell? q = w2.cell? q) ∧ Below w.heap.size w wr) (fun i _ => 8 - (intOf i).toNat)
  case atStart => exact ⟨0, rfl, by omega, Lib.hid ⟨rN2, rR2, fun _ _ => rfl⟩, bw2⟩
  case round =>
    obtain ⟨k, rfl, hk, hr, hbr⟩ := hrel
    by_cases hlt : k < 8
    · obtain ⟨c0, f0, hset⟩ := non_cell hr.out.1 (k := k) (by rw [nonUp_len p k hk]; omega)
      have d0 := (hr.out.2.2 ⟨bl, of + k, none⟩ rfl).trans (HCL.out w2 (.inr trivial) k hlt)
      have hst := Lib.hid (hset (UInt8.ofNat (p / 256 ^ k)))
      have h2 := Lib.hid (hr.out.2)
      have hlt2 : (k : Int) < 8 := by omega
      clear hset hr
      obtain ⟨x, hx⟩ : ∃ x, Hid (x = UInt8.ofNat (p / 256 ^ k)) := ⟨_, rfl⟩
      rw [← hx.out] at d0 hst
      go_wp2
      go_roundw
      case rel =>
        refine ⟨k + 1, by go_num, by omega, Lib.hid ⟨?_, ?_, ?_⟩, hbr.setCell (by simp) _⟩
        · rw [← nonUp_step p k hlt, ← hx.out]; exact hst.out
        · rw [← h2.out.1]; exact Below.heap_setCell _ _ _ _ (by simp)
        · intro q hq
          rw [← h2.out.2 q hq]
          exact World.cell?_setCell_other _ _ _ _ (fun e => by rw [← e] at hq; simp at hq; omega)
      case measure => simp [intOf]; omega
    · have h8 : k = 8 := by omega
      subst h8
      obtain ⟨hr1, hr2, _⟩ := hr.out
      rw [HC.out] at hr1
      go_wp2_with (first | (refine wl_loadN rfl (.tmp 3) rfl _ rfl c hr1 HN.out.1 ?_) | (refine wl_storeN rfl (.tmp 2) (.tmp 18) rfl _ rfl _ c rfl hr2 ((nonA_size _).trans (nonUp_len 0 0 (by omega))) HN.out.1 HN.out.2 ?_))
      exact bodyPost_ret (v := .agg c) (res_non Tryd.results8 _ _ _ c rfl (setRow_heap _ _ _ _ _ _ hr2) HN.out.1) rfl ⟨rfl, below_setRow hbr (Nat.le_refl _) _⟩
end Go.Proofs.YtjkcdnangmjoeaaDoor
