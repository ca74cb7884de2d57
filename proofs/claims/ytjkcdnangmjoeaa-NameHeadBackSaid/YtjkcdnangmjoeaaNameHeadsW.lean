/-
  What is proved here: the call of the statement NameHeads returns true and turns nothing that was there. Condition: the bytes' length.
-/
import Derived.Test.YtjkcdnangmjoeaaNameNamesW
namespace Go.Proofs.Ytjkcdnangmjoeaa
open Go.RowKit

abbrev hdO (h : Hd) : Obj := .cells #[.int .u8 (h.k : Int), .int .u8 (h.lv : Int), .int .u64 (h.g : Int), .int .u64 (h.e : Int), .int .u64 (h.n : Int)] 36 (0, 0)
set_option maxRecDepth 100000 in
set_option maxHeartbeats 2000000 in
theorem nameHeads_any (h : Hd) (v : Value) (l : List UInt8) (w : World) (ok : h.ok) (hv : SB w w.heap.size v l) (hl : l.length ≤ 140737488355328) :
    Calls Try.prog 7 #[hdV h, v] w fun e w' => e = .returned (.bool true) ∧ Below w.heap.size w w' := by
  obtain ⟨t, ht⟩ : ∃ t, (takeH l).1 = t := ⟨_, rfl⟩
  obtain ⟨f, hf⟩ : ∃ f, (takeH l).2 = f := ⟨_, rfl⟩
  have hT : takeV l = .tuple #[hdV t, .int .i64 (f : Int)] := by unfold takeV; rw [ht, hf]
  have HK := Lib.hid (fun W hv => kTake_any v l W hv hl)
  have HR := Lib.hid (fun W hv => rTake_any v l W hv hl)
  rw [hT] at HK HR
  have hEq : ∀ w', (Op.equalIn 10000 36 (.agg #[.int .u8 (t.k : Int), .int .u8 (t.lv : Int), .int .u64 (t.g : Int), .int .u64 (t.e : Int), .int .u64 (t.n : Int)]) (.agg #[.int .u8 (t.k : Int), .int .u8 (t.lv : Int), .int .u64 (t.g : Int), .int .u64 (t.e : Int), .int .u64 (t.n : Int)])).run Try.prog w' = .ok true w' := fun w' => by have := run_eqH w' t t; rw [decide_eq_true rfl] at this; exact this
  obtain ⟨q, hq⟩ : ∃ q, rightH h = q := ⟨_, rfl⟩
  obtain ⟨L, hL⟩ : ∃ L, layH h = L := ⟨_, rfl⟩
  have HQ1 : Hid (∀ W, Calls Try.prog 17 #[.agg #[.int .u8 (h.k : Int), .int .u8 (h.lv : Int), .int .u64 (h.g : Int), .int .u64 (h.e : Int), .int .u64 (h.n : Int)]] W fun e w' => e = .returned (.bool q) ∧ Below W.heap.size W w') := Lib.hid (fun W => by have := kRight_any h W ok; rw [hq] at this; exact this)
  have HQ2 : Hid (∀ W, Calls Try.prog 18 #[.agg #[.int .u8 (h.k : Int), .int .u8 (h.lv : Int), .int .u64 (h.g : Int), .int .u64 (h.e : Int), .int .u64 (h.n : Int)]] W fun e w' => e = .returned (.bool q) ∧ Below W.heap.size W w') := Lib.hid (fun W => by have := rRight_any h W ok; rw [hq] at this; exact this)
  have HL1 : Hid (∀ W, Calls Try.prog 19 #[.agg #[.int .u8 (h.k : Int), .int .u8 (h.lv : Int), .int .u64 (h.g : Int), .int .u64 (h.e : Int), .int .u64 (h.n : Int)]] W fun e w' => ∃ r, e = .returned r ∧ OB w' W.heap.size r L ∧ Below W.heap.size W w') := Lib.hid (fun W => by have := kLay_any h W ok; rw [hL] at this; exact this)
  have HL2 : Hid (∀ W, Calls Try.prog 20 #[.agg #[.int .u8 (h.k : Int), .int .u8 (h.lv : Int), .int .u64 (h.g : Int), .int .u64 (h.e : Int), .int .u64 (h.n : Int)]] W fun e w' => ∃ r, e = .returned r ∧ OB w' W.heap.size r L ∧ Below W.heap.size W w') := Lib.hid (fun W => by have := rLay_any h W ok; rw [hL] at this; exact this)
  clear hT ht hf hq hL
  go_enter Try.func7, Try.ntmps7
  go_wp2_with fail
  refine (shown_any _).mono ?_
  rintro _ w1 ⟨rfl, hb1⟩
  have b1 := bstep (balloc (bself w) _) hb1
  have h1 : w1.heap[w.heap.size]? = some (hdO h) := (hb1.block _ (by simp)).trans (heap_alloc_new w _)
  clear hb1
  go_wp2_with fail
  refine (HK.out _ (hv.on b1)).mono ?_
  rintro _ w2 ⟨rfl, hb2⟩
  have b2 := bstep b1 hb2
  go_upto_region 3 with fail
  obtain ⟨X, hX⟩ : ∃ X, X = w2.heap.size := ⟨_, rfl⟩
  have h2 : w2.heap[w.heap.size]? = some (hdO h) := (hb2.block _ (Array.getElem?_eq_some_iff.1 h1).1).trans h1
  have x3 : (w2.alloc (hdO t)).heap[X]? = some (hdO t) := by rw [hX]; exact heap_alloc_new w2 _
  have h3 : (w2.alloc (hdO t)).heap[w.heap.size]? = some (hdO h) := (heap_alloc_old w2 _ (Array.getElem?_eq_some_iff.1 h2).1).trans h2
  have b3 := balloc b2 (hdO t)
  rw [← hX]
  generalize World.alloc w2 _ = w3 at x3 h3 b3 ⊢
  clear hX h2 b2 hb2 w2 h1 b1 w1
  go_wp2_with fail
  refine (HR.out _ (hv.on b3)).mono ?_
  rintro _ w4 ⟨rfl, hb4⟩
  have b4 := bstep b3 hb4
  go_upto_region 4 with fail
  obtain ⟨Y, hY⟩ : ∃ Y, Y = w4.heap.size := ⟨_, rfl⟩
  have h4 : w4.heap[w.heap.size]? = some (hdO h) := (hb4.block _ (Array.getElem?_eq_some_iff.1 h3).1).trans h3
  have x4 : w4.heap[X]? = some (hdO t) := (hb4.block _ (Array.getElem?_eq_some_iff.1 x3).1).trans x3
  have y5 : (w4.alloc (hdO t)).heap[Y]? = some (hdO t) := by rw [hY]; exact heap_alloc_new w4 _
  have h5 : (w4.alloc (hdO t)).heap[w.heap.size]? = some (hdO h) := (heap_alloc_old w4 _ (Array.getElem?_eq_some_iff.1 h4).1).trans h4
  have x5 : (w4.alloc (hdO t)).heap[X]? = some (hdO t) := (heap_alloc_old w4 _ (Array.getElem?_eq_some_iff.1 x4).1).trans x4
  have b5 := balloc b4 (hdO t)
  rw [← hY]
  generalize World.alloc w4 _ = w5 at x5 h5 y5 b5 ⊢
  clear hY h4 x4 b4 hb4 w4 h3 x3 b3 w3 hv HK HR
  have KS : Hid (∀ w6, Below w5.heap.size w5 w6 → (fun w9 => (w9.cell? ⟨w.heap.size, 0, none⟩ = some (.int .u8 (h.k : Int)) ∧ w9.cell? ⟨w.heap.size, 1, none⟩ = some (.int .u8 (h.lv : Int)) ∧ w9.cell? ⟨w.heap.size, 2, none⟩ = some (.int .u64 (h.g : Int)) ∧ w9.cell? ⟨w.heap.size, 3, none⟩ = some (.int .u64 (h.e : Int)) ∧ w9.cell? ⟨w.heap.size, 4, none⟩ = some (.int .u64 (h.n : Int))) ∧ (w9.cell? ⟨X, 0, none⟩ = some (.int .u8 (t.k : Int)) ∧ w9.cell? ⟨X, 1, none⟩ = some (.int .u8 (t.lv : Int)) ∧ w9.cell? ⟨X, 2, none⟩ = some (.int .u64 (t.g : Int)) ∧ w9.cell? ⟨X, 3, none⟩ = some (.int .u64 (t.e : Int)) ∧ w9.cell? ⟨X, 4, none⟩ = some (.int .u64 (t.n : Int))) ∧ (w9.cell? ⟨Y, 0, none⟩ = some (.int .u8 (t.k : Int)) ∧ w9.cell? ⟨Y, 1, none⟩ = some (.int .u8 (t.lv : Int)) ∧ w9.cell? ⟨Y, 2, none⟩ = some (.int .u64 (t.g : Int)) ∧ w9.cell? ⟨Y, 3, none⟩ = some (.int .u64 (t.e : Int)) ∧ w9.cell? ⟨Y, 4, none⟩ = some (.int .u64 (t.n : Int)))) w6) := Lib.hid (fun w6 hb => by
    have a1 : HdAt w6 w.heap.size h := (hb.block _ (Array.getElem?_eq_some_iff.1 h5).1).trans h5
    have a2 : HdAt w6 X t := (hb.block _ (Array.getElem?_eq_some_iff.1 x5).1).trans x5
    have a3 : HdAt w6 Y t := (hb.block _ (Array.getElem?_eq_some_iff.1 y5).1).trans y5
    exact ⟨a1.cells, a2.cells, a3.cells⟩)
  clear h5 x5 y5
  refine wp_region_noPanic ?_
  refine wp_region_held_drew (S := fun w9 => (w9.cell? ⟨w.heap.size, 0, none⟩ = some (.int .u8 (h.k : Int)) ∧ w9.cell? ⟨w.heap.size, 1, none⟩ = some (.int .u8 (h.lv : Int)) ∧ w9.cell? ⟨w.heap.size, 2, none⟩ = some (.int .u64 (h.g : Int)) ∧ w9.cell? ⟨w.heap.size, 3, none⟩ = some (.int .u64 (h.e : Int)) ∧ w9.cell? ⟨w.heap.size, 4, none⟩ = some (.int .u64 (h.n : Int))) ∧ (w9.cell? ⟨X, 0, none⟩ = some (.int .u8 (t.k : Int)) ∧ w9.cell? ⟨X, 1, none⟩ = some (.int .u8 (t.lv : Int)) ∧ w9.cell? ⟨X, 2, none⟩ = some (.int .u64 (t.g : Int)) ∧ w9.cell? ⟨X, 3, none⟩ = some (.int .u64 (t.e : Int)) ∧ w9.cell? ⟨X, 4, none⟩ = some (.int .u64 (t.n : Int))) ∧ (w9.cell? ⟨Y, 0, none⟩ = some (.int .u8 (t.k : Int)) ∧ w9.cell? ⟨Y, 1, none⟩ = some (.int .u8 (t.lv : Int)) ∧ w9.cell? ⟨Y, 2, none⟩ = some (.int .u64 (t.g : Int)) ∧ w9.cell? ⟨Y, 3, none⟩ = some (.int .u64 (t.e : Int)) ∧ w9.cell? ⟨Y, 4, none⟩ = some (.int .u64 (t.n : Int)))) (by kernel_rfl) (KS.out _ (bdrew (bself w5))) (fun hHeld => ?_)
  refine reg_take 0 (v := ?_) (by rfl) (by kernel_rfl) (by kernel_rfl) (by kernel_rfl) (fun _ _ _ h => h) (by rfl) ?_ (by assumption) ?_
  rotate_left
  · (intro wq hSq; (try dsimp only at hSq); go_split_ands; go_simp; (try with_reducible rfl))
  try simp only [Act.put, List.setIfInBounds_toArray, List.set_cons_zero, List.set_cons_succ]
  refine reg_take 1 (v := ?_) (by rfl) (by kernel_rfl) (by kernel_rfl) (by kernel_rfl) (fun _ _ _ h => h) (by rfl) ?_ (by assumption) ?_
  rotate_left
  · (intro wq hSq; (try dsimp only at hSq); go_split_ands; go_simp; (try with_reducible rfl))
  try simp only [Act.put, List.setIfInBounds_toArray, List.set_cons_zero, List.set_cons_succ]
  refine reg_take 2 (v := ?_) (by rfl) (by kernel_rfl) (by kernel_rfl) (by kernel_rfl) (fun _ _ _ h => h) (by rfl) ?_ (by assumption) ?_
  rotate_left
  · (intro wq hSq; (try dsimp only at hSq); go_split_ands; go_simp; (try with_reducible rfl))
  try simp only [Act.put, List.setIfInBounds_toArray, List.set_cons_zero, List.set_cons_succ]
  refine reg_take 3 (v := ?_) (by rfl) (by kernel_rfl) (by kernel_rfl) (by kernel_rfl) (fun _ _ _ h => h) (by rfl) ?_ (by assumption) ?_
  rotate_left
  · (intro wq hSq; (try dsimp only at hSq); go_split_ands; go_simp; (try with_reducible rfl))
  try simp only [Act.put, List.setIfInBounds_toArray, List.set_cons_zero, List.set_cons_succ]
  refine reg_take 4 (v := ?_) (by rfl) (by kernel_rfl) (by kernel_rfl) (by kernel_rfl) (fun _ _ _ h => h) (by rfl) ?_ (by assumption) ?_
  rotate_left
  · (intro wq hSq; (try dsimp only at hSq); go_split_ands; go_simp; (try with_reducible rfl))
  try simp only [Act.put, List.setIfInBounds_toArray, List.set_cons_zero, List.set_cons_succ]
  refine reg_take 5 (v := ?_) (by rfl) (by kernel_rfl) (by kernel_rfl) (by kernel_rfl) (fun _ _ _ h => h) (by rfl) ?_ (by assumption) ?_
  rotate_left
  · (intro wq hSq; (try dsimp only at hSq); go_split_ands; go_simp; (try with_reducible rfl))
  try simp only [Act.put, List.setIfInBounds_toArray, List.set_cons_zero, List.set_cons_succ]
  refine reg_take 6 (v := ?_) (by rfl) (by kernel_rfl) (by kernel_rfl) (by kernel_rfl) (fun _ _ _ h => h) (by rfl) ?_ (by assumption) ?_
  rotate_left
  · (intro wq hSq; (try dsimp only at hSq); go_split_ands; go_simp; (try with_reducible rfl))
  try simp only [Act.put, List.setIfInBounds_toArray, List.set_cons_zero, List.set_cons_succ]
  refine reg_take 7 (v := ?_) (by rfl) (by kernel_rfl) (by kernel_rfl) (by kernel_rfl) (fun _ _ _ h => h) (by rfl) ?_ (by assumption) ?_
  rotate_left
  · (intro wq hSq; (try dsimp only at hSq); go_split_ands; go_simp; (try with_reducible rfl))
  try simp only [Act.put, List.setIfInBounds_toArray, List.set_cons_zero, List.set_cons_succ]
  refine reg_take 8 (v := ?_) (by rfl) (by kernel_rfl) (by kernel_rfl) (by kernel_rfl) (fun _ _ _ h => h) (by rfl) ?_ (by assumption) ?_
  rotate_left
  · (intro wq hSq; (try dsimp only at hSq); go_split_ands; go_simp; (try with_reducible rfl))
  try simp only [Act.put, List.setIfInBounds_toArray, List.set_cons_zero, List.set_cons_succ]
  refine reg_take 9 (v := ?_) (by rfl) (by kernel_rfl) (by kernel_rfl) (by kernel_rfl) (fun _ _ _ h => h) (by rfl) ?_ (by assumption) ?_
  rotate_left
  · (intro wq hSq; (try dsimp only at hSq); go_split_ands; go_simp; (try with_reducible rfl))
  try simp only [Act.put, List.setIfInBounds_toArray, List.set_cons_zero, List.set_cons_succ]
  refine reg_take 10 (v := ?_) (by rfl) (by kernel_rfl) (by kernel_rfl) (by kernel_rfl) (fun _ _ _ h => h) (by rfl) ?_ (by assumption) ?_
  rotate_left
  · (intro wq hSq; (try dsimp only at hSq); go_split_ands; go_simp; (try with_reducible rfl))
  try simp only [Act.put, List.setIfInBounds_toArray, List.set_cons_zero, List.set_cons_succ]
  refine reg_take 11 (v := ?_) (by rfl) (by kernel_rfl) (by kernel_rfl) (by kernel_rfl) (fun _ _ _ h => h) (by rfl) ?_ (by assumption) ?_
  rotate_left
  · (intro wq hSq; (try dsimp only at hSq); go_split_ands; go_simp; (try with_reducible rfl))
  try simp only [Act.put, List.setIfInBounds_toArray, List.set_cons_zero, List.set_cons_succ]
  refine reg_take 12 (v := ?_) (by rfl) (by kernel_rfl) (by kernel_rfl) (by kernel_rfl) (fun _ _ _ h => h) (by rfl) ?_ (by assumption) ?_
  rotate_left
  · (intro wq hSq; (try dsimp only at hSq); go_split_ands; go_simp; (try with_reducible rfl))
  try simp only [Act.put, List.setIfInBounds_toArray, List.set_cons_zero, List.set_cons_succ]
  refine reg_take 14 (v := ?_) (by rfl) (by kernel_rfl) (by kernel_rfl) (by kernel_rfl) (fun _ _ _ h => h) (by rfl) ?_ (by assumption) ?_
  rotate_left
  · (intro wq hSq; (try dsimp only at hSq); go_split_ands; go_simp; (try with_reducible rfl))
  try simp only [Act.put, List.setIfInBounds_toArray, List.set_cons_zero, List.set_cons_succ]
  refine reg_one 13 (by rfl) (by kernel_rfl) (by rfl) (fun K hK => ?_)
  (go_simp; go_at_call 17; refine (HQ1.out _).mono ?_; rintro _ w6 ⟨rfl, hb6⟩; have b6 := bstep (bdrew (bself w5)) hb6; go_wp2_with fail)
  refine hK.out _ _ ?_ (fun hHeld => ?_)
  · exact KS.out _ b6
  clear hK K
  try simp only [Act.put, List.setIfInBounds_toArray, List.set_cons_zero, List.set_cons_succ]
  refine reg_one 15 (by rfl) (by kernel_rfl) (by rfl) (fun K hK => ?_)
  (go_simp; go_at_call 18; refine (HQ2.out _).mono ?_; rintro _ w7 ⟨rfl, hb7⟩; have b7 := bstep b6 hb7; go_wp2_with fail)
  refine hK.out _ _ ?_ (fun hHeld => ?_)
  · exact KS.out _ b7
  clear hK K
  try simp only [Act.put, List.setIfInBounds_toArray, List.set_cons_zero, List.set_cons_succ]
  refine reg_take 16 (v := ?_) (by rfl) (by kernel_rfl) (by kernel_rfl) (by kernel_rfl) (fun _ _ _ h => h) (by rfl) ?_ (by assumption) ?_
  rotate_left
  · (intro wq hSq; (try dsimp only at hSq); go_split_ands; go_simp; (try with_reducible rfl))
  try simp only [Act.put, List.setIfInBounds_toArray, List.set_cons_zero, List.set_cons_succ]
  refine reg_take 17 (v := ?_) (by rfl) (by kernel_rfl) (by kernel_rfl) (by kernel_rfl) (fun _ _ _ h => h) (by rfl) ?_ (by assumption) ?_
  rotate_left
  · (intro wq hSq; (try dsimp only at hSq); go_split_ands; go_simp; (try with_reducible rfl))
  try simp only [Act.put, List.setIfInBounds_toArray, List.set_cons_zero, List.set_cons_succ]
  refine reg_take 18 (v := ?_) (by rfl) (by kernel_rfl) (by kernel_rfl) (by kernel_rfl) (fun _ _ _ h => h) (by rfl) ?_ (by assumption) ?_
  rotate_left
  · (intro wq hSq; (try dsimp only at hSq); go_split_ands; go_simp; (try with_reducible rfl))
  try simp only [Act.put, List.setIfInBounds_toArray, List.set_cons_zero, List.set_cons_succ]
  refine reg_take 19 (v := ?_) (by rfl) (by kernel_rfl) (by kernel_rfl) (by kernel_rfl) (fun _ _ _ h => h) (by rfl) ?_ (by assumption) ?_
  rotate_left
  · (intro wq hSq; (try dsimp only at hSq); go_split_ands; go_simp; (try with_reducible rfl))
  try simp only [Act.put, List.setIfInBounds_toArray, List.set_cons_zero, List.set_cons_succ]
  refine reg_take 22 (v := ?_) (by rfl) (by kernel_rfl) (by kernel_rfl) (by kernel_rfl) (fun _ _ _ h => h) (by rfl) ?_ (by assumption) ?_
  rotate_left
  · (intro wq hSq; (try dsimp only at hSq); go_split_ands; go_simp; (try with_reducible rfl))
  try simp only [Act.put, List.setIfInBounds_toArray, List.set_cons_zero, List.set_cons_succ]
  refine reg_one 20 (by rfl) (by kernel_rfl) (by rfl) (fun K hK => ?_)
  (go_simp; go_at_call 19; refine (HL1.out _).mono ?_; rintro _ w8 ⟨r8, rfl, ho8, hb8⟩; have b8 := bstep b7 hb8; go_wp2_with fail)
  refine hK.out _ _ ?_ (fun hHeld => ?_)
  · exact KS.out _ b8
  clear hK K
  try simp only [Act.put, List.setIfInBounds_toArray, List.set_cons_zero, List.set_cons_succ]
  refine reg_add (fun w' => (convert 37 9 r8).run Try.prog w' = .ok (.string ⟨L.toArray⟩) w') (by assumption) (run_b2s w8 r8 _ _ ho8.sb) (fun hHeld => ?_)
  refine reg_take 21 (v := ?_) (by rfl) (by kernel_rfl) (by kernel_rfl) (by kernel_rfl) (fun _ _ _ h => h) (by rfl) ?_ (by assumption) ?_
  rotate_left
  · (intro wq hSq; (try dsimp only at hSq); go_split_ands; go_simp; (try with_reducible rfl))
  try simp only [Act.put, List.setIfInBounds_toArray, List.set_cons_zero, List.set_cons_succ]
  refine reg_one 23 (by rfl) (by kernel_rfl) (by rfl) (fun K hK => ?_)
  (go_simp; go_at_call 20; refine (HL2.out _).mono ?_; rintro _ w9 ⟨r9, rfl, ho9, hb9⟩; have b9 := bstep b8 hb9; go_wp2_with fail)
  refine hK.out _ _ ?_ (fun hHeld => ?_)
  · exact ⟨run_b2s _ r8 _ _ (ho8.sb.below hb9), KS.out _ b9⟩
  clear hK K
  try simp only [Act.put, List.setIfInBounds_toArray, List.set_cons_zero, List.set_cons_succ]
  refine reg_add (fun w' => (convert 37 9 r9).run Try.prog w' = .ok (.string ⟨L.toArray⟩) w') (by assumption) (run_b2s w9 r9 _ _ ho9.sb) (fun hHeld => ?_)
  refine reg_take 24 (v := ?_) (by rfl) (by kernel_rfl) (by kernel_rfl) (by kernel_rfl) (fun _ _ _ h => h) (by rfl) ?_ (by assumption) ?_
  rotate_left
  · (intro wq hSq; (try dsimp only at hSq); go_split_ands; go_simp; (try with_reducible rfl))
  try simp only [Act.put, List.setIfInBounds_toArray, List.set_cons_zero, List.set_cons_succ]
  refine reg_take 25 (v := ?_) (by rfl) (by kernel_rfl) (by kernel_rfl) (by kernel_rfl) (fun _ _ _ h => h) (by rfl) ?_ (by assumption) ?_
  rotate_left
  · (intro wq hSq; (try dsimp only at hSq); go_split_ands; go_simp; (try with_reducible rfl))
  try simp only [Act.put, List.setIfInBounds_toArray, List.set_cons_zero, List.set_cons_succ]
  refine reg_take 26 (v := ?_) (by rfl) (by kernel_rfl) (by kernel_rfl) (by kernel_rfl) (fun _ _ _ h => h) (by rfl) ?_ (by assumption) ?_
  rotate_left
  · (intro wq hSq; (try dsimp only at hSq); go_split_ands; go_simp; (try with_reducible rfl))
  try simp only [Act.put, List.setIfInBounds_toArray, List.set_cons_zero, List.set_cons_succ]
  refine reg_take 27 (v := ?_) (by rfl) (by kernel_rfl) (by kernel_rfl) (by kernel_rfl) (fun _ _ _ h => h) (by rfl) ?_ (by assumption) ?_
  rotate_left
  · (intro wq hSq; (try dsimp only at hSq); go_split_ands; go_simp; (try with_reducible rfl))
  try simp only [Act.put, List.setIfInBounds_toArray, List.set_cons_zero, List.set_cons_succ]
  refine wpAnyH_done (by kernel_rfl) (noPanic_mk ?_) _
  go_wp2_with fail
  go_ret
  exact ⟨by simp, b5.trans (b9.mono b5.size)⟩
end Go.Proofs.Ytjkcdnangmjoeaa
