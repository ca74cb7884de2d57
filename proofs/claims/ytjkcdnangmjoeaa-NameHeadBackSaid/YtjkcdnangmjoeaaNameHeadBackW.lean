/-
  What is proved here: the call of the statement NameHeadBack returns true and turns nothing that was there. Condition: the bytes' length.
-/
import Derived.Test.YtjkcdnangmjoeaaNameHeadsW
namespace Go.Proofs.Ytjkcdnangmjoeaa
open Go.RowKit

set_option maxRecDepth 100000 in
set_option maxHeartbeats 2000000 in
theorem nameHeadBack_any (h i : Hd) (v : Value) (l : List UInt8) (w : World) (ok : h.ok) (oki : i.ok) (hv : SB w w.heap.size v l) (hl : l.length ≤ 140737488351232) :
    Calls Try.prog 8 #[hdV h, hdV i, v] w fun e w' => e = .returned (.bool true) ∧ Below w.heap.size w w' := by
  have hT := takeH_lay h l ok
  obtain ⟨L, hL⟩ : ∃ L, layH h = L := ⟨_, rfl⟩
  have hLl : L.length = 30 := by rw [← hL]; exact layH_len h
  have HL : Hid (∀ W, Calls Try.prog 19 #[.agg #[.int .u8 (h.k : Int), .int .u8 (h.lv : Int), .int .u64 (h.g : Int), .int .u64 (h.e : Int), .int .u64 (h.n : Int)]] W fun e w' => ∃ r, e = .returned r ∧ OB w' W.heap.size r L ∧ Below W.heap.size W w') := Lib.hid (fun W => by have := kLay_any h W ok; rw [hL] at this; exact this)
  obtain ⟨t, ht⟩ : ∃ t, (takeH (L ++ l)).1 = t := ⟨_, rfl⟩
  obtain ⟨f, hf⟩ : ∃ f, (takeH (L ++ l)).2 = f := ⟨_, rfl⟩
  have hTV : takeV (L ++ l) = .tuple #[hdV t, .int .i64 (f : Int)] := by unfold takeV; rw [ht, hf]
  have HK := Lib.hid (fun W u hu => kTake_any u (L ++ l) W hu (by rw [List.length_append]; omega))
  rw [hTV] at HK
  rw [hL] at hT
  rw [hT] at ht hf
  clear hT hTV
  go_enter Try.func8, Try.ntmps8
  go_wp2_with fail
  refine (shown_any _).mono ?_
  rintro _ w1 ⟨rfl, hb1⟩
  have b1 := bstep (balloc (balloc (bself w) _) _) hb1
  have h1 : w1.heap[w.heap.size]? = some (hdO h) := (hb1.block _ (by simp; omega)).trans (heap_alloc2_old w _ _)
  have i1 : w1.heap[w.heap.size + 1]? = some (hdO i) := (hb1.block _ (by simp)).trans (heap_alloc2_new w _ _)
  obtain ⟨c0, c1, c2, c3, c4⟩ := HdAt.cells (h := h) h1
  clear hb1
  go_wp2_with fail
  refine (HL.out _).mono ?_
  rintro _ w2 ⟨r2, rfl, ho2, hb2⟩
  have b2 := bstep b1 hb2
  clear c0 c1 c2 c3 c4
  go_wp2_with (at_builtin; refine wl_appB rfl (.tmp 13) (.tmp 14) rfl w1.heap.size _ L rfl ho2 w.heap.size _ l rfl (hv.below b2) (by omega) hb2.size ?_; intro v3 w3 ho3 _ _ hb3)
  refine (HK.out _ v3 ho3.sb).mono ?_
  rintro _ w4 ⟨rfl, hb4⟩
  have hb3' := hb2.trans hb3
  have b4 : Below w.heap.size w w4 := bstep (b1.trans (hb3'.mono b1.size)) hb4
  have hb4' : Below w1.heap.size w1 w4 := bstep hb3' hb4
  have h4 : w4.heap[w.heap.size]? = some (hdO h) := (hb4'.block _ (Array.getElem?_eq_some_iff.1 h1).1).trans h1
  have i4 : w4.heap[w.heap.size + 1]? = some (hdO i) := (hb4'.block _ (Array.getElem?_eq_some_iff.1 i1).1).trans i1
  clear HK h1 i1 b1 hb2 ho2 ho3 hb3 hb3' hb4 hb4' b2
  go_upto_region 3 with fail
  obtain ⟨X, hX⟩ : ∃ X, X = w4.heap.size := ⟨_, rfl⟩
  have x5 : (w4.alloc (hdO t)).heap[X]? = some (hdO t) := by rw [hX]; exact heap_alloc_new w4 _
  have h5 : (w4.alloc (hdO t)).heap[w.heap.size]? = some (hdO h) := (heap_alloc_old w4 _ (Array.getElem?_eq_some_iff.1 h4).1).trans h4
  have i5 : (w4.alloc (hdO t)).heap[w.heap.size + 1]? = some (hdO i) := (heap_alloc_old w4 _ (Array.getElem?_eq_some_iff.1 i4).1).trans i4
  have b5 := balloc b4 (hdO t)
  rw [← hX]
  generalize World.alloc w4 _ = w5 at x5 h5 i5 b5 ⊢
  clear hX h4 i4 b4
  obtain ⟨c0, c1, c2, c3, c4⟩ := HdAt.cells (h := h) h5
  cases hR : rightH h with
  | false =>
    have HQ : Hid (∀ W, Calls Try.prog 17 #[.agg #[.int .u8 (h.k : Int), .int .u8 (h.lv : Int), .int .u64 (h.g : Int), .int .u64 (h.e : Int), .int .u64 (h.n : Int)]] W fun e w' => e = .returned (.bool false) ∧ Below W.heap.size W w') := Lib.hid (fun W => by have := kRight_any h W ok; rw [hR] at this; exact this)
    rw [hR] at ht hf
    simp only [Bool.false_eq_true, if_false] at ht hf
    subst ht; subst hf
    have hEq : ∀ w', (Op.equalIn 10000 36 (.agg #[.int .u8 0, .int .u8 0, .int .u64 0, .int .u64 0, .int .u64 0]) (.agg #[.int .u8 0, .int .u8 0, .int .u64 0, .int .u64 0, .int .u64 0])).run Try.prog w' = .ok true w' := fun w' => by have := run_eqH w' hd0 hd0; rw [decide_eq_true rfl] at this; exact this
    go_wp2_with fail
    refine (HQ.out _).mono ?_
    rintro _ w6 ⟨rfl, hb6⟩
    have x6 : HdAt w6 X hd0 := (hb6.block _ (Array.getElem?_eq_some_iff.1 x5).1).trans x5
    obtain ⟨a0, a1, a2, a3, a4⟩ := x6.cells
    simp only [hd0, Int.ofNat_eq_natCast] at a0 a1 a2 a3 a4
    clear c0 c1 c2 c3 c4 x6
    go_wp2_with fail
    go_ret
    exact ⟨by simp, bstep b5 hb6⟩
  | true =>
    have HQ : Hid (∀ W, Calls Try.prog 17 #[.agg #[.int .u8 (h.k : Int), .int .u8 (h.lv : Int), .int .u64 (h.g : Int), .int .u64 (h.e : Int), .int .u64 (h.n : Int)]] W fun e w' => e = .returned (.bool true) ∧ Below W.heap.size W w') := Lib.hid (fun W => by have := kRight_any h W ok; rw [hR] at this; exact this)
    rw [hR] at ht hf
    simp only [if_true] at ht hf
    subst ht; subst hf
    have hEq : ∀ w', (Op.equalIn 10000 36 (.agg #[.int .u8 (h.k : Int), .int .u8 (h.lv : Int), .int .u64 (h.g : Int), .int .u64 (h.e : Int), .int .u64 (h.n : Int)]) (.agg #[.int .u8 (h.k : Int), .int .u8 (h.lv : Int), .int .u64 (h.g : Int), .int .u64 (h.e : Int), .int .u64 (h.n : Int)])).run Try.prog w' = .ok true w' := fun w' => by have := run_eqH w' h h; rw [decide_eq_true rfl] at this; exact this
    have HEg := Lib.hid (fun w' => run_eqH w' h i)
    go_upto_region 5 with (go_at_call 17; refine (HQ.out _).mono ?_; rintro _ w6 ⟨rfl, hb6⟩)
    have b6 := bstep b5 hb6
    have KS : Hid (∀ w7, Below w6.heap.size w6 w7 → (fun w9 => (w9.cell? ⟨w.heap.size, 0, none⟩ = some (.int .u8 (h.k : Int)) ∧ w9.cell? ⟨w.heap.size, 1, none⟩ = some (.int .u8 (h.lv : Int)) ∧ w9.cell? ⟨w.heap.size, 2, none⟩ = some (.int .u64 (h.g : Int)) ∧ w9.cell? ⟨w.heap.size, 3, none⟩ = some (.int .u64 (h.e : Int)) ∧ w9.cell? ⟨w.heap.size, 4, none⟩ = some (.int .u64 (h.n : Int))) ∧ (w9.cell? ⟨(w.heap.size + 1), 0, none⟩ = some (.int .u8 (i.k : Int)) ∧ w9.cell? ⟨(w.heap.size + 1), 1, none⟩ = some (.int .u8 (i.lv : Int)) ∧ w9.cell? ⟨(w.heap.size + 1), 2, none⟩ = some (.int .u64 (i.g : Int)) ∧ w9.cell? ⟨(w.heap.size + 1), 3, none⟩ = some (.int .u64 (i.e : Int)) ∧ w9.cell? ⟨(w.heap.size + 1), 4, none⟩ = some (.int .u64 (i.n : Int))) ∧ (w9.cell? ⟨X, 0, none⟩ = some (.int .u8 (h.k : Int)) ∧ w9.cell? ⟨X, 1, none⟩ = some (.int .u8 (h.lv : Int)) ∧ w9.cell? ⟨X, 2, none⟩ = some (.int .u64 (h.g : Int)) ∧ w9.cell? ⟨X, 3, none⟩ = some (.int .u64 (h.e : Int)) ∧ w9.cell? ⟨X, 4, none⟩ = some (.int .u64 (h.n : Int)))) w7) := Lib.hid (fun w7 hb => by
      have hb := bstep hb6 hb
      have a1 : HdAt w7 w.heap.size h := (hb.block _ (Array.getElem?_eq_some_iff.1 h5).1).trans h5
      have a2 : HdAt w7 (w.heap.size + 1) i := (hb.block _ (Array.getElem?_eq_some_iff.1 i5).1).trans i5
      have a3 : HdAt w7 X h := (hb.block _ (Array.getElem?_eq_some_iff.1 x5).1).trans x5
      exact ⟨a1.cells, a2.cells, a3.cells⟩)
    clear h5 x5 i5 c0 c1 c2 c3 c4 hv b5 hb6 HQ hR
    by_cases e : h = i
    · have hEi : ∀ w', (Op.equalIn 10000 36 (.agg #[.int .u8 (h.k : Int), .int .u8 (h.lv : Int), .int .u64 (h.g : Int), .int .u64 (h.e : Int), .int .u64 (h.n : Int)]) (.agg #[.int .u8 (i.k : Int), .int .u8 (i.lv : Int), .int .u64 (i.g : Int), .int .u64 (i.e : Int), .int .u64 (i.n : Int)])).run Try.prog w' = .ok true w' := fun w' => by rw [HEg.out w', decide_eq_true e]
      have HLi : Hid (∀ W, Calls Try.prog 19 #[.agg #[.int .u8 (i.k : Int), .int .u8 (i.lv : Int), .int .u64 (i.g : Int), .int .u64 (i.e : Int), .int .u64 (i.n : Int)]] W fun e w' => ∃ r, e = .returned r ∧ OB w' W.heap.size r L ∧ Below W.heap.size W w') := by rw [← e]; exact HL
      obtain ⟨Li, hLi⟩ : ∃ Li, Hid (Li = L) := ⟨_, rfl⟩
      rw [← hLi.out] at HLi
      have ge : (L == Li) = true := by rw [beq_iff_eq]; exact hLi.out.symm
      clear e hL
      refine wp_region_noPanic ?_
      refine wp_region_held_drew (S := fun w9 => (w9.cell? ⟨w.heap.size, 0, none⟩ = some (.int .u8 (h.k : Int)) ∧ w9.cell? ⟨w.heap.size, 1, none⟩ = some (.int .u8 (h.lv : Int)) ∧ w9.cell? ⟨w.heap.size, 2, none⟩ = some (.int .u64 (h.g : Int)) ∧ w9.cell? ⟨w.heap.size, 3, none⟩ = some (.int .u64 (h.e : Int)) ∧ w9.cell? ⟨w.heap.size, 4, none⟩ = some (.int .u64 (h.n : Int))) ∧ (w9.cell? ⟨(w.heap.size + 1), 0, none⟩ = some (.int .u8 (i.k : Int)) ∧ w9.cell? ⟨(w.heap.size + 1), 1, none⟩ = some (.int .u8 (i.lv : Int)) ∧ w9.cell? ⟨(w.heap.size + 1), 2, none⟩ = some (.int .u64 (i.g : Int)) ∧ w9.cell? ⟨(w.heap.size + 1), 3, none⟩ = some (.int .u64 (i.e : Int)) ∧ w9.cell? ⟨(w.heap.size + 1), 4, none⟩ = some (.int .u64 (i.n : Int))) ∧ (w9.cell? ⟨X, 0, none⟩ = some (.int .u8 (h.k : Int)) ∧ w9.cell? ⟨X, 1, none⟩ = some (.int .u8 (h.lv : Int)) ∧ w9.cell? ⟨X, 2, none⟩ = some (.int .u64 (h.g : Int)) ∧ w9.cell? ⟨X, 3, none⟩ = some (.int .u64 (h.e : Int)) ∧ w9.cell? ⟨X, 4, none⟩ = some (.int .u64 (h.n : Int)))) (by kernel_rfl) (KS.out _ (bdrew (bself w6))) (fun hHeld => ?_)
      refine reg_take 0 (v := ?_) (by rfl) (by kernel_rfl) (by kernel_rfl) (by kernel_rfl) (fun _ _ _ h => h) (by rfl) ?_ (by assumption) ?_
      rotate_left
      · (intro wq hSq; (try dsimp only at hSq); go_split_ands; go_simp; (try with_reducible rfl))
      try simp only [Act.put, List.setIfInBounds_toArray, List.set_cons_zero, List.set_cons_succ]
      refine reg_take 1 (v := ?_) (by rfl) (by kernel_rfl) (by kernel_rfl) (by kernel_rfl) (fun _ _ _ h => h) (by rfl) ?_ (by assumption) ?_
      rotate_left
      · (intro wq hSq; (try dsimp only at hSq); go_split_ands; go_simp; (try with_reducible rfl))
      try simp only [Act.put, List.setIfInBounds_toArray, List.set_cons_zero, List.set_cons_succ]
      refine reg_take 2 (v := ?_) (by rfl) (by kernel_rfl) (by kernel_rfl) (by kernel_rfl) (fun _ _ _ h => h) (by rfl) ?_ (by assumption) ?_
      rotate_left
      · (intro wq hSq; (try dsimp only at hSq); go_split_ands; go_simp; (try with_reducible rfl))
      try simp only [Act.put, List.setIfInBounds_toArray, List.set_cons_zero, List.set_cons_succ]
      refine reg_take 3 (v := ?_) (by rfl) (by kernel_rfl) (by kernel_rfl) (by kernel_rfl) (fun _ _ _ h => h) (by rfl) ?_ (by assumption) ?_
      rotate_left
      · (intro wq hSq; (try dsimp only at hSq); go_split_ands; go_simp; (try with_reducible rfl))
      try simp only [Act.put, List.setIfInBounds_toArray, List.set_cons_zero, List.set_cons_succ]
      refine reg_take 4 (v := ?_) (by rfl) (by kernel_rfl) (by kernel_rfl) (by kernel_rfl) (fun _ _ _ h => h) (by rfl) ?_ (by assumption) ?_
      rotate_left
      · (intro wq hSq; (try dsimp only at hSq); go_split_ands; go_simp; (try with_reducible rfl))
      try simp only [Act.put, List.setIfInBounds_toArray, List.set_cons_zero, List.set_cons_succ]
      refine reg_take 5 (v := ?_) (by rfl) (by kernel_rfl) (by kernel_rfl) (by kernel_rfl) (fun _ _ _ h => h) (by rfl) ?_ (by assumption) ?_
      rotate_left
      · (intro wq hSq; (try dsimp only at hSq); go_split_ands; go_simp; (try with_reducible rfl))
      try simp only [Act.put, List.setIfInBounds_toArray, List.set_cons_zero, List.set_cons_succ]
      refine reg_take 6 (v := ?_) (by rfl) (by kernel_rfl) (by kernel_rfl) (by kernel_rfl) (fun _ _ _ h => h) (by rfl) ?_ (by assumption) ?_
      rotate_left
      · (intro wq hSq; (try dsimp only at hSq); go_split_ands; go_simp; (try with_reducible rfl))
      try simp only [Act.put, List.setIfInBounds_toArray, List.set_cons_zero, List.set_cons_succ]
      refine reg_take 7 (v := ?_) (by rfl) (by kernel_rfl) (by kernel_rfl) (by kernel_rfl) (fun _ _ _ h => h) (by rfl) ?_ (by assumption) ?_
      rotate_left
      · (intro wq hSq; (try dsimp only at hSq); go_split_ands; go_simp; (try with_reducible rfl))
      try simp only [Act.put, List.setIfInBounds_toArray, List.set_cons_zero, List.set_cons_succ]
      refine reg_take 8 (v := ?_) (by rfl) (by kernel_rfl) (by kernel_rfl) (by kernel_rfl) (fun _ _ _ h => h) (by rfl) ?_ (by assumption) ?_
      rotate_left
      · (intro wq hSq; (try dsimp only at hSq); go_split_ands; go_simp; (try with_reducible rfl))
      try simp only [Act.put, List.setIfInBounds_toArray, List.set_cons_zero, List.set_cons_succ]
      refine reg_take 9 (v := ?_) (by rfl) (by kernel_rfl) (by kernel_rfl) (by kernel_rfl) (fun _ _ _ h => h) (by rfl) ?_ (by assumption) ?_
      rotate_left
      · (intro wq hSq; (try dsimp only at hSq); go_split_ands; go_simp; (try with_reducible rfl))
      try simp only [Act.put, List.setIfInBounds_toArray, List.set_cons_zero, List.set_cons_succ]
      refine reg_take 10 (v := ?_) (by rfl) (by kernel_rfl) (by kernel_rfl) (by kernel_rfl) (fun _ _ _ h => h) (by rfl) ?_ (by assumption) ?_
      rotate_left
      · (intro wq hSq; (try dsimp only at hSq); go_split_ands; go_simp; (try with_reducible rfl))
      try simp only [Act.put, List.setIfInBounds_toArray, List.set_cons_zero, List.set_cons_succ]
      refine reg_take 11 (v := ?_) (by rfl) (by kernel_rfl) (by kernel_rfl) (by kernel_rfl) (fun _ _ _ h => h) (by rfl) ?_ (by assumption) ?_
      rotate_left
      · (intro wq hSq; (try dsimp only at hSq); go_split_ands; go_simp; (try with_reducible rfl))
      try simp only [Act.put, List.setIfInBounds_toArray, List.set_cons_zero, List.set_cons_succ]
      refine reg_take 14 (v := ?_) (by rfl) (by kernel_rfl) (by kernel_rfl) (by kernel_rfl) (fun _ _ _ h => h) (by rfl) ?_ (by assumption) ?_
      rotate_left
      · (intro wq hSq; (try dsimp only at hSq); go_split_ands; go_simp; (try with_reducible rfl))
      try simp only [Act.put, List.setIfInBounds_toArray, List.set_cons_zero, List.set_cons_succ]
      refine reg_take 18 (v := ?_) (by rfl) (by kernel_rfl) (by kernel_rfl) (by kernel_rfl) (fun _ _ _ h => h) (by rfl) ?_ (by assumption) ?_
      rotate_left
      · (intro wq hSq; (try dsimp only at hSq); go_split_ands; go_simp; (try with_reducible rfl))
      try simp only [Act.put, List.setIfInBounds_toArray, List.set_cons_zero, List.set_cons_succ]
      refine reg_take 19 (v := ?_) (by rfl) (by kernel_rfl) (by kernel_rfl) (by kernel_rfl) (fun _ _ _ h => h) (by rfl) ?_ (by assumption) ?_
      rotate_left
      · (intro wq hSq; (try dsimp only at hSq); go_split_ands; go_simp; (try with_reducible rfl))
      try simp only [Act.put, List.setIfInBounds_toArray, List.set_cons_zero, List.set_cons_succ]
      refine reg_take 20 (v := ?_) (by rfl) (by kernel_rfl) (by kernel_rfl) (by kernel_rfl) (fun _ _ _ h => h) (by rfl) ?_ (by assumption) ?_
      rotate_left
      · (intro wq hSq; (try dsimp only at hSq); go_split_ands; go_simp; (try with_reducible rfl))
      try simp only [Act.put, List.setIfInBounds_toArray, List.set_cons_zero, List.set_cons_succ]
      refine reg_one 12 (by rfl) (by kernel_rfl) (by rfl) (fun K hK => ?_)
      (go_simp; go_at_call 19; refine (HL.out _).mono ?_; rintro _ w8 ⟨r8, rfl, ho8, hb8⟩; have b8 := bstep (bdrew (bself w6)) hb8; go_wp2_with fail)
      refine hK.out _ _ ?_ (fun hHeld => ?_)
      · exact KS.out _ b8
      clear hK K
      try simp only [Act.put, List.setIfInBounds_toArray, List.set_cons_zero, List.set_cons_succ]
      refine reg_add (fun w' => (convert 37 9 r8).run Try.prog w' = .ok (.string ⟨L.toArray⟩) w') (by assumption) (run_b2s w8 r8 _ _ ho8.sb) (fun hHeld => ?_)
      refine reg_take 13 (v := ?_) (by rfl) (by kernel_rfl) (by kernel_rfl) (by kernel_rfl) (fun _ _ _ h => h) (by rfl) ?_ (by assumption) ?_
      rotate_left
      · (intro wq hSq; (try dsimp only at hSq); go_split_ands; go_simp; (try with_reducible rfl))
      try simp only [Act.put, List.setIfInBounds_toArray, List.set_cons_zero, List.set_cons_succ]
      refine reg_one 15 (by rfl) (by kernel_rfl) (by rfl) (fun K hK => ?_)
      (go_simp; go_at_call 19; refine (HLi.out _).mono ?_; rintro _ w9 ⟨r9, rfl, ho9, hb9⟩; have b9 := bstep b8 hb9; go_wp2_with fail)
      refine hK.out _ _ ?_ (fun hHeld => ?_)
      · exact ⟨run_b2s _ r8 _ _ (ho8.sb.below hb9), KS.out _ b9⟩
      clear hK K
      try simp only [Act.put, List.setIfInBounds_toArray, List.set_cons_zero, List.set_cons_succ]
      refine reg_add (fun w' => (convert 37 9 r9).run Try.prog w' = .ok (.string ⟨Li.toArray⟩) w') (by assumption) (run_b2s w9 r9 _ _ ho9.sb) (fun hHeld => ?_)
      refine reg_take 16 (v := ?_) (by rfl) (by kernel_rfl) (by kernel_rfl) (by kernel_rfl) (fun _ _ _ h => h) (by rfl) ?_ (by assumption) ?_
      rotate_left
      · (intro wq hSq; (try dsimp only at hSq); go_split_ands; go_simp; (try with_reducible rfl))
      try simp only [Act.put, List.setIfInBounds_toArray, List.set_cons_zero, List.set_cons_succ]
      refine reg_take 17 (v := ?_) (by rfl) (by kernel_rfl) (by kernel_rfl) (by kernel_rfl) (fun _ _ _ h => h) (by rfl) ?_ (by assumption) ?_
      rotate_left
      · (intro wq hSq; (try dsimp only at hSq); go_split_ands; go_simp; (try with_reducible rfl))
      try simp only [Act.put, List.setIfInBounds_toArray, List.set_cons_zero, List.set_cons_succ]
      refine reg_take 21 (v := ?_) (by rfl) (by kernel_rfl) (by kernel_rfl) (by kernel_rfl) (fun _ _ _ h => h) (by rfl) ?_ (by assumption) ?_
      rotate_left
      · (intro wq hSq; (try dsimp only at hSq); go_split_ands; go_simp; (try with_reducible rfl))
      try simp only [Act.put, List.setIfInBounds_toArray, List.set_cons_zero, List.set_cons_succ]
      refine reg_take 22 (v := ?_) (by rfl) (by kernel_rfl) (by kernel_rfl) (by kernel_rfl) (fun _ _ _ h => h) (by rfl) ?_ (by assumption) ?_
      rotate_left
      · (intro wq hSq; (try dsimp only at hSq); go_split_ands; go_simp; (try with_reducible rfl))
      try simp only [Act.put, List.setIfInBounds_toArray, List.set_cons_zero, List.set_cons_succ]
      refine reg_take 23 (v := ?_) (by rfl) (by kernel_rfl) (by kernel_rfl) (by kernel_rfl) (fun _ _ _ h => h) (by rfl) ?_ (by assumption) ?_
      rotate_left
      · (intro wq hSq; (try dsimp only at hSq); go_split_ands; go_simp; (try with_reducible rfl))
      try simp only [Act.put, List.setIfInBounds_toArray, List.set_cons_zero, List.set_cons_succ]
      refine wpAnyH_done (by kernel_rfl) (noPanic_mk ?_) _
      go_wp2_with fail
      go_ret
      exact ⟨by simp, b6.trans (b9.mono b6.size)⟩
    · have hEi : ∀ w', (Op.equalIn 10000 36 (.agg #[.int .u8 (h.k : Int), .int .u8 (h.lv : Int), .int .u64 (h.g : Int), .int .u64 (h.e : Int), .int .u64 (h.n : Int)]) (.agg #[.int .u8 (i.k : Int), .int .u8 (i.lv : Int), .int .u64 (i.g : Int), .int .u64 (i.e : Int), .int .u64 (i.n : Int)])).run Try.prog w' = .ok false w' := fun w' => by rw [HEg.out w', decide_eq_false e]
      obtain ⟨Li, hLi⟩ : ∃ L, layH i = L := ⟨_, rfl⟩
      have HLi : Hid (∀ W, Calls Try.prog 19 #[.agg #[.int .u8 (i.k : Int), .int .u8 (i.lv : Int), .int .u64 (i.g : Int), .int .u64 (i.e : Int), .int .u64 (i.n : Int)]] W fun e w' => ∃ r, e = .returned r ∧ OB w' W.heap.size r Li ∧ Below W.heap.size W w') := Lib.hid (fun W => by have := kLay_any i W oki; rw [hLi] at this; exact this)
      have ge : (L == Li) = false := by rw [beq_eq_false_iff_ne, ← hL, ← hLi]; exact fun x => e ((layH_inj h i ok oki).1 x)
      clear e hL hLi
      refine wp_region_noPanic ?_
      refine wp_region_held_drew (S := fun w9 => (w9.cell? ⟨w.heap.size, 0, none⟩ = some (.int .u8 (h.k : Int)) ∧ w9.cell? ⟨w.heap.size, 1, none⟩ = some (.int .u8 (h.lv : Int)) ∧ w9.cell? ⟨w.heap.size, 2, none⟩ = some (.int .u64 (h.g : Int)) ∧ w9.cell? ⟨w.heap.size, 3, none⟩ = some (.int .u64 (h.e : Int)) ∧ w9.cell? ⟨w.heap.size, 4, none⟩ = some (.int .u64 (h.n : Int))) ∧ (w9.cell? ⟨(w.heap.size + 1), 0, none⟩ = some (.int .u8 (i.k : Int)) ∧ w9.cell? ⟨(w.heap.size + 1), 1, none⟩ = some (.int .u8 (i.lv : Int)) ∧ w9.cell? ⟨(w.heap.size + 1), 2, none⟩ = some (.int .u64 (i.g : Int)) ∧ w9.cell? ⟨(w.heap.size + 1), 3, none⟩ = some (.int .u64 (i.e : Int)) ∧ w9.cell? ⟨(w.heap.size + 1), 4, none⟩ = some (.int .u64 (i.n : Int))) ∧ (w9.cell? ⟨X, 0, none⟩ = some (.int .u8 (h.k : Int)) ∧ w9.cell? ⟨X, 1, none⟩ = some (.int .u8 (h.lv : Int)) ∧ w9.cell? ⟨X, 2, none⟩ = some (.int .u64 (h.g : Int)) ∧ w9.cell? ⟨X, 3, none⟩ = some (.int .u64 (h.e : Int)) ∧ w9.cell? ⟨X, 4, none⟩ = some (.int .u64 (h.n : Int)))) (by kernel_rfl) (KS.out _ (bdrew (bself w6))) (fun hHeld => ?_)
      refine reg_take 0 (v := ?_) (by rfl) (by kernel_rfl) (by kernel_rfl) (by kernel_rfl) (fun _ _ _ h => h) (by rfl) ?_ (by assumption) ?_
      rotate_left
      · (intro wq hSq; (try dsimp only at hSq); go_split_ands; go_simp; (try with_reducible rfl))
      try simp only [Act.put, List.setIfInBounds_toArray, List.set_cons_zero, List.set_cons_succ]
      refine reg_take 1 (v := ?_) (by rfl) (by kernel_rfl) (by kernel_rfl) (by kernel_rfl) (fun _ _ _ h => h) (by rfl) ?_ (by assumption) ?_
      rotate_left
      · (intro wq hSq; (try dsimp only at hSq); go_split_ands; go_simp; (try with_reducible rfl))
      try simp only [Act.put, List.setIfInBounds_toArray, List.set_cons_zero, List.set_cons_succ]
      refine reg_take 2 (v := ?_) (by rfl) (by kernel_rfl) (by kernel_rfl) (by kernel_rfl) (fun _ _ _ h => h) (by rfl) ?_ (by assumption) ?_
      rotate_left
      · (intro wq hSq; (try dsimp only at hSq); go_split_ands; go_simp; (try with_reducible rfl))
      try simp only [Act.put, List.setIfInBounds_toArray, List.set_cons_zero, List.set_cons_succ]
      refine reg_take 3 (v := ?_) (by rfl) (by kernel_rfl) (by kernel_rfl) (by kernel_rfl) (fun _ _ _ h => h) (by rfl) ?_ (by assumption) ?_
      rotate_left
      · (intro wq hSq; (try dsimp only at hSq); go_split_ands; go_simp; (try with_reducible rfl))
      try simp only [Act.put, List.setIfInBounds_toArray, List.set_cons_zero, List.set_cons_succ]
      refine reg_take 4 (v := ?_) (by rfl) (by kernel_rfl) (by kernel_rfl) (by kernel_rfl) (fun _ _ _ h => h) (by rfl) ?_ (by assumption) ?_
      rotate_left
      · (intro wq hSq; (try dsimp only at hSq); go_split_ands; go_simp; (try with_reducible rfl))
      try simp only [Act.put, List.setIfInBounds_toArray, List.set_cons_zero, List.set_cons_succ]
      refine reg_take 5 (v := ?_) (by rfl) (by kernel_rfl) (by kernel_rfl) (by kernel_rfl) (fun _ _ _ h => h) (by rfl) ?_ (by assumption) ?_
      rotate_left
      · (intro wq hSq; (try dsimp only at hSq); go_split_ands; go_simp; (try with_reducible rfl))
      try simp only [Act.put, List.setIfInBounds_toArray, List.set_cons_zero, List.set_cons_succ]
      refine reg_take 6 (v := ?_) (by rfl) (by kernel_rfl) (by kernel_rfl) (by kernel_rfl) (fun _ _ _ h => h) (by rfl) ?_ (by assumption) ?_
      rotate_left
      · (intro wq hSq; (try dsimp only at hSq); go_split_ands; go_simp; (try with_reducible rfl))
      try simp only [Act.put, List.setIfInBounds_toArray, List.set_cons_zero, List.set_cons_succ]
      refine reg_take 7 (v := ?_) (by rfl) (by kernel_rfl) (by kernel_rfl) (by kernel_rfl) (fun _ _ _ h => h) (by rfl) ?_ (by assumption) ?_
      rotate_left
      · (intro wq hSq; (try dsimp only at hSq); go_split_ands; go_simp; (try with_reducible rfl))
      try simp only [Act.put, List.setIfInBounds_toArray, List.set_cons_zero, List.set_cons_succ]
      refine reg_take 8 (v := ?_) (by rfl) (by kernel_rfl) (by kernel_rfl) (by kernel_rfl) (fun _ _ _ h => h) (by rfl) ?_ (by assumption) ?_
      rotate_left
      · (intro wq hSq; (try dsimp only at hSq); go_split_ands; go_simp; (try with_reducible rfl))
      try simp only [Act.put, List.setIfInBounds_toArray, List.set_cons_zero, List.set_cons_succ]
      refine reg_take 9 (v := ?_) (by rfl) (by kernel_rfl) (by kernel_rfl) (by kernel_rfl) (fun _ _ _ h => h) (by rfl) ?_ (by assumption) ?_
      rotate_left
      · (intro wq hSq; (try dsimp only at hSq); go_split_ands; go_simp; (try with_reducible rfl))
      try simp only [Act.put, List.setIfInBounds_toArray, List.set_cons_zero, List.set_cons_succ]
      refine reg_take 10 (v := ?_) (by rfl) (by kernel_rfl) (by kernel_rfl) (by kernel_rfl) (fun _ _ _ h => h) (by rfl) ?_ (by assumption) ?_
      rotate_left
      · (intro wq hSq; (try dsimp only at hSq); go_split_ands; go_simp; (try with_reducible rfl))
      try simp only [Act.put, List.setIfInBounds_toArray, List.set_cons_zero, List.set_cons_succ]
      refine reg_take 11 (v := ?_) (by rfl) (by kernel_rfl) (by kernel_rfl) (by kernel_rfl) (fun _ _ _ h => h) (by rfl) ?_ (by assumption) ?_
      rotate_left
      · (intro wq hSq; (try dsimp only at hSq); go_split_ands; go_simp; (try with_reducible rfl))
      try simp only [Act.put, List.setIfInBounds_toArray, List.set_cons_zero, List.set_cons_succ]
      refine reg_take 14 (v := ?_) (by rfl) (by kernel_rfl) (by kernel_rfl) (by kernel_rfl) (fun _ _ _ h => h) (by rfl) ?_ (by assumption) ?_
      rotate_left
      · (intro wq hSq; (try dsimp only at hSq); go_split_ands; go_simp; (try with_reducible rfl))
      try simp only [Act.put, List.setIfInBounds_toArray, List.set_cons_zero, List.set_cons_succ]
      refine reg_take 18 (v := ?_) (by rfl) (by kernel_rfl) (by kernel_rfl) (by kernel_rfl) (fun _ _ _ h => h) (by rfl) ?_ (by assumption) ?_
      rotate_left
      · (intro wq hSq; (try dsimp only at hSq); go_split_ands; go_simp; (try with_reducible rfl))
      try simp only [Act.put, List.setIfInBounds_toArray, List.set_cons_zero, List.set_cons_succ]
      refine reg_take 19 (v := ?_) (by rfl) (by kernel_rfl) (by kernel_rfl) (by kernel_rfl) (fun _ _ _ h => h) (by rfl) ?_ (by assumption) ?_
      rotate_left
      · (intro wq hSq; (try dsimp only at hSq); go_split_ands; go_simp; (try with_reducible rfl))
      try simp only [Act.put, List.setIfInBounds_toArray, List.set_cons_zero, List.set_cons_succ]
      refine reg_take 20 (v := ?_) (by rfl) (by kernel_rfl) (by kernel_rfl) (by kernel_rfl) (fun _ _ _ h => h) (by rfl) ?_ (by assumption) ?_
      rotate_left
      · (intro wq hSq; (try dsimp only at hSq); go_split_ands; go_simp; (try with_reducible rfl))
      try simp only [Act.put, List.setIfInBounds_toArray, List.set_cons_zero, List.set_cons_succ]
      refine reg_one 12 (by rfl) (by kernel_rfl) (by rfl) (fun K hK => ?_)
      (go_simp; go_at_call 19; refine (HL.out _).mono ?_; rintro _ w8 ⟨r8, rfl, ho8, hb8⟩; have b8 := bstep (bdrew (bself w6)) hb8; go_wp2_with fail)
      refine hK.out _ _ ?_ (fun hHeld => ?_)
      · exact KS.out _ b8
      clear hK K
      try simp only [Act.put, List.setIfInBounds_toArray, List.set_cons_zero, List.set_cons_succ]
      refine reg_add (fun w' => (convert 37 9 r8).run Try.prog w' = .ok (.string ⟨L.toArray⟩) w') (by assumption) (run_b2s w8 r8 _ _ ho8.sb) (fun hHeld => ?_)
      refine reg_take 13 (v := ?_) (by rfl) (by kernel_rfl) (by kernel_rfl) (by kernel_rfl) (fun _ _ _ h => h) (by rfl) ?_ (by assumption) ?_
      rotate_left
      · (intro wq hSq; (try dsimp only at hSq); go_split_ands; go_simp; (try with_reducible rfl))
      try simp only [Act.put, List.setIfInBounds_toArray, List.set_cons_zero, List.set_cons_succ]
      refine reg_one 15 (by rfl) (by kernel_rfl) (by rfl) (fun K hK => ?_)
      (go_simp; go_at_call 19; refine (HLi.out _).mono ?_; rintro _ w9 ⟨r9, rfl, ho9, hb9⟩; have b9 := bstep b8 hb9; go_wp2_with fail)
      refine hK.out _ _ ?_ (fun hHeld => ?_)
      · exact ⟨run_b2s _ r8 _ _ (ho8.sb.below hb9), KS.out _ b9⟩
      clear hK K
      try simp only [Act.put, List.setIfInBounds_toArray, List.set_cons_zero, List.set_cons_succ]
      refine reg_add (fun w' => (convert 37 9 r9).run Try.prog w' = .ok (.string ⟨Li.toArray⟩) w') (by assumption) (run_b2s w9 r9 _ _ ho9.sb) (fun hHeld => ?_)
      refine reg_take 16 (v := ?_) (by rfl) (by kernel_rfl) (by kernel_rfl) (by kernel_rfl) (fun _ _ _ h => h) (by rfl) ?_ (by assumption) ?_
      rotate_left
      · (intro wq hSq; (try dsimp only at hSq); go_split_ands; go_simp; (try with_reducible rfl))
      try simp only [Act.put, List.setIfInBounds_toArray, List.set_cons_zero, List.set_cons_succ]
      refine reg_take 17 (v := ?_) (by rfl) (by kernel_rfl) (by kernel_rfl) (by kernel_rfl) (fun _ _ _ h => h) (by rfl) ?_ (by assumption) ?_
      rotate_left
      · (intro wq hSq; (try dsimp only at hSq); go_split_ands; go_simp; (try with_reducible rfl))
      try simp only [Act.put, List.setIfInBounds_toArray, List.set_cons_zero, List.set_cons_succ]
      refine reg_take 21 (v := ?_) (by rfl) (by kernel_rfl) (by kernel_rfl) (by kernel_rfl) (fun _ _ _ h => h) (by rfl) ?_ (by assumption) ?_
      rotate_left
      · (intro wq hSq; (try dsimp only at hSq); go_split_ands; go_simp; (try with_reducible rfl))
      try simp only [Act.put, List.setIfInBounds_toArray, List.set_cons_zero, List.set_cons_succ]
      refine reg_take 22 (v := ?_) (by rfl) (by kernel_rfl) (by kernel_rfl) (by kernel_rfl) (fun _ _ _ h => h) (by rfl) ?_ (by assumption) ?_
      rotate_left
      · (intro wq hSq; (try dsimp only at hSq); go_split_ands; go_simp; (try with_reducible rfl))
      try simp only [Act.put, List.setIfInBounds_toArray, List.set_cons_zero, List.set_cons_succ]
      refine reg_take 23 (v := ?_) (by rfl) (by kernel_rfl) (by kernel_rfl) (by kernel_rfl) (fun _ _ _ h => h) (by rfl) ?_ (by assumption) ?_
      rotate_left
      · (intro wq hSq; (try dsimp only at hSq); go_split_ands; go_simp; (try with_reducible rfl))
      try simp only [Act.put, List.setIfInBounds_toArray, List.set_cons_zero, List.set_cons_succ]
      refine wpAnyH_done (by kernel_rfl) (noPanic_mk ?_) _
      go_wp2_with fail
      go_ret
      exact ⟨by simp, b6.trans (b9.mono b6.size)⟩
end Go.Proofs.Ytjkcdnangmjoeaa
