/-
  What is proved here: what the program's and the reference's Lay (of a head) come to, at this seat's numbers. No condition but the head's numbers.
-/
import Derived.Test.YtchjknbideoieaaGreatDoorK22
import Derived.Test.YtchjknbideoieaaGreatDoorK04
import Derived.Lib.SmallJoins
import Derived.Deep.DeepCutAuto
import Derived.Deep.CutBlock
namespace Go.Proofs.YtchjknbideoieaaGreatDoor
open Go.RowKit
theorem OB.litV {base : Nat} (W : World) (l : List UInt8) (cs : Array Value) (hu : cs = (bv l).toArray) {g n : Nat} (hg : g = W.heap.size) (hn : n = l.length) (hb : base ≤ W.heap.size) (hl : l.length ≤ maxLen) : OB (W.alloc (.cells cs 5)) base (.slice (some ⟨g, 0, none⟩) n n) l := by
  subst hu; subst hg; subst hn
  exact OB.lit W l hb hl
theorem SB.litV {B : Nat} (W : World) (l : List UInt8) (cs : Array Value) (hu : cs = (bv l).toArray) {g n : Nat} (hg : g = W.heap.size) (hn : n = l.length) (hb : g < B) (hl : l.length ≤ maxLen) : SB (W.alloc (.cells cs 5)) B (.slice (some ⟨g, 0, none⟩) n n) l := by
  have h : OB _ 0 _ _ := OB.litV W l cs hu hg hn (Nat.zero_le _) hl
  exact Sl.more h.sb (by simp; omega)
theorem two_b {k lv : Nat} (h1 : k < 256) (h2 : lv < 256) : #[Value.int .u8 (k : Int), .int .u8 (lv : Int)] = (bv [UInt8.ofNat k, UInt8.ofNat lv]).toArray := by
  simp [bv, u8v, UInt8.toNat_ofNat']
  omega
def layP (h : Hd) : Nat → List UInt8
  | 0 => sTant ++ [UInt8.ofNat h.k, UInt8.ofNat h.lv]
  | 1 => sTant ++ [UInt8.ofNat h.k, UInt8.ofNat h.lv] ++ fix h.g 8
  | 2 => sTant ++ [UInt8.ofNat h.k, UInt8.ofNat h.lv] ++ fix h.g 8 ++ fix h.e 8
  | _ => layH h
theorem layP_len (h : Hd) (i : Nat) : (layP h i).length ≤ 30 := by
  unfold layP
  split <;> simp [sTant, fix_length, layH_len]
set_option maxRecDepth 100000 in
theorem run_idx3 (a b c : Nat) (i : Nat) (hi : i < 3) (w : World) : (Instr.index 167 (.agg #[.int .u64 (a : Int), .int .u64 (b : Int), .int .u64 (c : Int)]) (.int .i64 (i : Int))).run Tryz.prog w = .ok (.int .u64 ((if i = 0 then a else if i = 1 then b else c : Nat) : Int)) w := by
  have h := Tryz.underlying167
  have e : i = 0 ∨ i = 1 ∨ i = 2 := by omega
  rcases e with rfl | rfl | rfl <;> simp [Instr.index, run_underlying h, asIntOf, go_sem]
section
variable {ops : Array Oper} {rest : List Oper} {o : Oper} {a : Act} {Q : Exit → Act → World → Prop} {w : World}
set_option maxRecDepth 100000 in
theorem wl_idx3 (hgd : Region.wanted o (yielded ops a.tmps) = true) (x y : Operand) (ho : o.op = .index 167 x y) (n0 n1 n2 : Nat) (i : Nat) (hi : i < 3) (hx : a.eval x = .agg #[.int .u64 (n0 : Int), .int .u64 (n1 : Int), .int .u64 (n2 : Int)]) (hy : a.eval y = .int .i64 (i : Int))
    (h : wpList Tryz.prog ops Q rest (a.put o.dst (.int .u64 ((if i = 0 then n0 else if i = 1 then n1 else n2 : Nat) : Int))) w) : wpList Tryz.prog ops Q (o :: rest) a w := by
  refine wl_of hgd fun K hK => ?_
  unfold Oper.wp execOp
  simp only [ho, hx, hy, Sem.run_bind, Sem.run_pure, Result.andThen_ok, run_idx3 n0 n1 n2 i hi]
  exact hK _ _ h
end
section
variable {ops : Array Oper} {rest : List Oper} {o : Oper} {a : Act} {Q : Exit → Act → World → Prop} {w : World}
set_option maxRecDepth 100000 in
theorem wl_appF (hgd : Region.wanted o (yielded ops a.tmps) = true) (s x : Operand)
    (ho : o.op = .call { callee := .builtin .append, args := #[s, x], argTypes := #[56, 56] })
    (l : List UInt8) {g n : Nat} (hs : a.eval s = .slice (some ⟨g, 0, none⟩) n n) (hn : n = l.length) (hold : ∀ j u, (bv l)[j]? = some u → w.cell? ⟨g, 0 + j, none⟩ = some u)
    (B : Nat) (u : Value) (m : List UInt8) (hx : a.eval x = u) (hr : SB w B u m) (hm : 0 < m.length) (hlen : l.length + m.length ≤ 140737488355328)
    (h : ∀ v' w', OB w' w.heap.size v' (l ++ m) → Below w.heap.size w w' → wpList Tryz.prog ops Q rest (a.put o.dst v') w') : wpList Tryz.prog ops Q (o :: rest) a w := by
  subst hn
  obtain ⟨i0, hi0, hz0, hz1, hz2⟩ := info_parts infoB
  obtain ⟨A, c, rfl, hc1, hc2, hr⟩ := hr
  obtain ⟨b, of, rfl, hb, hcell⟩ := hr.at_ hm
  have hrun := run_append_grow (P := Tryz.prog) w 56 o.type 5 i0 _ Tryz.underlying56 hi0 hz0 ⟨g, 0, none⟩ l.length l.length (bv l) (by rw [bv_length, hz1, Nat.mul_one]) (fun j v hj => by rw [add_lit0]; exact hold j v hj)
    ⟨b, of, none⟩ m.length c (bv m) (by rw [bv_length, hz1, Nat.mul_one]) (fun j v hj => by rw [add_lit0]; exact hcell j v hj) (by omega) (by omega) (by rw [hz2]; exact growslice_fits (by omega) (by omega))
  have hge := grownCap_ge w (l.length + m.length) l.length 5
  have hcm : grownCap w (l.length + m.length) l.length 5 ≤ maxLen := grownCap_le_maxLen w (l.length + m.length) l.length 5 (by simp only [maxLen]; omega)
  refine wl_of hgd fun K hK => ?_
  unfold Oper.wp execOp
  simp only [ho, resolve, invoke, builtin, Sem.run_bind, Sem.run_pure, Result.andThen_ok, List.map_toArray, List.map_cons, List.map_nil, hs, hx, hrun]
  refine hK _ _ (h _ _ ?_ ((Below.refl _ _).drew.alloc (Nat.le_refl _) _))
  unfold OB
  have hlen2 : (bv (l ++ m)).length = (l ++ m).length * 1 := by rw [bv_length, Nat.mul_one]
  refine ⟨hlen2, .inr ⟨w.heap.size, _, _, by rw [List.length_append], Nat.le_refl _, heap_alloc_new w.drew _, ?_, hcm, ?_, ?_⟩⟩
  · rw [List.length_append]; exact hge
  · simp only [Array.size_append, List.size_toArray, size_zeroCells, bv_length, Nat.mul_one]
    rw [show (Value.int .u8 0).cells.size = 1 from rfl]
    omega
  · rw [bv_append, Array.toList_append, Array.toList_append, List.length_append, Nat.mul_one]
    exact List.take_left' (by simp [bv_length])
end
set_option maxRecDepth 100000 in
set_option maxHeartbeats 1000000 in
theorem kLay_any (h : Hd) (w : World) (ok : h.ok) :
    Calls Tryz.prog 51 #[hdV h] w fun e w' => ∃ r, e = .returned r ∧ OB w' w.heap.size r (layH h) ∧ Below w.heap.size w w' := by
  obtain ⟨k, lv, g, e, n⟩ := h
  have hP := Lib.hid (layP_len ⟨k, lv, g, e, n⟩)
  obtain ⟨h1, h2, h3, h4, h5⟩ := ok
  simp only at h1 h2 h3 h4 h5
  have htwo := Lib.hid (two_b h1 h2)
  go_enter Tryz.func51, Tryz.ntmps51
  obtain ⟨W1, hW1⟩ : ∃ W1 : World, W1 = w.alloc (.cells #[.int .u8 (k : Int), .int .u8 (lv : Int), .int .u64 (g : Int), .int .u64 (e : Int), .int .u64 (n : Int)] 65) := ⟨_, rfl⟩
  have b1 : Below w.heap.size w W1 := by rw [hW1]; exact balloc (bself w) _
  have z1 : W1.heap.size = w.heap.size + 1 := by rw [hW1]; simp
  have x1 := Joins.run_convert_bytes_const_at (P := Tryz.prog) W1 56 5 #[.int .u8 116, .int .u8 97, .int .u8 110, .int .u8 116] 4 4 (w.heap.size + 1) z1.symm Tryz.underlying56 Tryz.underlying5
  rw [hW1] at x1
  have hA : Hid (∀ (v : Value) (w2 : World), OB w2 (((W1.alloc (.cells #[.int .u8 116, .int .u8 97, .int .u8 110, .int .u8 116] 5 (4, 5))).alloc (.cells #[.int .u8 (k : Int), .int .u8 (lv : Int)] 5)).heap.size) v (sTant ++ [UInt8.ofNat k, UInt8.ofNat lv]) →
      Below (((W1.alloc (.cells #[.int .u8 116, .int .u8 97, .int .u8 110, .int .u8 116] 5 (4, 5))).alloc (.cells #[.int .u8 (k : Int), .int .u8 (lv : Int)] 5)).heap.size) ((W1.alloc (.cells #[.int .u8 116, .int .u8 97, .int .u8 110, .int .u8 116] 5 (4, 5))).alloc (.cells #[.int .u8 (k : Int), .int .u8 (lv : Int)] 5)) w2 →
      OB w2 w.heap.size v (sTant ++ [UInt8.ofNat k, UInt8.ofNat lv]) ∧ Below w.heap.size w w2 ∧ w2.cell? ⟨w.heap.size, 2, none⟩ = some (.int .u64 (g : Int)) ∧ w2.cell? ⟨w.heap.size, 3, none⟩ = some (.int .u64 (e : Int)) ∧ w2.cell? ⟨w.heap.size, 4, none⟩ = some (.int .u64 (n : Int))) := Lib.hid (fun v w2 ho hb => by
    have hz : (((W1.alloc (.cells #[.int .u8 116, .int .u8 97, .int .u8 110, .int .u8 116] 5 (4, 5))).alloc (.cells #[.int .u8 (k : Int), .int .u8 (lv : Int)] 5)).heap.size) = w.heap.size + 3 := by simp [z1]
    have hh : w2.heap[w.heap.size]? = some (.cells #[.int .u8 (k : Int), .int .u8 (lv : Int), .int .u64 (g : Int), .int .u64 (e : Int), .int .u64 (n : Int)] 65 (0, 0)) := by
      rw [hb.block _ (by omega), heap_alloc_old _ _ (by simp [z1]; omega), heap_alloc_old _ _ (by omega), hW1]
      exact heap_alloc_new w _
    exact ⟨ho.rebase (by omega), (balloc (balloc b1 _) _).trans (hb.mono (by omega)), cell_of_row w2 _ 2 _ _ _ hh, cell_of_row w2 _ 3 _ _ _ hh, cell_of_row w2 _ 4 _ _ _ hh⟩)
  have hOld : Hid (∀ j u, (bv sTant)[j]? = some u → ((W1.alloc (.cells #[.int .u8 116, .int .u8 97, .int .u8 110, .int .u8 116] 5 (4, 5))).alloc (.cells #[.int .u8 (k : Int), .int .u8 (lv : Int)] 5)).cell? ⟨w.heap.size + 1, 0 + j, none⟩ = some u) := Lib.hid (fun j u hu => by
    have hh : ((W1.alloc (.cells #[.int .u8 116, .int .u8 97, .int .u8 110, .int .u8 116] 5 (4, 5))).alloc (.cells #[.int .u8 (k : Int), .int .u8 (lv : Int)] 5)).heap[w.heap.size + 1]? = some (.cells #[.int .u8 116, .int .u8 97, .int .u8 110, .int .u8 116] 5 (4, 5)) := by
      rw [heap_alloc_old _ _ (by simp [z1]), ← z1]; exact heap_alloc_new W1 _
    rw [Joins.cell_of_block hh, Nat.zero_add]
    rw [← hu, show (#[.int .u8 116, .int .u8 97, .int .u8 110, .int .u8 116] : Array Value) = (bv sTant).toArray from rfl, List.getElem?_toArray])
  rw [hW1] at hA hOld
  clear hW1 b1 z1 W1
  go_wp2_with (at_builtin; refine wl_appF rfl (.tmp 7) (.tmp 12) rfl sTant (g := w.heap.size + 1) (n := 4) rfl rfl hOld.out _ _ [UInt8.ofNat k, UInt8.ofNat lv] rfl (SB.litV _ _ _ htwo.out (by simp) rfl (Nat.lt_succ_self _) (by simp [maxLen])) (by simp) (by simp [sTant]) ?_; intro v2 w2 hown2 hb2; obtain ⟨ho2, hb2', c2, c3, c4⟩ := hA.out v2 w2 hown2 hb2; clear hown2 hb2)
  clear x1 hA hOld htwo c2 c3 c4
  have HL : Hid (∀ (W : World) (v : Value) (l : List UInt8) (x : Nat), OB W w.heap.size v l → w.heap.size ≤ W.heap.size → l.length ≤ 30 → x < 18446744073709551616 → Calls Tryz.prog 60 #[v, .int .u64 (x : Int), .int .i64 8] W fun e w' => ∃ r, e = .returned r ∧ OB w' w.heap.size r (l ++ fix x 8) ∧ Below W.heap.size W w') := Lib.hid (fun W v l x ho hz hl hx => (cFix_any v l x 8 W ho.sb (by omega) hx (by omega) (by omega)).mono (by rintro e w' ⟨r, rfl, h1, h2⟩; exact ⟨r, rfl, h1.rebase hz, h2⟩))
  go_loopw [3, 5, 21] (fun v x i wr => ∃ j : Nat, i = .int .i64 j ∧ j ≤ 3 ∧ OB wr w.heap.size v (layP ⟨k, lv, g, e, n⟩ j) ∧ Below w.heap.size w wr) (fun _ _ i _ => 3 - (intOf i).toNat)
  case atStart => exact ⟨0, rfl, by omega, ho2, hb2'⟩
  case round =>
    obtain ⟨j, rfl, hj, hown, hbr⟩ := hrel
    have hsz := hbr.size
    have hj' : j = 0 ∨ j = 1 ∨ j = 2 ∨ j = 3 := by omega
    rcases hj' with rfl | rfl | rfl | rfl
    · go_wp2_with (first | (refine wl_idx3 (o := ⟨some 23, _, _, _, _, _⟩) rfl (.tmp 20) (.tmp 21) rfl g e n 0 (by omega) rfl rfl ?_; simp only [if_true, if_false, Nat.reduceEqDiff]) | (go_at_call 60; refine (HL.out _ _ _ g hown hsz (hP.out _) h3).mono ?_; rintro _ w3 ⟨r, rfl, ho3, hb3⟩))
      go_roundw
      case rel => exact ⟨1, rfl, by omega, ho3, hbr.trans (hb3.mono hsz)⟩
      case measure => simp [intOf]
    · go_wp2_with (first | (refine wl_idx3 (o := ⟨some 23, _, _, _, _, _⟩) rfl (.tmp 20) (.tmp 21) rfl g e n 1 (by omega) rfl rfl ?_; simp only [if_true, if_false, Nat.one_ne_zero]) | (go_at_call 60; refine (HL.out _ _ _ e hown hsz (hP.out _) h4).mono ?_; rintro _ w3 ⟨r, rfl, ho3, hb3⟩))
      go_roundw
      case rel => exact ⟨2, rfl, by omega, ho3, hbr.trans (hb3.mono hsz)⟩
      case measure => simp [intOf]
    · go_wp2_with (first | (refine wl_idx3 (o := ⟨some 23, _, _, _, _, _⟩) rfl (.tmp 20) (.tmp 21) rfl g e n 2 (by omega) rfl rfl ?_; simp only [if_false, Nat.reduceEqDiff]) | (go_at_call 60; refine (HL.out _ _ _ n hown hsz (hP.out _) h5).mono ?_; rintro _ w3 ⟨r, rfl, ho3, hb3⟩))
      go_roundw
      case rel => exact ⟨3, rfl, by omega, ho3, hbr.trans (hb3.mono hsz)⟩
      case measure => simp [intOf]
    · go_wp2
      go_ret
      exact ⟨_, rfl, hown, hbr⟩
end Go.Proofs.YtchjknbideoieaaGreatDoor
