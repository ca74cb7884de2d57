/-
  What is proved here: two states that lie apart, bytes of a block, steps of a region where two operations are ready, at this seat's numbers. No condition.
-/
import Derived.Test.YthhcoljhfokacaaDoorShaStatesW
namespace Go.Proofs.YthhcoljhfokacaaDoor
open Go.RowKit

section
variable {P : Program} {ops : Array Oper} {Q : Exit → Act → World → Prop} {md : Region.Mode} {S : World → Prop}
theorem reg_two (i j : Nat) {oi oj : Oper} {r r' : List Oper} {fuel : Nat} {listed : Array Bool} {a : Act} {w : World} (hi : ops.toList.drop i = oi :: r) (hj : ops.toList.drop j = oj :: r') (hr : Region.ready md ops listed = [i, j])
    (hwi : Region.wanted oi (yielded ops a.tmps) = true) (hwj : Region.wanted oj (yielded ops a.tmps) = true)
    (h1 : ∀ K' : Act → World → Prop, Shut (∀ a w, S w → (S w → wpAnyH P md ops Q S fuel (listed.setIfInBounds i true) a w) → K' a w) → Oper.wp P oi a w K' Q)
    (h2 : ∀ K' : Act → World → Prop, Shut (∀ a w, S w → (S w → wpAnyH P md ops Q S fuel (listed.setIfInBounds j true) a w) → K' a w) → Oper.wp P oj a w K' Q) : wpAnyH P md ops Q S (fuel + 1) listed a w :=
  wpAnyH_ready hr (by simp) (AllReadyH.cons (get_of_drop hi) (fun K' hK => by rw [if_pos hwi]; exact h1 K' hK) (AllReadyH.cons (get_of_drop hj) (fun K' hK => by rw [if_pos hwj]; exact h2 K' hK) AllReadyH.nil))
end
theorem exec_loadD {o : Oper} {a : Act} {w : World} (x : Operand) (ho : o.op = .load 25 x) (g : Nat) (hx : a.eval x = .pointer (some ⟨g, 0, none⟩)) (cs : Array Value) (hg : w.heap[g]? = some (rowO cs)) (hn : cs.size = 32) :
    (execOp a.eval o).run Tryd.prog w = .ok (.value (.agg cs)) w := by
  unfold execOp
  simp only [ho, hx, Instr.loadAt, Instr.sureAddr, Sem.run_bind, Sem.run_pure, Result.andThen_ok, run_loadVar_row w g 25 25 cs (0, 0) _ hg Tryd.underlying25 rfl (by rw [hn]; kernel_rfl)]
theorem LL.on {w w' : World} {v : Value} {ls : List (List UInt8)} (h : LL w w.heap.size v ls) (hb : Below w.heap.size w w') : LL w' w'.heap.size v ls := by
  obtain ⟨vs, h1, h2, h3⟩ := h
  exact ⟨vs, (h1.below hb).more hb.size, h2, fun i u l hu hl => (h3 i u l hu hl).on hb⟩
theorem StAt.base {w : World} {base base' P : Nat} {bs : List UInt8} (h : StAt w base P bs) (hb : base' ≤ base) : StAt w base' P bs := by
  obtain ⟨pv, h1, h2, h3, h4⟩ := h
  exact ⟨pv, h1, h2.rebase hb, h3, by omega⟩
theorem rowP_below {w w' : World} {P : Nat} (hb : Below w.heap.size w w') (h : P < w.heap.size) : rowP w' P = rowP w P := by
  unfold rowP
  rw [hb.cell (p := ⟨P, 8, none⟩) h]
theorem StAt.off {w w' : World} {base P Q : Nat} {bs : List UInt8} (h : StAt w base Q bs) (hoff : Off w w' P) (h1 : Q ≠ P) (h2 : rowP w P ≠ some Q) (h3 : rowP w Q ≠ some P) (h4 : ∀ k, rowP w P = some k → rowP w Q ≠ some k) : StAt w' base Q bs ∧ rowP w' Q = rowP w Q := by
  have hlt := h.lt
  obtain ⟨pv, hP, ho, hne, hb⟩ := h
  have hP2 : w'.heap[Q]? = some (stObj (wordsOf bs) pv (bs.length : Int)) := (hoff Q hlt h1 h2).trans hP
  exact ⟨⟨pv, hP2, ho.off hoff (fun k hk => ⟨fun e => h3 (by rw [rowP_of hP, hk, e]), fun e => h4 k e (by rw [rowP_of hP]; exact hk)⟩), hne, hb⟩, by rw [rowP_of hP2, rowP_of hP]⟩
/-- two states that lie apart -/
def TwoAt (w : World) (base P Q : Nat) (x y : List UInt8) : Prop :=
  StAt w base P x ∧ StAt w base Q y ∧ P ≠ Q ∧ rowP w P ≠ some Q ∧ rowP w Q ≠ some P ∧ (∀ k, rowP w P = some k → rowP w Q ≠ some k) ∧ base ≤ w.heap.size
theorem TwoAt.symm {w : World} {base P Q : Nat} {x y : List UInt8} (h : TwoAt w base P Q x y) : TwoAt w base Q P y x := by
  obtain ⟨h1, h2, h3, h4, h5, h6, h7⟩ := h
  exact ⟨h2, h1, fun e => h3 e.symm, h5, h4, fun k hk e => h6 k e hk, h7⟩
theorem TwoAt.below {w w' : World} {base P Q : Nat} {x y : List UInt8} (h : TwoAt w base P Q x y) (hb : Below w.heap.size w w') : TwoAt w' base P Q x y := by
  obtain ⟨h1, h2, h3, h4, h5, h6, h7⟩ := h
  refine ⟨h1.below hb, h2.below hb, h3, ?_, ?_, ?_, Nat.le_trans h7 hb.size⟩
  · rw [rowP_below hb h1.lt]; exact h4
  · rw [rowP_below hb h2.lt]; exact h5
  · rw [rowP_below hb h1.lt, rowP_below hb h2.lt]; exact h6
theorem TwoAt.new {w1 w2 : World} {base P Q : Nat} {x y : List UInt8} (hP : StAt w1 base P x) (hb : Below w1.heap.size w1 w2) (hQ : StAt w2 w1.heap.size Q y) (hz : base ≤ w1.heap.size) : TwoAt w2 base P Q x y := by
  have l1 := hP.lt
  have r1 := rowP_below hb l1
  have lQ : w1.heap.size ≤ Q := by obtain ⟨_, _, _, _, h⟩ := hQ; exact h
  refine ⟨hP.below hb, hQ.base hz, by omega, ?_, ?_, ?_, Nat.le_trans hz hb.size⟩
  · rw [r1]; intro e; have := (hP.row Q e).2; omega
  · intro e; have := (hQ.row P e).1; omega
  · rw [r1]; intro k hk e; have h1 := (hP.row k hk).2; have h2 := (hQ.row k e).1; omega
/-- something was written to the first -/
theorem TwoAt.wrote {w w' : World} {base P Q : Nat} {x y x' : List UInt8} (h : TwoAt w base P Q x y) (hst : StAt w' base P x') (hoff : Off w w' P) (hrow : rowP w' P = rowP w P ∨ ∀ g, rowP w' P = some g → w.heap.size ≤ g) (hz : w.heap.size ≤ w'.heap.size) : TwoAt w' base P Q x' y := by
  obtain ⟨h1, h2, h3, h4, h5, h6, h7⟩ := h
  have hQ := h2.off hoff (fun e => h3 e.symm) h4 h5 h6
  have lQ := h2.lt
  refine ⟨hst, hQ.1, h3, ?_, by rw [hQ.2]; exact h5, ?_, by omega⟩
  · rcases hrow with e | e
    · rw [e]; exact h4
    · intro e2; have := e Q e2; omega
  · rw [hQ.2]
    rcases hrow with e | e
    · rw [e]; exact h6
    · intro k hk e2; have h8 := e k hk; have h9 := (h2.row k e2).2; omega
theorem TwoAt.grown {w w' : World} {base P Q g : Nat} {x y : List UInt8} (h : TwoAt w base P Q x y) (hg : w.grownBy w' (some g)) (g1 : g ≠ P) (g2 : g ≠ Q) (g3 : rowP w P ≠ some g) (g4 : rowP w Q ≠ some g) : TwoAt w' base P Q x y ∧ rowP w' P = rowP w P ∧ rowP w' Q = rowP w Q := by
  obtain ⟨h1, h2, h3, h4, h5, h6, h7⟩ := h
  have e1 := h1.grown hg (fun e => g1 (by injection e)) (fun k hk e => g3 (by rw [hk]; exact e.symm))
  have e2 := h2.grown hg (fun e => g2 (by injection e)) (fun k hk e => g4 (by rw [hk]; exact e.symm))
  refine ⟨⟨e1.1, e2.1, h3, by rw [e1.2]; exact h4, by rw [e2.2]; exact h5, by rw [e1.2, e2.2]; exact h6, Nat.le_trans h7 hg.size⟩, e1.2, e2.2⟩
theorem grown_self (w : World) (row : Option Nat) : w.grownBy w row := ⟨rfl, rfl, rfl, Nat.le_refl _, fun _ _ _ => rfl⟩
theorem flat2 (a b : List UInt8) : [a, b].flatten = a ++ b := by simp
/-- a block of bytes that may be written -/
def Bb (w : World) (g n : Nat) : Prop := ∀ j, j < n → (∃ q : UInt8, w.cell? ⟨g, j, none⟩ = some (.int .u8 (q.toNat : Int))) ∧ w.frozen? ⟨g, j, none⟩ = false
theorem Bb.set {w : World} {g n : Nat} (h : Bb w g n) (k : Nat) (v : UInt8) (_hk : k < n) : Bb (w.setCell ⟨g, k, none⟩ (.int .u8 (v.toNat : Int))) g n := by
  intro j hj
  obtain ⟨q, hq⟩ := (h j hj).1
  refine ⟨?_, by rw [World.frozen?_setCell]; exact (h j hj).2⟩
  by_cases e : j = k
  · subst e
    exact ⟨v, World.cell?_setCell_same' _ _ _ (by rw [hq]; rfl)⟩
  · exact ⟨q, by rw [World.cell?_setCell_other w _ _ _ (fun e2 => e (by injection e2 with _ e3; exact e3.symm)), hq]⟩
theorem Bb.own {w : World} {base g n c : Nat} {l : List UInt8} (h : OB w base (.slice (some ⟨g, 0, none⟩) n c) l) (hn : n = l.length) : Bb w g n := by
  subst hn
  obtain ⟨h1, h2⟩ := h
  rcases h2 with ⟨e, _⟩ | ⟨g', cap, cur, e1, e2, e3, e4, e5, e6, e7⟩
  · cases e
  · injection e1 with e1 _ e8
    injection e1 with e1
    injection e1 with e1
    subst e1
    intro j hj
    refine ⟨⟨l[j], ?_⟩, by simp [World.frozen?, e3]⟩
    rw [cell_of_row _ _ j _ _ _ e3]
    have h3 : (cur.toList.take (l.length * 1))[j]? = some (u8v l[j]) := by rw [e7]; exact bv_get l j hj
    rw [List.getElem?_take, if_pos (by omega)] at h3
    simpa using h3
theorem Bb.row {w : World} {D : Nat} {l : List UInt8} (h : w.heap[D]? = some (rowO (dgA l))) (hl : l.length = 32) : Bb w D 32 := fun j hj => ⟨⟨l[j], (dg_cell h (k := j) (by omega)).1⟩, (dg_cell h (k := j) (by omega)).2.1⟩
theorem Bb.same {w w' : World} {g n : Nat} (h : Bb w g n) (e : w'.heap[g]? = w.heap[g]?) : Bb w' g n := fun j hj => by
  obtain ⟨⟨q, hq⟩, hf⟩ := h j hj
  exact ⟨⟨q, (World.cell?_of_block (a := ⟨g, j, none⟩) e).trans hq⟩, (World.frozen?_of_block e).trans hf⟩
theorem OB.some {w : World} {base g : Nat} {v : Value} {l : List UInt8} (h : OB w base v l) (hg : v.ownBlock = some g) : ∃ cap, v = .slice (some ⟨g, 0, none⟩) l.length cap ∧ base ≤ g ∧ g < w.heap.size := by
  have hlt := h.lt g hg
  obtain ⟨h1, h2⟩ := h
  rcases h2 with ⟨e, _⟩ | ⟨g', cap, cur, e1, e2, e3, _⟩
  · rw [e] at hg; cases hg
  · rw [e1] at hg
    injection hg with hg
    have hg' : g' = g := hg
    subst hg'
    exact ⟨cap, e1, hlt⟩
/-- a block that is no part of two states -/
def Own (w : World) (P Q g n : Nat) : Prop := Bb w g n ∧ rowP w P ≠ some g ∧ rowP w Q ≠ some g ∧ g ≠ P ∧ g ≠ Q ∧ g < w.heap.size
theorem Own.symm {w : World} {P Q g n : Nat} (h : Own w P Q g n) : Own w Q P g n := ⟨h.1, h.2.2.1, h.2.1, h.2.2.2.2.1, h.2.2.2.1, h.2.2.2.2.2⟩
theorem Own.wrote {w w' : World} {base P Q g n : Nat} {x y : List UInt8} (h : Own w P Q g n) (hT : TwoAt w base P Q x y) (hoff : Off w w' P) (hrow : rowP w' P = rowP w P ∨ ∀ g, rowP w' P = some g → w.heap.size ≤ g) (hz : w.heap.size ≤ w'.heap.size) : Own w' P Q g n ∧ w'.heap[g]? = w.heap[g]? := by
  obtain ⟨h1, h2, h3, h4, h5, h6⟩ := h
  obtain ⟨t1, t2, t3, t4, t5, t6, t7⟩ := hT
  have hQ := t2.off hoff (fun e => t3 e.symm) t4 t5 t6
  have he := hoff g h6 h4 h2
  refine ⟨⟨h1.same he, ?_, by rw [hQ.2]; exact h3, h4, h5, by omega⟩, he⟩
  rcases hrow with e | e
  · rw [e]; exact h2
  · intro e2; have := e g e2; omega
theorem Own.below {w w' : World} {base P Q g n : Nat} {x y : List UInt8} (h : Own w P Q g n) (hT : TwoAt w base P Q x y) (hb : Below w.heap.size w w') : Own w' P Q g n := by
  obtain ⟨h1, h2, h3, h4, h5, h6⟩ := h
  exact ⟨h1.same (hb.block g h6), by rw [rowP_below hb hT.1.lt]; exact h2, by rw [rowP_below hb hT.2.1.lt]; exact h3, h4, h5, Nat.lt_of_lt_of_le h6 hb.size⟩
/-- a block that was made later -/
theorem Own.new {w w' : World} {base P Q g n : Nat} {x y : List UInt8} (hT : TwoAt w base P Q x y) (hb : Below w.heap.size w w') (hg : w.heap.size ≤ g) (hl : g < w'.heap.size) (h : Bb w' g n) : Own w' P Q g n := by
  have l1 := hT.1.lt
  have l2 := hT.2.1.lt
  refine ⟨h, ?_, ?_, by omega, by omega, hl⟩
  · rw [rowP_below hb l1]; intro e; have := (hT.1.row g e).2; omega
  · rw [rowP_below hb l2]; intro e; have := (hT.2.1.row g e).2; omega
def x255 (q : UInt8) : UInt8 := q ^^^ 255
theorem x255_fin : ∀ n : Fin 256, bits .xor .u8 (n.val : Int) 255 = ((x255 (UInt8.ofNat n.val)).toNat : Int) := by decide +kernel
theorem x255_val (q : UInt8) : bits .xor .u8 (q.toNat : Int) 255 = ((x255 q).toNat : Int) := by
  have := x255_fin ⟨q.toNat, q.toNat_lt⟩
  rw [UInt8.ofNat_toNat] at this
  exact this
end Go.Proofs.YthhcoljhfokacaaDoor
