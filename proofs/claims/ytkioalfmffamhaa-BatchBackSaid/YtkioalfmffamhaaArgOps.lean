/-
  What is proved here: how an argument that is a slice of operations, or an operation, is opened. No condition.
-/
import Derived.Test.YtkioalfmffamhaaLawRow
namespace Go.Proofs.Ytkioalfmffamhaa
open Go.ChangeShapes Go.WideShapes Go.ChangeAt Go.RowKit Go.Deep

theorem oneOp : ∃ fs, Try.prog.underlying 37 = some (.struct fs) ∧ oneCellFields Try.prog fs = true ∧ fs.size = 3 ∧ (fs.toList.map (·.type)) = [5, 9, 9] := ⟨_, Try.underlying37, by kernel_rfl, by kernel_rfl, by kernel_rfl⟩
theorem cellsOp : Try.prog.cellsOf 37 = 3 := by kernel_rfl
section
variable {H : Type} {enc : TypeId × Value → H} {W : World} {base b0 : Nat} {spare : Nat → Bool} {held : Bool} {v : Value} {d : DataW H} {ps : List MemPlace}
/-- the cells of a struct of one-cell fields, field by field -/
theorem trod_fields {P : Program} {t : TypeId} {fs : Array Field} {fuel : Nat} {cs : List Value} {x : DataW H × List MemPlace} (ht : P.underlying t = some (.struct fs)) (hone : oneCellFields P fs = true) (hC : P.cellsOf t = fs.size)
    (h : DataW.trod enc P W base spare held fuel t cs = some x) :
    cs.length = fs.size ∧ ∀ (j : Nat) (ty : TypeId), (fs.toList.map (·.type))[j]? = some ty → ∃ (u : Value) (n : Nat) (y : DataW H × List MemPlace), cs[j]? = some u ∧ DataW.trod enc P W base spare held n ty [u] = some y := by
  obtain ⟨xs, n, _, _, hlen, hxl, hf⟩ := DataW.trod_struct ht h
  rw [hC] at hlen
  refine ⟨hlen, fun j ty hj => ?_⟩
  rw [List.getElem?_map, Array.getElem?_toList] at hj
  obtain ⟨f, hfj, rfl⟩ := Option.map_eq_some_iff.1 hj
  obtain ⟨ho, hk⟩ := hone_of hone j f hfj
  have hjl : j < fs.size := (Array.getElem?_eq_some_iff.1 hfj).1
  have h1 := hf j f hfj
  rw [ho, hk] at h1
  have hone' : (cs.drop j).take 1 = [cs[j]'(by omega)] := by
    rw [List.drop_eq_getElem_cons (by omega)]
    rfl
  rw [hone'] at h1
  have hys : xs[j]? = some (xs[j]'(by omega)) := List.getElem?_eq_getElem (by omega)
  exact ⟨_, n, _, List.getElem?_eq_getElem (by omega), h1.trans hys⟩
theorem trod_op {fuel : Nat} {cs : List Value} {x : DataW H × List MemPlace} (h : DataW.trod enc Try.prog W base spare held fuel 37 cs = some x) : ∃ o : Opn, cs = opC o ∧ OpOk o := by
  obtain ⟨fs, hu, hone, hsz, hty⟩ := oneOp
  obtain ⟨hl, hf⟩ := trod_fields hu hone (cellsOp.trans hsz.symm) h
  rw [hty] at hf
  obtain ⟨u0, n0, y0, e0, t0⟩ := hf 0 _ rfl
  obtain ⟨u1, n1, y1, e1, t1⟩ := hf 1 _ rfl
  obtain ⟨u2, n2, y2, e2, t2⟩ := hf 2 _ rfl
  obtain ⟨k, hk, _, wk⟩ := DataW.trod_int Try.underlying5 t0
  obtain ⟨s, hs, _, ls⟩ := DataW.trod_string Try.underlying9 t1
  obtain ⟨z, hz, _, lz⟩ := DataW.trod_string Try.underlying9 t2
  obtain ⟨kb, rfl⟩ := u8_of k wk
  simp only [List.cons.injEq, and_true] at hk hs hz
  subst hk; subst hs; subst hz
  unfold maxLen at ls lz
  refine ⟨⟨kb, s, z⟩, ?_, by omega, by omega⟩
  rw [hsz] at hl
  match cs, hl with
  | [c0, c1, c2], _ =>
    simp only [List.getElem?_cons_zero, List.getElem?_cons_succ, Option.some.injEq] at e0 e1 e2
    rw [e0, e1, e2]
    rfl
/-- a slice of operations, as an argument -/
theorem arg_ops (hval : Value.okWide Try.prog W .any b0 23 v) (hd : DataW.Trod enc Try.prog W base spare held 23 v d ps) :
    ∃ l : List Opn, SO W W.heap.size v l ∧ (∀ o ∈ l, OpOk o) ∧ (l.length = 0 ∨ ∃ elems rest, d = .slice elems rest ∧ elems.length = l.length) := by
  obtain ⟨a0, len0, cap0, rfl⟩ := okWide_slice Try.underlying23 hval
  obtain ⟨fuel, hf⟩ := hd
  rcases open_slice Try.underlying23 hf with ⟨hcs, _⟩ | ⟨a, len, cap, m, n, D, Pl, hcs, hb, hl, hm, hmm, hx, hi⟩
  · have e : Value.slice a0 len0 cap0 = .slice none 0 0 := by simpa [Value.cells] using hcs
    rw [e]
    exact ⟨[], Sl.nil_ _ _ _, (fun o ho => by simp at ho), .inl rfl⟩
  · have e : Value.slice a0 len0 cap0 = .slice (some a) len cap := by simpa [Value.cells] using hcs
    rw [e]
    have hlm : len ≤ m := by rw [hmm]; split <;> omega
    rw [cellsOp] at hi
    obtain ⟨l, hll, hp⟩ := exists_list (p := fun i (o : Opn) => OpOk o ∧ ∀ j u, (opC o)[j]? = some u → W.cell? ((a.add (i * 3)).add j) = some u) len (fun i him => by
      obtain ⟨cs', hc, ht⟩ := hi i (by omega)
      obtain ⟨o, rfl, hok⟩ := trod_op ht
      obtain ⟨_, hcl, hat⟩ := World.cells?_some hc
      refine ⟨o, hok, fun j u hu => ?_⟩
      have hj := (List.getElem?_eq_some_iff.1 hu).1
      rw [hat j (by rw [← hcl]; exact hj)]
      exact hu)
    refine ⟨l, ⟨some a, cap, by rw [hll], by omega, hm, ?_⟩, ?_, .inr ⟨_, _, (congrArg Prod.fst hx), by simp [hll]⟩⟩
    · have hspot : 0 < l.length → a.spot = none ∧ a.block < W.heap.size := fun h0 => by
        have := (hp 0 h0).2 0 _ rfl
        rw [Nat.zero_mul] at this
        have e2 : (a.add 0).add 0 = a := by simp [Addr.add]
        rw [e2] at this
        exact addr_of_cell this
      refine Rd.of_elems opC 3 opC_length hspot (fun k hk j u hu => ?_)
      have h1 := (hp k hk).2 j u hu
      have hs := (hspot (by omega)).1
      rw [add_spot hs, add_lit0, Nat.add_assoc] at h1
      exact h1
    · intro o ho
      obtain ⟨k, hk, rfl⟩ := List.getElem_of_mem ho
      exact (hp k hk).1
end
end Go.Proofs.Ytkioalfmffamhaa
