/-
  What is proved here: how an argument that is an entry, or a slice of entries, is opened; the bounds on an entry's texts, and on a text. No condition.
-/
import Derived.Test.YtoccmedadiangaaFields
import Derived.Test.YtoccmedadiangaaArgs
import Derived.Test.YtoccmedadiangaaEnt
namespace Go.Proofs.Ytoccmedadiangaa
open Go.ChangeShapes Go.WideShapes Go.ChangeAt Go.RowKit Go.Deep
theorem reach_eq : reachBytes = 140737488351232 := rfl
theorem oneEnt : ∃ fs, Try.prog.underlying 40 = some (.struct fs) ∧ oneCellFields Try.prog fs = true ∧ fs.size = 4 ∧ (fs.toList.map (·.type)) = [9, 38, 5, 9] := ⟨_, Try.underlying40, by kernel_rfl, by kernel_rfl, by kernel_rfl⟩
theorem cellsEnt : Try.prog.cellsOf 40 = 4 := by kernel_rfl
section
variable {H : Type} {enc : TypeId × Value → H} {W : World} {base b0 : Nat} {spare : Nat → Bool} {held : Bool} {v : Value} {d : DataW H} {ps : List MemPlace}
/-- the cells and the parts of a struct of one-cell fields -/
theorem trod_parts {P : Program} {t : TypeId} {fs : Array Field} {fuel : Nat} {cs : List Value} {x : DataW H × List MemPlace} (ht : P.underlying t = some (.struct fs)) (hone : oneCellFields P fs = true) (hC : P.cellsOf t = fs.size)
    (h : DataW.trod enc P W base spare held fuel t cs = some x) :
    cs.length = fs.size ∧ ∃ xs : List (DataW H × List MemPlace), x.1 = .agg (xs.map (·.1)) ∧ xs.length = fs.size ∧ ∀ (j : Nat) (ty : TypeId), (fs.toList.map (·.type))[j]? = some ty → ∃ (u : Value) (n : Nat) (y : DataW H × List MemPlace), cs[j]? = some u ∧ DataW.trod enc P W base spare held n ty [u] = some y ∧ xs[j]? = some y := by
  obtain ⟨xs, n, _, hx, hlen, hxl, hf⟩ := DataW.trod_struct ht h
  rw [hC] at hlen
  refine ⟨hlen, xs, by rw [hx], hxl, fun j ty hj => ?_⟩
  rw [List.getElem?_map, Array.getElem?_toList] at hj
  obtain ⟨f, hfj, rfl⟩ := Option.map_eq_some_iff.1 hj
  obtain ⟨ho, hk⟩ := hone_of hone j f hfj
  have hjl : j < fs.size := (Array.getElem?_eq_some_iff.1 hfj).1
  have h1 := hf j f hfj
  rw [ho, hk] at h1
  have hone' : (cs.drop j).take 1 = [cs[j]'(by omega)] := by
    rw [List.drop_eq_getElem_cons (by omega)]
    rfl
  rw [hone'] at h1
  have hys : xs[j]? = some (xs[j]'(by omega)) := List.getElem?_eq_getElem (by omega)
  exact ⟨_, n, _, List.getElem?_eq_getElem (by omega), h1.trans hys, hys⟩
theorem trod_ent {fuel : Nat} {cs : List Value} {x : DataW H × List MemPlace} (h : DataW.trod enc Try.prog W base spare held fuel 40 cs = some x) :
    ∃ o : Ent, cs = entC o ∧ EntOk o ∧ ∃ p1 p2, x.1 = .agg [.lit (.string o.user.data.toList), p1, p2, .lit (.string o.value.data.toList)] := by
  obtain ⟨fs, hu, hone, hsz, hty⟩ := oneEnt
  obtain ⟨hl, xs, hx, hxl, hf⟩ := trod_parts hu hone (cellsEnt.trans hsz.symm) h
  rw [hty] at hf
  obtain ⟨u0, n0, y0, e0, t0, g0⟩ := hf 0 _ rfl
  obtain ⟨u1, n1, y1, e1, t1, g1⟩ := hf 1 _ rfl
  obtain ⟨u2, n2, y2, e2, t2, g2⟩ := hf 2 _ rfl
  obtain ⟨u3, n3, y3, e3, t3, g3⟩ := hf 3 _ rfl
  obtain ⟨s, hs, hsx, ls⟩ := DataW.trod_string Try.underlying9 t0
  obtain ⟨q, hq, _, wq⟩ := DataW.trod_int Try.underlying38 t1
  obtain ⟨k, hk, _, wk⟩ := DataW.trod_int Try.underlying5 t2
  obtain ⟨z, hz, hzx, lz⟩ := DataW.trod_string Try.underlying9 t3
  obtain ⟨kb, rfl⟩ := u8_of k wk
  obtain ⟨qb, rfl⟩ := u64_of q wq
  simp only [List.cons.injEq, and_true] at hk hs hz hq
  subst hk; subst hs; subst hz; subst hq
  unfold maxLen at ls lz
  refine ⟨⟨s, qb, kb, z⟩, ?_, ⟨by simp only; omega, by simp only; omega⟩, y1.1, y2.1, ?_⟩
  · rw [hsz] at hl
    match cs, hl with
    | [c0, c1, c2, c3], _ =>
      simp only [List.getElem?_cons_zero, List.getElem?_cons_succ, Option.some.injEq] at e0 e1 e2 e3
      rw [e0, e1, e2, e3]
      rfl
  · rw [hx]
    rw [hsz] at hxl
    match xs, hxl with
    | [c0, c1, c2, c3], _ =>
      simp only [List.getElem?_cons_zero, List.getElem?_cons_succ, Option.some.injEq] at g0 g1 g2 g3
      rw [g0, g1, g2, g3, hsx, hzx]
      rfl
/-- an entry, as an argument -/
theorem arg_ent (hval : Value.okWide Try.prog W .any b0 40 v) (hd : DataW.Trod enc Try.prog W base spare held 40 v d ps) :
    ∃ o : Ent, v = entV o ∧ EntOk o ∧ ∃ p1 p2, d = .agg [.lit (.string o.user.data.toList), p1, p2, .lit (.string o.value.data.toList)] := by
  obtain ⟨fs, hu, hone, hsz, hty⟩ := oneEnt
  obtain ⟨cs, rfl, hcs⟩ := okWide_struct hu hval
  obtain ⟨fuel, hfu⟩ := hd
  obtain ⟨o, ho, hok, p1, p2, hp⟩ := trod_ent hfu
  refine ⟨o, ?_, hok, p1, p2, hp⟩
  have hl : cs.toList = entC o := by simpa [Value.cells] using ho
  have : cs = (entC o).toArray := by rw [← hl]
  rw [this]
  rfl
theorem sized_ent {ts : List TypeId} {ds : List (DataW H)} (hsz : (DataW.weightsEach Try.prog ts ds).all (· ≤ reachBytes) = true) {j : Nat} (ht : ts[j]? = some 40) {o : Ent} {p1 p2 : DataW H} (hd : ds[j]? = some (.agg [.lit (.string o.user.data.toList), p1, p2, .lit (.string o.value.data.toList)])) :
    o.user.size ≤ 140737488351232 ∧ o.value.size ≤ 140737488351232 := by
  obtain ⟨fs, hu, hone, hs, hty⟩ := oneEnt
  have h0 := List.all_eq_true.1 hsz _ (DataW.weights_mem_each ht hd o.user.data.toList.length (by simp [DataW.weights, hu, hty, DataW.weightsEach]))
  have h1 := List.all_eq_true.1 hsz _ (DataW.weights_mem_each ht hd o.value.data.toList.length (by simp [DataW.weights, hu, hty, DataW.weightsEach]))
  rw [decide_eq_true_eq, reach_eq, toList_size] at h0 h1
  exact ⟨h0, h1⟩
theorem sized_text {P : Program} {ts : List TypeId} {ds : List (DataW H)} (hsz : (DataW.weightsEach P ts ds).all (· ≤ reachBytes) = true) {j : Nat} {t : TypeId} (ht : ts[j]? = some t) {s : ByteArray} (hd : ds[j]? = some (.lit (.string s.data.toList))) : s.size ≤ 140737488351232 := by
  have h := sized_string hsz ht hd
  rw [toList_size, reach_eq] at h
  exact h
/-- a slice of entries, as an argument -/
theorem arg_ents (hval : Value.okWide Try.prog W .any b0 22 v) (hd : DataW.Trod enc Try.prog W base spare held 22 v d ps) :
    ∃ l : List Ent, SE W W.heap.size v l ∧ (∀ o ∈ l, EntOk o) ∧ (l.length = 0 ∨ ∃ elems rest, d = .slice elems rest ∧ elems.length = l.length) :=
  arg_sl entC 4 (by omega) entC_length EntOk Try.underlying22 cellsEnt (fun _ _ _ h => (trod_ent h).imp fun _ h => ⟨h.1, h.2.1⟩) hval hd
end
end Go.Proofs.Ytoccmedadiangaa
