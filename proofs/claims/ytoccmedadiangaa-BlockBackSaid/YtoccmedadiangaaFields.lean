/-
  What is proved here: how the cells of a struct of one-cell fields are opened, field by field. No condition.
-/
import Derived.Test.YtoccmedadiangaaLawRow
namespace Go.Proofs.Ytoccmedadiangaa
open Go.ChangeShapes Go.WideShapes Go.ChangeAt Go.RowKit Go.Deep
section
variable {H : Type} {enc : TypeId × Value → H} {W : World} {base b0 : Nat} {spare : Nat → Bool} {held : Bool} {v : Value} {d : DataW H} {ps : List MemPlace}
/-- the cells of a struct of one-cell fields, field by field -/
theorem trod_fields {P : Program} {t : TypeId} {fs : Array Field} {fuel : Nat} {cs : List Value} {x : DataW H × List MemPlace} (ht : P.underlying t = some (.struct fs)) (hone : oneCellFields P fs = true) (hC : P.cellsOf t = fs.size)
    (h : DataW.trod enc P W base spare held fuel t cs = some x) :
    cs.length = fs.size ∧ ∀ (j : Nat) (ty : TypeId), (fs.toList.map (·.type))[j]? = some ty → ∃ (u : Value) (n : Nat) (y : DataW H × List MemPlace), cs[j]? = some u ∧ DataW.trod enc P W base spare held n ty [u] = some y := by
  obtain ⟨xs, n, _, _, hlen, hxl, hf⟩ := DataW.trod_struct ht h
  rw [hC] at hlen
  refine ⟨hlen, fun j ty hj => ?_⟩
  rw [List.getElem?_map, Array.getElem?_toList] at hj
  obtain ⟨f, hfj, rfl⟩ := Option.map_eq_some_iff.1 hj
  obtain ⟨ho, hk⟩ := hone_of hone j f hfj
  have hjl : j < fs.size := (Array.getElem?_eq_some_iff.1 hfj).1
  have h1 := hf j f hfj
  rw [ho, hk] at h1
  have hone' : (cs.drop j).take 1 = [cs[j]'(by omega)] := by
    rw [List.drop_eq_getElem_cons (by omega)]
    rfl
  rw [hone'] at h1
  have hys : xs[j]? = some (xs[j]'(by omega)) := List.getElem?_eq_getElem (by omega)
  exact ⟨_, n, _, List.getElem?_eq_getElem (by omega), h1.trans hys⟩
end
end Go.Proofs.Ytoccmedadiangaa
