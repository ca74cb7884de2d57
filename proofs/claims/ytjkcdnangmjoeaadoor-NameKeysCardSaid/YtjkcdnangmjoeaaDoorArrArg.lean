/-
  What is proved here: how an argument that is an array of small numbers is opened, at this seat's numbers. No condition.
-/
import Derived.Test.YtjkcdnangmjoeaaDoorArgs
import Derived.Test.YtjkcdnangmjoeaaDoorShaSumW
import Derived.OpenShut
namespace Go.Proofs.YtjkcdnangmjoeaaDoor
open Go.ChangeShapes Go.WideShapes Go.ChangeAt Go.RowKit Go.Deep
section
variable {H : Type} {enc : TypeId × Value → H} {W : World} {base b0 : Nat} {spare : Nat → Bool} {held : Bool} {v : Value} {d : DataW H} {ps : List MemPlace}
theorem cells_one {α : Type} (f : α → Value) (cs : List Value) (n : Nat) (hn : cs.length = n) (h : ∀ i, i < n → ∃ a, (cs.drop i).take 1 = [f a]) : ∃ l : List α, l.length = n ∧ cs = l.map f := by
  obtain ⟨l, hl, hp⟩ := exists_list (p := fun i a => (cs.drop i).take 1 = [f a]) n h
  refine ⟨l, hl, List.ext_getElem? (fun i => ?_)⟩
  by_cases hi : i < n
  · have h1 := hp i (by omega)
    have h2 := congrArg (·[0]?) h1
    simp only [List.getElem?_take, List.getElem?_drop, Nat.add_zero] at h2
    rw [List.getElem?_map, List.getElem?_eq_getElem (show i < l.length by omega)]
    simpa using h2
  · rw [List.getElem?_eq_none (by omega), List.getElem?_eq_none (by rw [List.length_map]; omega)]
theorem okWide_array {t e : TypeId} {n : Nat} (ht : Tryd.prog.underlying t = some (.array n e)) (h : Value.okWide Tryd.prog W .any b0 t v) : ∃ cs, v = .agg cs ∧ cs.size = Tryd.prog.cellsOf t := by
  simp only [Value.okWide, ht] at h
  obtain ⟨cs, h1, h2, _⟩ := h
  exact ⟨cs, h1, h2⟩
/-- cells of an array of bytes -/
theorem trod_bytesA {t : TypeId} {n : Nat} (ht : Tryd.prog.underlying t = some (.array n 5)) (hc : Tryd.prog.cellsOf t = n) {fuel : Nat} {cs : List Value} {x : DataW H × List MemPlace} (h : DataW.trod enc Tryd.prog W base spare held fuel t cs = some x) : ∃ l : List UInt8, l.length = n ∧ cs = bv l := by
  obtain ⟨xs, m, rfl, _, hlen, hn, hel⟩ := DataW.trod_array ht h
  have hc1 : Tryd.prog.cellsOf 5 = 1 := by kernel_rfl
  refine cells_one u8v cs n (by rw [hlen, hc]) (fun i hi => ?_)
  have h1 := hel i hi
  rw [hc1, Nat.mul_one, List.getElem?_eq_getElem (by omega)] at h1
  obtain ⟨z, hcz, _, hw⟩ := DataW.trod_int Tryd.underlying5 h1
  obtain ⟨b, rfl⟩ := u8_of z hw
  exact ⟨b, hcz⟩
/-- a digest, as an argument -/
theorem arg_dig (hval : Value.okWide Tryd.prog W .any b0 23 v) (hd : DataW.Trod enc Tryd.prog W base spare held 23 v d ps) : ∃ l : List UInt8, v = .agg (dgA l) ∧ l.length = 32 := by
  obtain ⟨cs, rfl, _⟩ := okWide_array Tryd.underlying23 hval
  obtain ⟨fuel, hfu⟩ := hd
  obtain ⟨l, hl, hcs⟩ := trod_bytesA Tryd.underlying23 (by kernel_rfl) hfu
  refine ⟨l, ?_, hl⟩
  have h : cs.toList = bv l := by simpa [Value.cells] using hcs
  show Value.agg cs = .agg (bv l).toArray
  rw [← h]
end
end Go.Proofs.YtjkcdnangmjoeaaDoor
