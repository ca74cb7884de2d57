/-
  What is proved here: how an argument that is an array of small numbers is opened, at this seat's numbers. No condition.
-/
import Derived.Test.YtlkogeccmcmilaaDoorArgs
import Derived.Test.YtlkogeccmcmilaaDoorShaSumW
import Derived.OpenShut
namespace Go.Proofs.YtlkogeccmcmilaaDoor
open Go.ChangeShapes Go.WideShapes Go.ChangeAt Go.RowKit Go.Deep
section
variable {H : Type} {enc : TypeId × Value → H} {W : World} {base b0 : Nat} {spare : Nat → Bool} {held : Bool} {v : Value} {d : DataW H} {ps : List MemPlace}
theorem cells_one {α : Type} (f : α → Value) (cs : List Value) (n : Nat) (hn : cs.length = n) (h : ∀ i, i < n → ∃ a, (cs.drop i).take 1 = [f a]) : ∃ l : List α, l.length = n ∧ cs = l.map f := by
  obtain ⟨l, hl, hp⟩ := exists_list (p := fun i a => (cs.drop i).take 1 = [f a]) n h
  refine ⟨l, hl, List.ext_getElem? (fun i => ?_)⟩
  by_cases hi : i < n
  · have h1 := hp i (by omega)
    have h2 := congrArg (·[0]?) h1
    simp only [List.getElem?_take, List.getElem?_drop, Nat.add_zero] at h2
    rw [List.getElem?_map, List.getElem?_eq_getElem (show i < l.length by omega)]
    simpa using h2
  · rw [List.getElem?_eq_none (by omega), List.getElem?_eq_none (by rw [List.length_map]; omega)]
theorem okWide_array {t e : TypeId} {n : Nat} (ht : Tryd.prog.underlying t = some (.array n e)) (h : Value.okWide Tryd.prog W .any b0 t v) : ∃ cs, v = .agg cs ∧ cs.size = Tryd.prog.cellsOf t := by
  simp only [Value.okWide, ht] at h
  obtain ⟨cs, h1, h2, _⟩ := h
  exact ⟨cs, h1, h2⟩
/-- cells of an array of bytes -/
theorem trod_bytesA {t : TypeId} {n : Nat} (ht : Tryd.prog.underlying t = some (.array n 5)) (hc : Tryd.prog.cellsOf t = n) {fuel : Nat} {cs : List Value} {x : DataW H × List MemPlace} (h : DataW.trod enc Tryd.prog W base spare held fuel t cs = some x) : ∃ l : List UInt8, l.length = n ∧ cs = bv l := by
  obtain ⟨xs, m, rfl, _, hlen, hn, hel⟩ := DataW.trod_array ht h
  have hc1 : Tryd.prog.cellsOf 5 = 1 := by kernel_rfl
  refine cells_one u8v cs n (by rw [hlen, hc]) (fun i hi => ?_)
  have h1 := hel i hi
  rw [hc1, Nat.mul_one, List.getElem?_eq_getElem (by omega)] at h1
  obtain ⟨z, hcz, _, hw⟩ := DataW.trod_int Tryd.underlying5 h1
  obtain ⟨b, rfl⟩ := u8_of z hw
  exact ⟨b, hcz⟩
/-- a digest, as an argument -/
theorem arg_dig (hval : Value.okWide Tryd.prog W .any b0 33 v) (hd : DataW.Trod enc Tryd.prog W base spare held 33 v d ps) : ∃ l : List UInt8, v = .agg (dgA l) ∧ l.length = 32 := by
  obtain ⟨cs, rfl, _⟩ := okWide_array Tryd.underlying33 hval
  obtain ⟨fuel, hfu⟩ := hd
  obtain ⟨l, hl, hcs⟩ := trod_bytesA Tryd.underlying33 (by kernel_rfl) hfu
  refine ⟨l, ?_, hl⟩
  have h : cs.toList = bv l := by simpa [Value.cells] using hcs
  show Value.agg cs = .agg (bv l).toArray
  rw [← h]
/-- two numbers, as an argument -/
theorem arg_two16 (hval : Value.okWide Tryd.prog W .any b0 30 v) (hd : DataW.Trod enc Tryd.prog W base spare held 30 v d ps) : ∃ a b : UInt16, v = .agg #[.int .u16 (a.toNat : Int), .int .u16 (b.toNat : Int)] := by
  obtain ⟨cs, rfl, _⟩ := okWide_array Tryd.underlying30 hval
  obtain ⟨fuel, hfu⟩ := hd
  obtain ⟨xs, m, rfl, _, hlen, hn, hel⟩ := DataW.trod_array Tryd.underlying30 hfu
  have hc1 : Tryd.prog.cellsOf 29 = 1 := by kernel_rfl
  have hc2 : Tryd.prog.cellsOf 30 = 2 := by kernel_rfl
  obtain ⟨l, hl, hcs⟩ := cells_one (fun x : UInt16 => .int .u16 (x.toNat : Int)) _ 2 (by rw [hlen, hc2]) (fun i hi => by
    have h1 := hel i hi
    rw [hc1, Nat.mul_one, List.getElem?_eq_getElem (by omega)] at h1
    obtain ⟨z, hcz, _, hw⟩ := DataW.trod_int Tryd.underlying29 h1
    obtain ⟨b, rfl⟩ := u16_of z hw
    exact ⟨b, hcz⟩)
  match l, hl with
  | [a, b], _ =>
    refine ⟨a, b, ?_⟩
    have h : cs.toList = [.int .u16 (a.toNat : Int), .int .u16 (b.toNat : Int)] := by simpa [Value.cells] using hcs
    have : cs = ([.int .u16 (a.toNat : Int), .int .u16 (b.toNat : Int)] : List Value).toArray := by rw [← h]
    rw [this]
end
end Go.Proofs.YtlkogeccmcmilaaDoor
