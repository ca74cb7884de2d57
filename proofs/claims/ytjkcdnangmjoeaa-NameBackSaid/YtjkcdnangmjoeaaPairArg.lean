/-
  What is proved here: how an argument that is an array of two bytes is opened, at this seat's numbers. No condition.
-/
import Derived.Test.YtjkcdnangmjoeaaArgs
import Derived.OpenShut
namespace Go.Proofs.Ytjkcdnangmjoeaa
open Go.ChangeShapes Go.WideShapes Go.ChangeAt Go.RowKit Go.Deep
section
variable {H : Type} {enc : TypeId × Value → H} {W : World} {base b0 : Nat} {spare : Nat → Bool} {held : Bool} {v : Value} {d : DataW H} {ps : List MemPlace}
theorem arg_pair8 (hval : Value.okWide Try.prog W .any b0 29 v) (hd : DataW.Trod enc Try.prog W base spare held 29 v d ps) : ∃ a b : UInt8, v = .agg #[.int .u8 (a.toNat : Int), .int .u8 (b.toNat : Int)] := by
  have ht := Try.underlying29
  simp only [Value.okWide, ht] at hval
  obtain ⟨cs, rfl, _, _⟩ := hval
  obtain ⟨fuel, hfu⟩ := hd
  obtain ⟨xs, m, rfl, _, hlen, hn, hel⟩ := DataW.trod_array ht hfu
  have hc1 : Try.prog.cellsOf 5 = 1 := by kernel_rfl
  have hc2 : Try.prog.cellsOf 29 = 2 := by kernel_rfl
  rw [hc2] at hlen
  have key : ∀ i, i < 2 → ∃ b : UInt8, (((Value.agg cs).cells.toList.drop i).take 1) = [.int .u8 (b.toNat : Int)] := fun i hi => by
    have h1 := hel i hi
    rw [hc1, Nat.mul_one, List.getElem?_eq_getElem (by omega)] at h1
    obtain ⟨z, hcz, _, hw⟩ := DataW.trod_int Try.underlying5 h1
    obtain ⟨b, rfl⟩ := u8_of z hw
    exact ⟨b, hcz⟩
  obtain ⟨a, ha⟩ := key 0 (by omega)
  obtain ⟨b, hb⟩ := key 1 (by omega)
  have hcs : (Value.agg cs).cells.toList = cs.toList := by simp [Value.cells]
  rw [hcs] at ha hb hlen
  refine ⟨a, b, ?_⟩
  have h2 : cs.toList = [.int .u8 (a.toNat : Int), .int .u8 (b.toNat : Int)] := by
    match h : cs.toList, hlen with
    | [x, y], _ =>
      rw [h] at ha hb
      simp at ha hb
      rw [ha, hb]
  have : cs = ([.int .u8 (a.toNat : Int), .int .u8 (b.toNat : Int)] : List Value).toArray := by rw [← h2]
  rw [this]
end
end Go.Proofs.Ytjkcdnangmjoeaa
