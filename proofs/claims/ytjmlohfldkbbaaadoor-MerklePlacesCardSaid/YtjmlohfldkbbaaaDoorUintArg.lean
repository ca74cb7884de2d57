/-
  What is proved here: a number of type uint, as an argument, at this seat's numbers. No condition.
-/
import Derived.Test.YtjmlohfldkbbaaaDoorArgs
namespace Go.Proofs.YtjmlohfldkbbaaaDoor
open Go.ChangeShapes Go.WideShapes Go.ChangeAt Go.RowKit Go.Deep
section
variable {H : Type} {enc : TypeId × Value → H} {W : World} {base b0 : Nat} {spare : Nat → Bool} {held : Bool} {v : Value} {d : DataW H} {ps : List MemPlace}
theorem arg_uint (hval : Value.okWide Tryd.prog W .any b0 36 v) (hd : DataW.Trod enc Tryd.prog W base spare held 36 v d ps) : ∃ x : UInt64, v = .int .u64 (x.toNat : Int) := by
  obtain ⟨n, rfl, _, _, hw⟩ := open_int Tryd.underlying36 hval hd
  obtain ⟨x, rfl⟩ := u64_of n hw
  exact ⟨x, rfl⟩
end
end Go.Proofs.YtjmlohfldkbbaaaDoor
