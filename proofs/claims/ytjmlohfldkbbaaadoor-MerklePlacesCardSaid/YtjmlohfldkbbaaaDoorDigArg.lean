/-
  What is proved here: how an argument that is a slice of digests is opened, at this seat's numbers. No condition.
-/
import Derived.Test.YtjmlohfldkbbaaaDoorArrArg
import Derived.Test.YtjmlohfldkbbaaaDoorDig
namespace Go.Proofs.YtjmlohfldkbbaaaDoor
open Go.ChangeShapes Go.WideShapes Go.ChangeAt Go.RowKit Go.Deep
section
variable {H : Type} {enc : TypeId × Value → H} {W : World} {base b0 : Nat} {spare : Nat → Bool} {held : Bool} {v : Value} {d : DataW H} {ps : List MemPlace}
theorem arg_digs (hval : Value.okWide Tryd.prog W .any b0 22 v) (hd : DataW.Trod enc Tryd.prog W base spare held 22 v d ps) :
    ∃ l : List Dg, SD W W.heap.size v l ∧ (l.length = 0 ∨ ∃ elems rest, d = .slice elems rest ∧ elems.length = l.length) := by
  obtain ⟨l, h1, _, h3⟩ := arg_sl (fun x : Dg => bv x.1) 32 (by omega) dbv_len (fun _ => True) Tryd.underlying22 (by kernel_rfl) (fun fuel cs x h => by
    obtain ⟨l, hl, hcs⟩ := trod_bytesA Tryd.underlying31 (by kernel_rfl) h
    exact ⟨⟨l, hl⟩, hcs, trivial⟩) hval hd
  exact ⟨l, h1, h3⟩
end
end Go.Proofs.YtjmlohfldkbbaaaDoor
