/-
  What is proved here: how an argument that is a slice of numbers, or of texts, is opened. No condition.
-/
import Derived.Test.YtaefhnmdombadaaArgs
import Derived.Test.YtaefhnmdombadaaCodecBackW
namespace Go.Proofs.Ytaefhnmdombadaa
open Go.ChangeShapes Go.WideShapes Go.ChangeAt Go.RowKit Go.Deep
section
variable {H : Type} {enc : TypeId × Value → H} {W : World} {base b0 : Nat} {spare : Nat → Bool} {held : Bool} {v : Value} {d : DataW H} {ps : List MemPlace}
theorem arg_u64s (hval : Value.okWide Try.prog W .any b0 46 v) (hd : DataW.Trod enc Try.prog W base spare held 46 v d ps) :
    ∃ l : List UInt64, Sl W W.heap.size 1 v l.length (l.flatMap u64C) ∧ (∀ o ∈ l, True) ∧ (l.length = 0 ∨ ∃ elems rest, d = .slice elems rest ∧ elems.length = l.length) :=
  arg_sl u64C 1 (by omega) (fun _ => rfl) (fun _ => True) Try.underlying46 (by kernel_rfl) (fun fuel cs x h => by
    obtain ⟨n, rfl, _, hw⟩ := DataW.trod_int Try.underlying23 h
    obtain ⟨b, rfl⟩ := u64_of n hw
    exact ⟨b, rfl, trivial⟩) hval hd
theorem arg_strs (hval : Value.okWide Try.prog W .any b0 47 v) (hd : DataW.Trod enc Try.prog W base spare held 47 v d ps) :
    ∃ l : List ByteArray, Sl W W.heap.size 1 v l.length (l.flatMap strC) ∧ (∀ o ∈ l, True) ∧ (l.length = 0 ∨ ∃ elems rest, d = .slice elems rest ∧ elems.length = l.length) :=
  arg_sl strC 1 (by omega) (fun _ => rfl) (fun _ => True) Try.underlying47 (by kernel_rfl) (fun fuel cs x h => by
    obtain ⟨s, rfl, _, _⟩ := DataW.trod_string Try.underlying9 h
    exact ⟨s, rfl, trivial⟩) hval hd
end
end Go.Proofs.Ytaefhnmdombadaa
