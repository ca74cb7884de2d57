/- What is proved here: how an argument that is a slice of numbers is opened. No condition. -/
import Derived.Test.YtchjknbideoieaaGreatDoorK04
import Derived.Test.YtchjknbideoieaaGreatDoorK33
namespace Go.Proofs.YtchjknbideoieaaGreatDoor
set_option maxRecDepth 100000
set_option maxHeartbeats 8000000
open Go.ChangeShapes Go.WideShapes Go.ChangeAt Go.RowKit Go.Deep
section
variable {H:Type} {enc:TypeId × Value→H} {W:World} {base b0:Nat} {spare:Nat→Bool} {held:Bool} {v:Value} {d:DataW H} {ps:List MemPlace}
theorem arg_nums (hval:Value.okWide Tryz.prog W .any b0 58 v) (hd:DataW.Trod enc Tryz.prog W base spare held 58 v d ps) :
  ∃l:List UInt64,Sl W W.heap.size 1 v l.length (l.flatMap u64C)∧(∀o∈l,True)∧(l.length=0∨∃elems rest,d=.slice elems rest∧elems.length=l.length) :=
 arg_sl u64C 1 (by omega) (fun _=>rfl) (fun _=>True) Tryz.underlying58 (by kernel_rfl) (fun fuel cs x h=>by
  obtain⟨n,rfl,_,hw⟩:=DataW.trod_int Tryz.underlying23 h
  obtain⟨b,rfl⟩:=u64_of n hw
  exact⟨b,rfl,trivial⟩) hval hd
end
end Go.Proofs.YtchjknbideoieaaGreatDoor
