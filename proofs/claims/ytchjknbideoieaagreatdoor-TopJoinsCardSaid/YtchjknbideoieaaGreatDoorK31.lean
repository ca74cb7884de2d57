/- What is proved here: what the closure of Seek, sort.Search by that closure and the reference's First come to, at this seat's numbers. Conditions: the lists' lengths. -/
import Derived.Test.YtchjknbideoieaaGreatDoorK03
import Derived.Test.YtchjknbideoieaaGreatDoorK27
import Derived.Test.YtchjknbideoieaaGreatDoorK21
namespace Go.Proofs.YtchjknbideoieaaGreatDoor
set_option maxRecDepth 100000
set_option maxHeartbeats 8000000
open Go.RowKit
@[go_sem] theorem binOp_string_gtr_own (t:TypeId) (a b:ByteArray):binOp .gtr t (.string a) (.string b)=pure (.bool !(Op.bytesLess a.toList b.toList||a.toList==b.toList)):=by simp[binOp,Op.stringOp]
theorem find_at (p:Ent→Bool):∀(l:List Ent) (h:Nat),h≤l.length→(∀t,t<h→p (l.getD t ent0)=false)→(h<l.length→p (l.getD h ent0)=true)→l.find? p=l[h]?
 | [],h,hh,_,_=>by
  have:h=0:=by simpa using hh
  subst this
  rfl
 | a::l,0,_,_,h2=>by
  have:=h2 (by simp)
  rw[List.getD_cons_zero] at this
  rw[List.find?_cons,this]
  rfl
 | a::l,h+1,hh,h1,h2=>by
  have h0:=h1 0 (by omega)
  rw[List.getD_cons_zero] at h0
  rw[List.find?_cons,h0,List.getElem?_cons_succ]
  refine find_at p l h (by simpa using hh) (fun t ht=>?_) (fun hl=>?_)
  ·have:=h1 (t+1) (by omega)
   rwa [List.getD_cons_succ] at this
  ·have:=h2 (by simpa using hl)
   rwa [List.getD_cons_succ] at this
abbrev keyQ (user:ByteArray) (seq:UInt64):Ent:=⟨user,seq,0,⟨#[]⟩⟩
end Go.Proofs.YtchjknbideoieaaGreatDoor
