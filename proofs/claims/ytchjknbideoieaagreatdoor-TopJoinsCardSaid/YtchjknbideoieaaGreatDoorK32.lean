/- What is proved here: what fits, before and the comparison of package version come to, and a copy of a nil list, at this seat's numbers. Conditions: as the state is. -/
import Derived.Test.YtchjknbideoieaaGreatDoorK30
import Derived.Test.YtchjknbideoieaaGreatDoorK31
namespace Go.Proofs.YtchjknbideoieaaGreatDoor
set_option maxRecDepth 100000
set_option maxHeartbeats 8000000
open Go.RowKit Go.Great Go.Proofs
def stC (v:Value) (N:Nat):List Value:=[.slice none 0 0,v,.slice none 0 0,.slice none 0 0,.slice none 0 0,.int .u64 0,.int .u64 (N:Int),.int .u64 0,.int .u64 0,.int .u64 0,.int .u64 0,.int .u64 0,.int .u64 0,.int .u64 0]
structure FitM (N:Nat) (m:Mt):Prop where
 lv:m.lv=1
 g:m.g=0
 n:m.n<N
 ord:ltB m.mx.toList m.mn.toList=false
 mn:m.mn.size≤1024
 mx:m.mx.size≤1024
 c1:1≤m.count
 c2:m.count≤1000000
 s1:1≤m.size
 s2:m.size≤1000000000
abbrev z5:Value:=.agg #[.int .u64 0,.int .u64 0,.int .u64 0,.int .u64 0,.int .u64 0]
abbrev s5 (v:Value):Value:=.agg #[.slice none 0 0,v,.slice none 0 0,.slice none 0 0,.slice none 0 0]
end Go.Proofs.YtchjknbideoieaaGreatDoor
