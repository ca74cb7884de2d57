/- What is proved here: table's deferred function where nothing panics: it does nothing, at this seat's numbers. No condition. -/
import Derived.Recover
import Derived.Test.YtchjknbideoieaaGreatDoorK06
namespace Go.Proofs.YtchjknbideoieaaGreatDoor
set_option maxRecDepth 100000
set_option maxHeartbeats 8000000
open Go.RowKit Go.Proofs
theorem kCaught_idle (v:Value) (w:World):CallsD Tryz.prog 34 #[v] .returning w fun e u' w'=>e=.returned (.tuple #[])∧u'=.returning∧w'=w:=by
 refine callsD_of_wpS Tryz.func34 rfl fun c₀ cs hu=>?_
 apply wpS_seq
 apply wpS_region
 simp[wpOpsS,go_sem,recoverD,hu,Tryz.ntmps34,Exit.thenS]
 have e:(#[v]++((Array.replicate 10 undef).setIfInBounds 2 Value.nilIface).setIfInBounds 1 Value.nilIface)=#[v,undef,.nilIface,.nilIface,undef,undef,undef,undef,undef,undef,undef]:=rfl
 rw[e]
 refine wpS_of_wp ?_
 go_wp2_with fail
 cases c₀
 simp_all [bodyPostS,results,Tryz.results34]
end Go.Proofs.YtchjknbideoieaaGreatDoor
