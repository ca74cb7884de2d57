/- What is proved here: slices.SortStableFunc on a list of metas that stands in order turns nothing, at this seat's numbers. Conditions: the comparison says so of each two; the length. -/
import Derived.Test.YtchjknbideoieaaGreatDoorK29
import Derived.Test.YtchjknbideoieaaGreatDoorK16
import Derived.Test.YtchjknbideoieaaGreatDoorK05
import Derived.Lib.MinMax
import Derived.Shelf.Abstract
namespace Go.Proofs.YtchjknbideoieaaGreatDoor
set_option maxRecDepth 100000
set_option maxHeartbeats 8000000
open Go.RowKit Go.Great Go.Proofs
abbrev Md:={m:Mt // m.root.length=32}
def mdC (x:Md):List Value:=mtC x.1
theorem mdC_length (x:Md):(mdC x).length=40:=by simp[mdC,mtC,bv_length,x.2]
def CmpUp (l:List Md) (u:Value) (w:World):Prop:=∀i j (hij:i<j) (hj:j<l.length) (W:World),Below w.heap.size w W →
 Calls Tryz.prog 29 #[.agg (mdC l[j]).toArray,.agg (mdC (l[i]'(by omega))).toArray,u] W fun e w'=>e=.returned (.int .i64 1)∧Below W.heap.size W w'
theorem CmpUp.on {l:List Md} {u:Value} {w w':World} (h:CmpUp l u w) (hb:Below w.heap.size w w'):CmpUp l u w':=fun i j hij hj W hW=>h i j hij hj W (bstep hb hW)
theorem infoMd:(Tryz.prog.info? 55).map (·.size)=some 40:=by kernel_rfl
theorem SGr {w w':World} {b o:Nat} {xs:List Value} (h:Below w.heap.size w w') (hb:b<w.heap.size) (hr:w.rangeAt b o xs):w'.rangeAt b o xs:=fun j v hv=>(h.cell (p:=⟨b,o+j,none⟩) hb).trans (hr j v hv)
end Go.Proofs.YtchjknbideoieaaGreatDoor
