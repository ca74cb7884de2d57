/- What is proved here: from the condition 'laid' to the tables of constants that the walks ask for, at this seat's numbers. No condition. -/
import Derived.Test.YtchjknbideoieaaGreatDoorK04
import Derived.Test.YtchjknbideoieaaGreatDoorK11
import Derived.Test.YtchjknbideoieaaGreatDoorTie
import Derived.LaidMore
import Derived.OpenShut
namespace Go.Proofs.YtchjknbideoieaaGreatDoor
set_option maxRecDepth 100000
set_option maxHeartbeats 8000000
open Go.ChangeShapes Go.WideShapes Go.ChangeAt Go.RowKit Go.Deep
abbrev kData:DataW Unit:=.agg (kList.map fun k=>.lit (.int .u32 (k.toNat:Int)))
theorem kList_length:kList.length=64:=rfl
theorem ktab_of {n:String} {W:World} {g:Nat} {cs:Array Value} {f:Nat} {p:List MemPlace} (hg:Tryz.prog.globalNamed n=some g) (hv:W.var? Tryz.prog n=some cs)
  (hd:DataW.trod (fun _=>()) Tryz.prog W 0 (fun _=>true) false f 235 cs.toList=some (kData,p)):KTab W g:=by
 obtain⟨xs,m,rfl,hx,hlen,hn,hel⟩:=DataW.trod_array Tryz.underlying235 hd
 have hc:Tryz.prog.cellsOf 154=1:=by kernel_rfl
 have hds:kList.map (fun k=>(DataW.lit (.int .u32 (k.toNat:Int)):DataW Unit))=xs.map (·.1):=by
  have:=congrArg Prod.fst hx
  simpa using this
 intro i hi
 have h1:=hel i hi
 rw[hc,Nat.mul_one] at h1
 obtain⟨b,hb⟩:∃b,xs[i]? = some b:=⟨_,List.getElem?_eq_getElem (by omega)⟩
 rw[hb] at h1
 obtain⟨z,hcz,hz,_⟩:=DataW.trod_int Tryz.underlying154 h1
 have h2:cs[i]? = some (.int .u32 z):=by
  have:=congrArg (·[0]?) hcz
  simpa [List.getElem?_take,List.getElem?_drop] using this
 have h3:(xs.map (·.1))[i]? = some b.1:=by simp[hb]
 rw[←hds,List.getElem?_map] at h3
 have h4:kList[i]? = some (kAt i):=by
  unfold kAt
  rw[List.getElem?_eq_getElem (by rw[kList_length];exact hi)]
  rfl
 rw[h4,hz] at h3
 simp only[Option.map_some,Option.some.injEq,DataW.lit.injEq,Lit.int.injEq,true_and] at h3
 have h5:=World.var?_cell hg hv i
 rw[h2,←h3] at h5
 exact h5
theorem k1_data:(Rows.laid_tantalus_sha_constants:DataW Unit)=kData:=by kernel_rfl
theorem g1:Tryz.prog.globalNamed "tantalus/sha.constants"=some 0:=by kernel_rfl
theorem t1:(Tryz.prog.globals[0]?).map (·.type)=some 235:=by kernel_rfl
theorem ktabs1 {W:World} (h:laidMetH Tryz.prog [("tantalus/sha.constants",Rows.laid_tantalus_sha_constants)] W):KTab W 0∧0<W.heap.size:=by
 rw[MakeChecks.laidMetH_plain _ _ _ (by kernel_rfl)] at h
 obtain⟨ps,⟨ga,ta,csa,fa,pa,qa,hga,hta,hva,hda,_,_⟩,_,_⟩:=h
 obtain rfl:=Option.some.inj (g1.symm.trans hga)
 obtain rfl:=Option.some.inj (t1.symm.trans hta)
 rw[k1_data] at hda
 have k1:=ktab_of hga hva hda
 exact⟨k1,block_lt_of_cell (k1 0 (by omega))⟩
theorem door1 (os:Os) (args:Array Value):laidMetH Tryz.prog [("tantalus/sha.constants",Rows.laid_tantalus_sha_constants)] ((World.doorLaid Tryz.prog 19 os).forCall (fun _ _=>0) ⟨#[],args,[]⟩).memory :=
 laidMetH_of_parts3 (fuel:=8) (laidMet_of_run' 8 (by kernel_rfl) (by kernel_rfl)) (by kernel_rfl) (by kernel_rfl)
end Go.Proofs.YtchjknbideoieaaGreatDoor
