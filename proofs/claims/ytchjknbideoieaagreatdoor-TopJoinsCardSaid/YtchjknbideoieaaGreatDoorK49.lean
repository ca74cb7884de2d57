/- What is proved here: what Get of package table comes to on what Build of it made, at this seat's numbers. Conditions: few entries that may be; the table of constants. what All of package table comes to on what Build of it made, at this seat's numbers. Conditions: few entries that may be; the table of constants. -/
import Derived.Test.YtchjknbideoieaaGreatDoorK47
import Derived.Test.YtchjknbideoieaaGreatDoorK48
import Derived.Test.YtchjknbideoieaaGreatDoorK08
import Derived.Test.YtchjknbideoieaaGreatDoorK21
import Derived.Test.YtchjknbideoieaaGreatDoorK05
namespace Go.Proofs.YtchjknbideoieaaGreatDoor
set_option maxRecDepth 100000
set_option maxHeartbeats 8000000
open Go.RowKit Go.Great Go.Proofs
structure MtOf (m:Mt) (h:Hd) (K ad:List UInt8) (ev:Nat) (blk:Int) (l:List Ent) (filt:List UInt8):Prop where
 lv:m.lv=h.lv
 g:m.g=h.g
 e:m.e=h.e
 n:m.n=h.n
 size:m.size=(tabB K ad ev blk l filt).length
 root:m.root=(rootR jnD zD (tabL K ad ev blk l filt)).1
theorem tabPs_len (K ad:List UInt8) (ev:Nat) (blk:Int) (l:List Ent):(tabPs K ad ev blk l).length=(rowsF blk l.length l).length:=prts_length _ _ _
theorem tabPs_get (K ad:List UInt8) (ev:Nat) (blk:Int) (l:List Ent) (i:Nat) (h:i<(rowsF blk l.length l).length):(tabPs K ad ev blk l)[i]'(by rw[tabPs_len];exact h)=⟨(rowsF blk l.length l)[i].1,(rowsF blk l.length l)[i].2,sealP K ad (2+i) (blockB ev (rowsF blk l.length l)[i].2)⟩:=prts_get _ _ _ i h
theorem tab_le (K ad:List UInt8) (had:ad.length=30) (ev:Nat) (blk:Int) (l:List Ent) (filt:List UInt8) (hL:rightL l=true) (hlen:l.length≤1000) (htx:textE l≤10000) (hf:filt.length≤1048600):(tabB K ad ev blk l filt).length≤3000000:=by
 have h1:=bodyB_le (sealP K ad) ev (sealP_length K ad) (rowsF blk l.length l)
 rw[rowsF_flat] at h1
 have h2:=idxB_le leafB leafB_length (tabPs K ad ev blk l) (fun p hp=>by
  obtain⟨r,hr,e⟩:=prts_bound hp
  rw[e]
  exact (rowsF_right blk _ l hL r hr).2.2.2)
 have h3:=rowsF_count blk l.length l
 have h4:=tabPs_len K ad ev blk l
 have h5:=oneT_le leafB leafB_length (tabF K ad filt)
 have h6:=num_length (tabPs K ad ev blk l).length
 have hbody:(bodyB (tabPs K ad ev blk l)).length≤40*(rowsF blk l.length l).length+42*l.length+textE l:=by
  unfold tabPs
  omega
 unfold tabB tableB tabI indexB
 simp only[List.length_append,sealP_length,fix_length,had]
 unfold tabF at h5 ⊢
 rw[sealP_length]
 omega
theorem alloc6 (w:World) (a b c d e f:Obj):((((((w.alloc a).alloc b).alloc c).alloc d).alloc e).alloc f).heap[w.heap.size]? = some a∧((((((w.alloc a).alloc b).alloc c).alloc d).alloc e).alloc f).heap[w.heap.size+1]? = some b∧((((((w.alloc a).alloc b).alloc c).alloc d).alloc e).alloc f).heap[w.heap.size+1+1]? = some c ∧
  ((((((w.alloc a).alloc b).alloc c).alloc d).alloc e).alloc f).heap[w.heap.size+1+1+1]? = some d∧((((((w.alloc a).alloc b).alloc c).alloc d).alloc e).alloc f).heap[w.heap.size+1+1+1+1]? = some e∧((((((w.alloc a).alloc b).alloc c).alloc d).alloc e).alloc f).heap[w.heap.size+1+1+1+1+1]? = some f ∧
  ((((((w.alloc a).alloc b).alloc c).alloc d).alloc e).alloc f).heap.size=w.heap.size+1+1+1+1+1+1∧Below w.heap.size w ((((((w.alloc a).alloc b).alloc c).alloc d).alloc e).alloc f):=by
 refine⟨?_,?_,?_,?_,?_,?_,by simp,balloc (balloc (balloc (balloc (balloc (balloc (bself w) _) _) _) _) _) _⟩
 ·rw[heap_alloc_old _ _ (by simp only[World.size_alloc];omega),heap_alloc_old _ _ (by simp only[World.size_alloc];omega),heap_alloc_old _ _ (by simp only[World.size_alloc];omega),heap_alloc_old _ _ (by simp only[World.size_alloc];omega),heap_alloc_old _ _ (by simp only[World.size_alloc];omega)]
  exact heap_alloc_new w a
 ·rw[heap_alloc_old _ _ (by simp only[World.size_alloc];omega),heap_alloc_old _ _ (by simp only[World.size_alloc];omega),heap_alloc_old _ _ (by simp only[World.size_alloc];omega),heap_alloc_old _ _ (by simp only[World.size_alloc];omega)]
  exact heap_alloc2_new w a b
 ·rw[heap_alloc_old _ _ (by simp only[World.size_alloc];omega),heap_alloc_old _ _ (by simp only[World.size_alloc];omega),heap_alloc_old _ _ (by simp only[World.size_alloc];omega)]
  have h:=heap_alloc_new ((w.alloc a).alloc b) c
  simp only[World.size_alloc] at h
  exact h
 ·rw[heap_alloc_old _ _ (by simp only[World.size_alloc];omega),heap_alloc_old _ _ (by simp only[World.size_alloc];omega)]
  have h:=heap_alloc_new (((w.alloc a).alloc b).alloc c) d
  simp only[World.size_alloc] at h
  exact h
 ·rw[heap_alloc_old _ _ (by simp only[World.size_alloc];omega)]
  have h:=heap_alloc_new ((((w.alloc a).alloc b).alloc c).alloc d) e
  simp only[World.size_alloc] at h
  exact h
 ·have h:=heap_alloc_new (((((w.alloc a).alloc b).alloc c).alloc d).alloc e) f
  simp only[World.size_alloc] at h
  exact h
theorem results_ctc {P:Program} {fn:Func} {p u q:Tmp} {ty tq:TypeId} (h:fn.results=#[.cell p ty,.tmp u,.cell q tq]) (tmps:Array Value) (w:World) (g e:Nat) (t:TypeId) (cs:Array Value) (fr:Nat × Nat) (d:TypeDesc) (v:Value)
  (hp:tmps.getD p undef=.pointer (some ⟨g,0,none⟩)) (hg:w.heap[g]? = some (.cells cs t fr))
  (hu:P.underlying ty=some d) (hd:(match d with | .struct _ | .array _ _=>true|_=>false)=true) (hi:(P.info? ty).map (·.size)=some cs.size)
  (hq:tmps.getD q undef=.pointer (some ⟨e,0,none⟩)) (he:w.cell? ⟨e,0,none⟩=some v) (hia:(isAgg tq).run P w=.ok false w) :
  (results fn tmps).run P w=.ok (.tuple #[.agg cs,tmps.getD u undef,v]) w:=by
 have hp':tmps[p]?.getD undef=.pointer (some ⟨g,0,none⟩):=by simpa using hp
 have hq':tmps[q]?.getD undef=.pointer (some ⟨e,0,none⟩):=by simpa using hq
 have hl:(loadVar tq ⟨e,0,none⟩).run P w=.ok v w:=by
  simp[loadVar,hia,go_sem,he]
 simp[results,h,hp',hq',asAddr,run_loadVar_row w g t ty cs fr d hg hu hd hi,hl]
theorem set_one {w:World} {g:Nat} {a u:Value} {t:TypeId} (h:w.heap[g]? = some (.cells #[a] t (0,0))):(w.setCell ⟨g,0,none⟩ u).cell? ⟨g,0,none⟩=some u:=by
 simp[World.setCell,World.cell?,Array.getElem?_modify,h]
theorem fz_row {w:World} {g:Nat} {c:Array Value} {t:TypeId} (h:w.heap[g]? = some (.cells c t (0,0))) (k:Nat):w.frozen? ⟨g,k,none⟩=false:=by simp[World.frozen?,h]
theorem rw_at {rows:List Rw} {T:List (List UInt8 × List UInt8)} (h:rows.map (fun x=>(x.bound,x.bytes))=T) (i:Nat) (hi:i<rows.length):∃hT:i<T.length,rows[i].bound=T[i].1∧rows[i].bytes=T[i].2:=by
 subst h
 exact⟨by simpa using hi,by simp,by simp⟩
def LoopI (ans:Option Ent) (q:Ent) (Rs:List (List UInt8 × List Ent)) (n:Nat) (i:Int):Prop:=(i=-1∧ans=none)∨∃k:Nat,k≤n∧i=(k:Int)∧ans=goRows q ((Rs.drop k).map (·.2))
theorem loop_start {ans:Option Ent} {user:ByteArray} {seq:UInt64} {Rs:List (List UInt8 × List Ent)} {rows:List Rw} {i:Int} (ha:ans=byBounds (keyQ user seq) Rs) (hl:Rs.length≤rows.length) (hb:∀j (hj:j<Rs.length),(rows[j]'(by omega)).bound=Rs[j].1)
  (h:IdxIs (fun x:Rw=>!ltB x.bound user.toList) (rows.take Rs.length) i):LoopI ans (keyQ user seq) Rs Rs.length i:=by
 have hg:∀j (hj:j<Rs.length),((rows.take Rs.length)[j]'(by rw[List.length_take];omega)).bound=Rs[j].1:=fun j hj=>by rw[List.getElem_take];exact hb j hj
 rcases h with ⟨h1,h2⟩|⟨k,hk,h1,h2,h3⟩
 ·refine .inl ⟨h1,?_⟩
  rw[ha]
  refine byBounds_none _ _ (fun j hj=>?_)
  have h4:=h2 _ (List.getElem_mem (show j<(rows.take Rs.length).length by rw[List.length_take];omega))
  simp only[hg j hj] at h4
  simpa using h4
 ·have hk2:k<Rs.length:=by rw[List.length_take] at hk;omega
  refine .inr ⟨k,by omega,h1,?_⟩
  rw[ha]
  refine byBounds_at _ _ k hk2 ?_ (fun j hj=>?_)
  ·simp only[hg k hk2] at h2
   simpa using h2
  ·have h4:=h3 j hj
   simp only[hg j (by omega)] at h4
   simpa using h4
def GetPost (w:World) (o:Option Ent) (e:Ending) (w':World):Prop:=e=.returned (.tuple #[entV (o.getD ent0),.bool o.isSome,.int .i64 0])∧Below w.heap.size w w'
abbrev ent0C:Array Value:=#[.string ⟨#[]⟩,.int .u64 0,.int .u8 0,.string ⟨#[]⟩]
theorem kGet_any (root:List UInt8) (hroot:root.length=32) (h:Hd) (ok:h.ok) (hk2:h.k=2) (hrh:rightH h=true) (m:Mt) (K ad:List UInt8) (hK:K=keyOfUse root (layH h)) (had:ad=layH h) (ev:Nat) (blk:Int) (l:List Ent) (filt:List UInt8)
  (hm:MtOf m h K ad ev blk l filt) (hev:1≤ev∧ev≤1024) (hf:FiltOk filt l) (hL:rightL l=true) (hne:0<l.length) (hlen:l.length≤1000) (htx:textE l≤10000) (user:ByteArray) (hus:user.size≤140737488355328) (seq:UInt64)
  (cr cm:Array Value) (hcr:dgA root=cr) (hcm:(mtC m).toArray=cm) (vb:Value) (w:World) (hv:SB w w.heap.size vb (tabB K ad ev blk l filt)) (hk:KTab w 0) (h1:0<w.heap.size) :
  Calls Tryz.prog 14 #[.agg cr,.agg cm,vb,.string user,.int .u64 (seq.toNat:Int)] w (GetPost w (onlyE (keyQ user seq) (firstE l (keyQ user seq)))):=by
 obtain⟨hR,hAll⟩:=rightL_all hL
 obtain⟨ans,hans⟩:∃ans,ans=onlyE (keyQ user seq) (firstE l (keyQ user seq)):=⟨_,rfl⟩
 rw[←hans]
 obtain⟨L,pb,hfl,hL0,hLm,hp1,hp2,hmay⟩:=hf
 have hfilt:filt.length≤1048600:=by rw[hfl,List.length_append];simp only[List.length_cons,List.length_nil];omega
 have hadl:ad.length=30:=by rw[had];exact layH_len h
 have hKl:K.length=64:=by rw[hK];exact keyOfUse_length _ _
 have hbl:=tab_le K ad hadl ev blk l filt hL hlen htx hfilt
 obtain⟨RF,hRF⟩:∃RF,RF=rowsF blk l.length l:=⟨_,rfl⟩
 obtain⟨Ps,hPs⟩:∃Ps,Ps=tabPs K ad ev blk l:=⟨_,rfl⟩
 obtain⟨n,hn⟩:∃n,n=RF.length:=⟨_,rfl⟩
 have hPl:Ps.length=n:=by rw[hPs,tabPs_len,hn,hRF]
 have hn1:n≤1000:=by have:=rowsF_count blk l.length l;rw[hn,hRF];omega
 have hn0:0<n:=by
  rw[hn,hRF,rowsF_step _ _ (List.length_pos_iff.1 hne)]
  simp
 have hRr:∀r∈RF,rightL r.2=true∧r.2.length≤l.length∧textE r.2≤textE l∧r.1.length≤1024:=fun r hr=>rowsF_right blk _ l hL r (by rw[←hRF];exact hr)
 have hPg:∀i (hi:i<RF.length),Ps[i]? = some ⟨RF[i].1,RF[i].2,sealP K ad (2+i) (blockB ev RF[i].2)⟩:=fun i hi=>by
  subst hPs;subst hRF
  rw[List.getElem?_eq_getElem (by rw[tabPs_len];exact hi),tabPs_get K ad ev blk l i hi]
 have htf:onlyE (keyQ user seq) (firstE l (keyQ user seq))=byBounds (keyQ user seq) RF:=by rw[hRF];exact (table_first blk l _ hR).symm
 have hcs:cr.size=32:=by rw[←hcr,dgA_size,hroot]
 have hmc:cm.size=40:=by rw[←hcm,List.size_toArray];exact mtC_length m (by rw[hm.root];exact (rootR jnD zD _).2)
 have HBeg:Hid (∀W,Below w.heap.size w W→Calls Tryz.prog 35 #[.agg cr,.agg cm,vb] W (BegPost W K ad Ps (tabF K ad filt))):=Lib.hid (fun W hW=>by
  refine kBeginT_any root hroot h ok hk2 hrh m ⟨hm.lv,hm.g,hm.e,hm.n⟩ K ad (tabI K ad ev blk l filt) hK had Ps (tabF K ad filt) (tabB K ad ev blk l filt) (by rw[hPs];rfl) (by rw[hPs];rfl) hm.size (by rw[hm.root,hPs];rfl) (by omega) (by omega) (fun p hp=>?_) (by omega) cr cm hcr hcm vb W (hv.on hW) (hk.on hW h1) (by have:=hW.size;omega)
  obtain⟨i,hi,rfl⟩:=List.getElem_of_mem hp
  have hi2:i<RF.length:=by omega
  have e:=hPg i hi2
  rw[List.getElem?_eq_getElem hi] at e
  injection e with e
  rw[e]
  exact (hRr _ (List.getElem_mem hi2)).2.2.2)
 have HALL:=Lib.hid (And.intro hRF (And.intro hPs (And.intro hPg (And.intro hRr (And.intro htf (And.intro hans (And.intro hmay (And.intro hfl hn))))))))
 have HPL:=Lib.hid hPl
 obtain⟨Ab,cb,rfl,_,_,_⟩:=id hv
 obtain⟨nb,hnb⟩:∃nb,nb=(tabB K ad ev blk l filt).length:=⟨_,rfl⟩
 rw[←hnb] at HBeg ⊢
 clear hnb hroot hcr hcm hRF hPs hPg hRr htf hans hmay hfl hn hK had hm hv hbl hPl hR hAll hL hfilt
 have hmf:∀(fn:Fn) (first cap:Array Value) (w:World),(Instr.makeFunc fn first cap).run Tryz.prog w=.ok (.func fn first cap) w:=fun _ _ _ _=>rfl
 go_enter_defers Tryz.func14,Tryz.ntmps14
 go_upto_region 2 with fail
 obtain⟨rR,rM,rU,rS,rX,rE,zA,bA⟩:=alloc6 w (.cells cr 53) (.cells cm 55) (.cells #[.string user] 9) (.cells #[.int .u64 (seq.toNat:Int)] 23) (.cells ent0C 29) (.cells #[.int .i64 0] 41)
 generalize World.alloc _ _=wA at rR rM rU rS rX rE zA bA ⊢
 go_upto_region 3 with (first|(refine wl_loadD rfl (.tmp 5) rfl _ rfl cr rR hcs ?_)|(refine wpList_load_row rfl 55 (.tmp 6) rfl _ rfl _ cm (0,0) _ rM Tryz.underlying55 rfl (by rw[hmc];kernel_rfl) ?_)|(go_at_call 35;refine (HBeg.out _ bA).mono ?_;rintro _ w1 ⟨R,rows,rfl,hrd,hmap,hb1⟩))
 clear rR rM HBeg
 have HRd:=Lib.hid hrd
 have hrl:rows.length=n+1:=by
  have h2:=congrArg List.length hmap
  rw[List.length_map,rowsT_length,HPL.out] at h2
  exact h2
 obtain⟨va,vr,vi,hrow,_,hsr,_⟩:=id hrd
 obtain⟨Ar,crr,rfl,hlc,hcr2⟩:=hsr.form
 have c65:=(rd_cells hrow hKl).2.1.2.1
 rw[hrl] at c65 hlc
 have HMP:=Lib.hid (And.intro hmap hrl)
 have HSR:=Lib.hid hsr
 have hRl:=(Array.getElem?_eq_some_iff.1 hrow).1
 have z1:=hb1.size
 have HKS:Hid (∀W,Below w1.heap.size w1 W→(W.heap[w.heap.size+1+1]? = some (.cells #[.string user] 9 (0,0))∧W.heap[w.heap.size+1+1+1]? = some (.cells #[.int .u64 (seq.toNat:Int)] 23 (0,0))∧W.heap[w.heap.size+1+1+1+1]? = some (.cells ent0C 29 (0,0))∧W.heap[w.heap.size+1+1+1+1+1]? = some (.cells #[.int .i64 0] 41 (0,0)))∧W.cell? ⟨R,65,none⟩=some (.slice Ar (n+1) crr)):=Lib.hid (fun W hW =>
  ⟨⟨((hW.block _ (by omega)).trans (hb1.block _ (by omega))).trans rU,((hW.block _ (by omega)).trans (hb1.block _ (by omega))).trans rS,((hW.block _ (by omega)).trans (hb1.block _ (by omega))).trans rX,((hW.block _ (by omega)).trans (hb1.block _ (by omega))).trans rE⟩,(hW.cell (p:=⟨R,65,none⟩) hRl).trans c65⟩)
 have bw1:=bstep bA hb1
 have g1:((n+1:Nat):Int)-1=(n:Int):=by omega
 have g1':(n:Int)+1-1=(n:Int):=by omega
 have g1w:IntKind.i64.wrap (n:Int)=(n:Int):=by rw[IntKind.wrap_i64];omega
 clear hmap hsr hrow hrd rU rS rX rE hrl
 go_upto_region 4 with fail
 have HWh:Hid (∀W,Below w1.heap.size w1 W→Calls Tryz.prog 37 #[.pointer (some ⟨R,0,none⟩),.int .i64 (n:Int),.int .i64 1] W fun e w'=>∃r,e=.returned r∧OB w' W.heap.size r filt∧Below W.heap.size W w'):=Lib.hid (fun W hW=>by
  have hlt:n<rows.length:=by rw[HMP.out.2];omega
  obtain⟨hT,_,h2⟩:=rw_at HMP.out.1 n hlt
  have h3:=rowsT_last Ps (tabF K ad filt)
  simp only[HPL.out] at h3
  rw[h3] at h2
  have hbw:=bw1.trans (hW.mono bw1.size)
  exact kWhole_any R n 1 K ad filt rows W (HRd.out.on hW) hKl hlt h2 (by omega) (by rw[HALL.out.2.2.2.2.2.2.2.1,List.length_append];simp only[List.length_cons,List.length_nil];omega) (by omega) (hk.on hbw h1) (by have:=hbw.size;omega))
 have HMay:Hid (∀v W,SB W W.heap.size v filt→Calls Tryz.prog 36 #[v,.string user] W fun e w'=>e=.returned (.bool (mayKey pb.toNat L user.data.toList))∧Below W.heap.size W w'):=Lib.hid (fun v W hv=>by
  rw[HALL.out.2.2.2.2.2.2.2.1] at hv
  exact kMay_any v L pb user W hv hL0 hLm hp1 hp2 hus)
 have HKU:Hid (∀W,Below w1.heap.size w1 W→W.cell? ⟨w.heap.size+1+1,0,none⟩=some (.string user)):=Lib.hid (fun W hW=>cell_of_row _ _ 0 _ _ _ (HKS.out W hW).1.1)
 have b1d:=bdrew (bself w1)
 clear c65 g1 g1' g1w
 cases hmk:mayKey pb.toNat L user.data.toList with
 | false =>
  have HAns:Hid (ans=none):=Lib.hid (by
   rw[HALL.out.2.2.2.2.2.1]
   exact filt_none HALL.out.2.2.2.2.2.2.1 hmk)
  rw[hmk] at HMay
  have HMK:=Lib.hid hmk
  clear hmk
  refine wp_region_noPanic ?_
  refine wp_region_held_drew (S:=fun W=>True∧W.cell? ⟨w.heap.size+1+1,0,none⟩=some (.string user)) (by kernel_rfl) ⟨trivial,HKU.out _ b1d⟩ (fun hHeld=>?_)
  refine rtk 0 ?_
  refine rtk 1 ?_
  refine rtk 3 ?_
  refine ro 2 (fun K hK=>?_)
  (go_simp;go_at_call 37;refine (HWh.out _ b1d).mono ?_;rintro _ w2 ⟨r2,rfl,ho2,hb2⟩;have b2:=bstep b1d hb2;go_wp2_with fail)
  refine hK.out _ _ ?_ (fun hHeld=>?_)
  ·exact⟨trivial,HKU.out _ b2⟩
  clear hK K
  try simp only[Act.put,q1,q2,q3]
  refine ro 4 (fun K hK=>?_)
  (go_simp;go_at_call 36;refine (HMay.out _ _ ho2.sb).mono ?_;rintro _ w3 ⟨rfl,hb3⟩;have b3:=bstep b2 hb3;go_wp2_with fail)
  refine hK.out _ _ ?_ (fun hHeld=>?_)
  ·exact⟨trivial,HKU.out _ b3⟩
  clear hK K
  try simp only[Act.put,q1,q2,q3]
  refine rtk 5 ?_
  refine rdn ?_
  clear HWh HMay hHeld
  go_upto_region 5 with fail
  obtain⟨⟨_,_,hX,hE⟩,_⟩:=HKS.out _ b3
  go_wp2_with (refine wl_storeT 29 (n:=4) (by kernel_rfl) ?_ (.tmp 10) (.tmp 35) ?_ (w.heap.size+1+1+1+1) ?_ _ ent0C ?_ hX ?_ ?_ ?_ ?_;rfl;rfl;rfl;rfl;rfl;rfl;(simp[Value.oneCell']);have rE2:=(setRow_other _ (w.heap.size+1+1+1+1) (w.heap.size+1+1+1+1+1) ent0C (by omega)).trans hE;have cE:=cell_of_row _ _ 0 _ _ _ rE2;have fE:=fz_row rE2 0)
  refine leaves_cons (f:=34) (args:=#[.pointer (some ⟨w.heap.size+1+1+1+1+1,0,none⟩)]) (by simp) (by simp[go_sem]) ?_
  refine (kCaught_idle _ _).mono ?_
  rintro e u' w'' ⟨rfl,rfl,rfl⟩
  have cEf:World.cell? (World.setCell (World.setRow _ (w.heap.size+1+1+1+1) ent0C) ⟨w.heap.size+1+1+1+1+1,0,none⟩ (.int .i64 0)) ⟨w.heap.size+1+1+1+1+1,0,none⟩=some (.int .i64 0):=set_one rE2
  have rXf:=(Below.heap_setCell (World.setRow _ (w.heap.size+1+1+1+1) ent0C) ⟨w.heap.size+1+1+1+1+1,0,none⟩ (.int .i64 0) (w.heap.size+1+1+1+1) (by show w.heap.size+1+1+1+1≠w.heap.size+1+1+1+1+1;omega)).trans (setRow_heap _ _ _ ent0C _ _ hX)
  refine⟨.tuple #[.agg ent0C,.bool false,.int .i64 0],results_ctc Tryz.results14 _ _ (w.heap.size+1+1+1+1) (w.heap.size+1+1+1+1+1) 29 ent0C (0,0) _ (.int .i64 0) rfl rXf Tryz.underlying29 rfl (by kernel_rfl) rfl cEf (by kernel_rfl),?_⟩
  exact⟨by rw[HAns.out];rfl,((below_setRow (bstep bw1 b3) (by omega) _)).setCell (by show w.heap.size≤w.heap.size+1+1+1+1+1;omega) _⟩
 | true =>
  rw[hmk] at HMay
  have HMK:=Lib.hid hmk
  clear hmk
  refine wp_region_noPanic ?_
  refine wp_region_held_drew (S:=fun W=>True∧W.cell? ⟨w.heap.size+1+1,0,none⟩=some (.string user)) (by kernel_rfl) ⟨trivial,HKU.out _ b1d⟩ (fun hHeld=>?_)
  refine rtk 0 ?_
  refine rtk 1 ?_
  refine rtk 3 ?_
  refine ro 2 (fun K hK=>?_)
  (go_simp;go_at_call 37;refine (HWh.out _ b1d).mono ?_;rintro _ w2 ⟨r2,rfl,ho2,hb2⟩;have b2:=bstep b1d hb2;go_wp2_with fail)
  refine hK.out _ _ ?_ (fun hHeld=>?_)
  ·exact⟨trivial,HKU.out _ b2⟩
  clear hK K
  try simp only[Act.put,q1,q2,q3]
  refine ro 4 (fun K hK=>?_)
  (go_simp;go_at_call 36;refine (HMay.out _ _ ho2.sb).mono ?_;rintro _ w3 ⟨rfl,hb3⟩;have b3:=bstep b2 hb3;go_wp2_with fail)
  refine hK.out _ _ ?_ (fun hHeld=>?_)
  ·exact⟨trivial,HKU.out _ b3⟩
  clear hK K
  try simp only[Act.put,q1,q2,q3]
  refine rtk 5 ?_
  refine rdn ?_
  clear HWh HMay hHeld
  have hU3:∀W,Below w3.heap.size w3 W→W.cell? ⟨w.heap.size+1+1,0,none⟩=some (.string user)∧w.heap.size+1+1<W.heap.size:=fun W hW=>⟨HKU.out W (bstep b3 hW),by have:=hW.size;have:=b3.size;omega⟩
  have HU3:=Lib.hid hU3
  have HIdx:Hid (∀W,Below w3.heap.size w3 W→Calls Tryz.prog 38 #[.slice Ar n crr,.func (.func 39) #[] #[.pointer (some ⟨w.heap.size+1+1,0,none⟩)]] W fun e w'=>∃i:Int,e=.returned (.int .i64 i)∧IdxIs (fun x:Rw=>!ltB x.bound user.toList) (rows.take n) i∧Below W.heap.size W w'):=Lib.hid (fun W hW=>by
   have h1:=(HSR.out.on (bstep b3 hW)).take rwC_length (k:=n) (by rw[HMP.out.2];omega) rfl
   refine kIndexR_any (rows.take n) (.pointer (some ⟨w.heap.size+1+1,0,none⟩)) (fun x:Rw=>!ltB x.bound user.toList) _ W h1 (by rw[List.length_take];omega) (fun x hx W2 hW2=>?_)
   obtain⟨c1,c2⟩:=HU3.out W2 (bstep hW hW2)
   exact kAhead1_any x _ rfl _ user W2 c1 c2)
  have hs6:∀W,(Instr.sliceAt 94 (.slice Ar (n+1) crr) none (some (.int .i64 (n:Int))) none).run Tryz.prog W=.ok (.slice Ar n crr) W:=fun W=>by
   rw[run_sliceAt_slice W 94 _ _ _ _ Tryz.underlying94,run_slice_h W 94 Ar (n+1) crr Tryz.underlying94 .i64 n (by omega) (by omega)]
   simp[go_sem,sliced]
  have c65:=(HKS.out _ b3).2
  clear hU3
  go_upto_region 8 with (go_at_call 38;refine (HIdx.out _ (bself _)).mono ?_;rintro _ w4 ⟨i0,rfl,hi0,hb4⟩)
  have hLI:=loop_start (ans:=ans) (user:=user) (seq:=seq) (rows:=rows) (Rs:=RF) (i:=i0) (by rw[HALL.out.2.2.2.2.2.1];exact HALL.out.2.2.2.2.1) (by have:=HMP.out.2;have:=HALL.out.2.2.2.2.2.2.2.2;omega) (fun j hj=>by
   have hjr:j<rows.length:=by have:=HMP.out.2;have:=HALL.out.2.2.2.2.2.2.2.2;omega
   have hjn:j<Ps.length:=by have:=HPL.out;have:=HALL.out.2.2.2.2.2.2.2.2;omega
   obtain⟨hT,h2,_⟩:=rw_at HMP.out.1 j hjr
   rw[h2,rowsT_lt Ps _ j hjn]
   have e:=HALL.out.2.2.1 j hj
   rw[List.getElem?_eq_getElem hjn] at e
   injection e with e
   rw[e]) (by rw[←HALL.out.2.2.2.2.2.2.2.2];exact hi0)
  rw[←HALL.out.2.2.2.2.2.2.2.2] at hLI
  have HLI:=Lib.hid hLI
  have b4:=bstep b3 hb4
  clear hi0 hLI HIdx hs6 c65 hb4 b2 hb2 hb3 ho2
  go_loopw [16] (fun sv wr=>∃i:Int,sv=.int .i64 i∧Hid (LoopI ans (keyQ user seq) RF n i)∧Below w1.heap.size w1 wr) (fun sv _=>n+1-(intOf sv).toNat)
  case atStart=>exact⟨i0,rfl,HLI,b4⟩
  case round =>
   obtain⟨i,rfl,HL,hbr⟩:=hrel
   rcases HL.out with ⟨rfl,hnone⟩|⟨k,hkn,rfl,hans⟩
   ·have HAns:Hid (ans=none):=Lib.hid hnone
    clear hnone HL
    go_upto_region 15 with fail
    obtain⟨⟨_,_,hX,hE⟩,_⟩:=HKS.out _ hbr
    go_wp2_with (refine wl_storeT 29 (n:=4) (by kernel_rfl) ?_ (.tmp 10) (.tmp 73) ?_ (w.heap.size+1+1+1+1) ?_ _ ent0C ?_ hX ?_ ?_ ?_ ?_;rfl;rfl;rfl;rfl;rfl;rfl;(simp[Value.oneCell']);have rE2:=(setRow_other _ (w.heap.size+1+1+1+1) (w.heap.size+1+1+1+1+1) ent0C (by omega)).trans hE;have cE:=cell_of_row _ _ 0 _ _ _ rE2;have fE:=fz_row rE2 0)
    refine leaves_cons (f:=34) (args:=#[.pointer (some ⟨w.heap.size+1+1+1+1+1,0,none⟩)]) (by simp) (by simp[go_sem]) ?_
    refine (kCaught_idle _ _).mono ?_
    rintro e u' w'' ⟨rfl,rfl,rfl⟩
    have cEf:World.cell? (World.setCell (World.setRow _ (w.heap.size+1+1+1+1) ent0C) ⟨w.heap.size+1+1+1+1+1,0,none⟩ (.int .i64 0)) ⟨w.heap.size+1+1+1+1+1,0,none⟩=some (.int .i64 0):=set_one rE2
    have rXf:=(Below.heap_setCell (World.setRow _ (w.heap.size+1+1+1+1) ent0C) ⟨w.heap.size+1+1+1+1+1,0,none⟩ (.int .i64 0) (w.heap.size+1+1+1+1) (by show w.heap.size+1+1+1+1≠w.heap.size+1+1+1+1+1;omega)).trans (setRow_heap _ _ _ ent0C _ _ hX)
    refine⟨.tuple #[.agg ent0C,.bool false,.int .i64 0],results_ctc Tryz.results14 _ _ (w.heap.size+1+1+1+1) (w.heap.size+1+1+1+1+1) 29 ent0C (0,0) _ (.int .i64 0) rfl rXf Tryz.underlying29 rfl (by kernel_rfl) rfl cEf (by kernel_rfl),?_⟩
    exact⟨by rw[HAns.out];rfl,((below_setRow (bstep bw1 hbr) (by omega) _)).setCell (by show w.heap.size≤w.heap.size+1+1+1+1+1;omega) _⟩
   ·by_cases hlt:k<n
    ·have hkR:k<RF.length:=by rw[←HALL.out.2.2.2.2.2.2.2.2];exact hlt
     have hst:=goRows_drop (keyQ user seq) RF k hkR
     rw[←hans] at hst
     obtain⟨hr1,hr2,hr3,_⟩:=HALL.out.2.2.2.1 _ (List.getElem_mem hkR)
     have HEnt:Hid (Calls Tryz.prog 40 #[.pointer (some ⟨R,0,none⟩),.int .i64 (k:Int)] wr fun e w'=>∃r,e=.returned r∧OE w' wr.heap.size r RF[k].2∧Below wr.heap.size wr w'):=Lib.hid (by
      have hkr:k<rows.length:=by have:=HMP.out.2;omega
      have hjn:k<Ps.length:=by have:=HPL.out;omega
      obtain⟨hT,_,h2⟩:=rw_at HMP.out.1 k hkr
      have e:=HALL.out.2.2.1 k hkR
      rw[List.getElem?_eq_getElem hjn] at e
      injection e with e
      rw[rowsT_lt Ps _ k hjn,e] at h2
      have hsz:=blockB_le ev RF[k].2
      exact kEntries_any R k ev K ad RF[k].2 rows wr (HRd.out.on hbr) hKl hkr h2 (read_is hev.1 hev.2 hr1 (by omega)) (by omega) (by omega) (by omega) (hk.on (bstep bw1 hbr) h1) (by have:=(bstep bw1 hbr).size;omega))
     obtain⟨L2,hL2⟩:∃L2,L2=RF[k].2:=⟨_,rfl⟩
     rw[←hL2] at hst HEnt hr2
     have hki:(0:Int)≤(k:Int):=by omega
     have HST:=Lib.hid hst
     clear hst hL2 hans HL hr1 hr3
     go_upto_region 11 with (go_at_call 40;refine HEnt.out.mono ?_;rintro _ w5 ⟨v5,rfl,ho5,hb5⟩)
     have b5:=bstep hbr hb5
     have hse:=ho5.se
     have HIx:Hid (Calls Tryz.prog 41 #[v5,.func (.func 42) #[] #[.pointer (some ⟨w.heap.size+1+1,0,none⟩),.pointer (some ⟨w.heap.size+1+1+1,0,none⟩)]] w5 fun e w'=>∃i:Int,e=.returned (.int .i64 i)∧IdxIs (fun x=>!aheadE x (keyQ user seq)) L2 i∧Below w5.heap.size w5 w'):=Lib.hid (by
      refine kIndexE_any L2 (.pointer (some ⟨w.heap.size+1+1,0,none⟩),.pointer (some ⟨w.heap.size+1+1+1,0,none⟩)) (fun x=>!aheadE x (keyQ user seq)) v5 w5 hse (by omega) (fun x hx W2 hW2=>?_)
      obtain⟨⟨k1,k2,_,_⟩,_⟩:=HKS.out W2 (bstep b5 hW2)
      have l1:=(Array.getElem?_eq_some_iff.1 k1).1
      have l2:=(Array.getElem?_eq_some_iff.1 k2).1
      exact kAhead2_any x user seq _ _ W2 (cell_of_row _ _ 0 _ _ _ k1) (cell_of_row _ _ 0 _ _ _ k2) l1 l2)
     obtain⟨A5,c5,rfl,hc5,hm5,hrd5⟩:=id hse
     have HSE:=Lib.hid hse
     clear hse hrd5 HEnt ho5
     go_upto_region 12 with (go_at_call 41;refine HIx.out.mono ?_;rintro _ w6 ⟨i6,rfl,hi6,hb6⟩)
     have b6:=bstep b5 hb6
     clear HIx
     rcases find_idx hi6 with ⟨rfl,hnone⟩|⟨j,hj,rfl,hsome⟩
     ·have hst:=HST.out
      rw[hnone] at hst
      have HST2:=Lib.hid hst
      clear hst hnone hi6
      go_wp2_with fail
      go_roundw
      case rel=>exact⟨_,rfl,Lib.hid (.inr ⟨k+1,by omega,by omega,HST2.out⟩),b6⟩
      case measure=>simp[intOf];omega
     ·have hst:=HST.out
      rw[hsome] at hst
      dsimp only at hst
      obtain⟨A6,c6,e6,_,_,hrd⟩:=id (HSE.out.on hb6)
      injection e6 with e6 _ e6'
      subst e6
      obtain⟨b,o,rfl,hb,c0,c1,c2,c3⟩:=hrd.ent rfl hj
      obtain⟨x,hx⟩:∃x,x=L2[j]:=⟨_,rfl⟩
      rw[←hx] at c0 c1 c2 c3 hst
      obtain⟨⟨rU6,_,rX6,rE6⟩,_⟩:=HKS.out _ b6
      have cU:=cell_of_row _ _ 0 _ _ _ rU6
      have hj5:(j:Int)<(L2.length:Int):=by omega
      obtain⟨l2,hl2⟩:∃l2,l2=L2.length:=⟨_,rfl⟩
      rw[←hl2] at hj5 hc5 ⊢
      by_cases hu:x.user=user
      ·rw[if_pos hu] at hst
       have HAns:Hid (ans=some x):=Lib.hid hst
       rw[hu] at c0
       have HU:=Lib.hid hu
       clear hst HST hu hx hrd hi6 hsome rU6 e6' HSE hl2
       go_upto_region 13 with fail
       refine wp_region_noPanic ?_
       refine wp_region_held_drew (S:=fun W=>True∧W.cell? ⟨w.heap.size+1+1,0,none⟩=some (.string user)∧W.cell? ⟨b,o+j*4,none⟩=some (.string user)) (by kernel_rfl) ⟨trivial,cU,c0⟩ (fun hHeld=>?_)
       refine rtk 0 ?_
       refine rtk 1 ?_
       refine rtk 2 ?_
       refine rtk 3 ?_
       refine rtk 4 ?_
       refine rtk 5 ?_
       refine rtk 6 ?_
       refine rdn ?_
       clear hHeld
       go_upto_region 14 with fail
       obtain⟨⟨_,_,hX,hE⟩,_⟩:=HKS.out _ (bdrew b6)
       go_wp2_with (refine wl_storeT 29 (n:=4) (by kernel_rfl) ?_ (.tmp 10) (.tmp 72) ?_ (w.heap.size+1+1+1+1) ?_ _ #[.string user,.int .u64 (x.seq.toNat:Int),.int .u8 (x.kind.toNat:Int),.string x.value] ?_ hX ?_ ?_ ?_ ?_;rfl;rfl;rfl;rfl;rfl;rfl;(simp[Value.oneCell']);have rE2:=(setRow_other _ (w.heap.size+1+1+1+1) (w.heap.size+1+1+1+1+1) #[.string user,.int .u64 (x.seq.toNat:Int),.int .u8 (x.kind.toNat:Int),.string x.value] (by omega)).trans hE;have cE:=cell_of_row _ _ 0 _ _ _ rE2;have fE:=fz_row rE2 0)
       refine leaves_cons (f:=34) (args:=#[.pointer (some ⟨w.heap.size+1+1+1+1+1,0,none⟩)]) (by simp) (by simp[go_sem]) ?_
       refine (kCaught_idle _ _).mono ?_
       rintro e u' w'' ⟨rfl,rfl,rfl⟩
       have cEf:World.cell? (World.setCell (World.setRow _ (w.heap.size+1+1+1+1) #[.string user,.int .u64 (x.seq.toNat:Int),.int .u8 (x.kind.toNat:Int),.string x.value]) ⟨w.heap.size+1+1+1+1+1,0,none⟩ (.int .i64 0)) ⟨w.heap.size+1+1+1+1+1,0,none⟩=some (.int .i64 0):=set_one rE2
       have rXf:=(Below.heap_setCell (World.setRow _ (w.heap.size+1+1+1+1) #[.string user,.int .u64 (x.seq.toNat:Int),.int .u8 (x.kind.toNat:Int),.string x.value]) ⟨w.heap.size+1+1+1+1+1,0,none⟩ (.int .i64 0) (w.heap.size+1+1+1+1) (by show w.heap.size+1+1+1+1≠w.heap.size+1+1+1+1+1;omega)).trans (setRow_heap _ _ _ #[.string user,.int .u64 (x.seq.toNat:Int),.int .u8 (x.kind.toNat:Int),.string x.value] _ _ hX)
       refine⟨.tuple #[.agg #[.string user,.int .u64 (x.seq.toNat:Int),.int .u8 (x.kind.toNat:Int),.string x.value],.bool true,.int .i64 0],results_ctc Tryz.results14 _ _ (w.heap.size+1+1+1+1) (w.heap.size+1+1+1+1+1) 29 #[.string user,.int .u64 (x.seq.toNat:Int),.int .u8 (x.kind.toNat:Int),.string x.value] (0,0) _ (.int .i64 0) rfl rXf Tryz.underlying29 rfl (by kernel_rfl) rfl cEf (by kernel_rfl),?_⟩
       exact⟨by rw[HAns.out,←HU.out];rfl,((below_setRow (bstep bw1 (bdrew b6)) (by omega) _)).setCell (by show w.heap.size≤w.heap.size+1+1+1+1+1;omega) _⟩
      ·rw[if_neg hu] at hst
       have HAns:Hid (ans=none):=Lib.hid hst
       have hun:(x.user.toList==user.toList)=false:=by rw[beq_eq_false_iff_ne];intro e;exact hu (ext_toList e)
       clear hst HST hu hx hrd hi6 hsome rU6 e6' HSE hl2
       go_upto_region 13 with fail
       refine wp_region_noPanic ?_
       refine wp_region_held_drew (S:=fun W=>True∧W.cell? ⟨w.heap.size+1+1,0,none⟩=some (.string user)∧W.cell? ⟨b,o+j*4,none⟩=some (.string x.user)) (by kernel_rfl) ⟨trivial,cU,c0⟩ (fun hHeld=>?_)
       refine rtk 0 ?_
       refine rtk 1 ?_
       refine rtk 2 ?_
       refine rtk 3 ?_
       refine rtk 4 ?_
       refine rtk 5 ?_
       refine rtk 6 ?_
       refine rdn ?_
       clear hHeld
       go_upto_region 15 with fail
       obtain⟨⟨_,_,hX,hE⟩,_⟩:=HKS.out _ (bdrew b6)
       go_wp2_with (refine wl_storeT 29 (n:=4) (by kernel_rfl) ?_ (.tmp 10) (.tmp 73) ?_ (w.heap.size+1+1+1+1) ?_ _ ent0C ?_ hX ?_ ?_ ?_ ?_;rfl;rfl;rfl;rfl;rfl;rfl;(simp[Value.oneCell']);have rE2:=(setRow_other _ (w.heap.size+1+1+1+1) (w.heap.size+1+1+1+1+1) ent0C (by omega)).trans hE;have cE:=cell_of_row _ _ 0 _ _ _ rE2;have fE:=fz_row rE2 0)
       refine leaves_cons (f:=34) (args:=#[.pointer (some ⟨w.heap.size+1+1+1+1+1,0,none⟩)]) (by simp) (by simp[go_sem]) ?_
       refine (kCaught_idle _ _).mono ?_
       rintro e u' w'' ⟨rfl,rfl,rfl⟩
       have cEf:World.cell? (World.setCell (World.setRow _ (w.heap.size+1+1+1+1) ent0C) ⟨w.heap.size+1+1+1+1+1,0,none⟩ (.int .i64 0)) ⟨w.heap.size+1+1+1+1+1,0,none⟩=some (.int .i64 0):=set_one rE2
       have rXf:=(Below.heap_setCell (World.setRow _ (w.heap.size+1+1+1+1) ent0C) ⟨w.heap.size+1+1+1+1+1,0,none⟩ (.int .i64 0) (w.heap.size+1+1+1+1) (by show w.heap.size+1+1+1+1≠w.heap.size+1+1+1+1+1;omega)).trans (setRow_heap _ _ _ ent0C _ _ hX)
       refine⟨.tuple #[.agg ent0C,.bool false,.int .i64 0],results_ctc Tryz.results14 _ _ (w.heap.size+1+1+1+1) (w.heap.size+1+1+1+1+1) 29 ent0C (0,0) _ (.int .i64 0) rfl rXf Tryz.underlying29 rfl (by kernel_rfl) rfl cEf (by kernel_rfl),?_⟩
       exact⟨by rw[HAns.out];rfl,((below_setRow (bstep bw1 (bdrew b6)) (by omega) _)).setCell (by show w.heap.size≤w.heap.size+1+1+1+1+1;omega) _⟩
    ·have hkn2:k=n:=by omega
     have HAns:Hid (ans=none):=Lib.hid (by rw[hans,hkn2,HALL.out.2.2.2.2.2.2.2.2,List.drop_length];rfl)
     clear hans HL
     go_upto_region 15 with fail
     obtain⟨⟨_,_,hX,hE⟩,_⟩:=HKS.out _ hbr
     go_wp2_with (refine wl_storeT 29 (n:=4) (by kernel_rfl) ?_ (.tmp 10) (.tmp 73) ?_ (w.heap.size+1+1+1+1) ?_ _ ent0C ?_ hX ?_ ?_ ?_ ?_;rfl;rfl;rfl;rfl;rfl;rfl;(simp[Value.oneCell']);have rE2:=(setRow_other _ (w.heap.size+1+1+1+1) (w.heap.size+1+1+1+1+1) ent0C (by omega)).trans hE;have cE:=cell_of_row _ _ 0 _ _ _ rE2;have fE:=fz_row rE2 0)
     refine leaves_cons (f:=34) (args:=#[.pointer (some ⟨w.heap.size+1+1+1+1+1,0,none⟩)]) (by simp) (by simp[go_sem]) ?_
     refine (kCaught_idle _ _).mono ?_
     rintro e u' w'' ⟨rfl,rfl,rfl⟩
     have cEf:World.cell? (World.setCell (World.setRow _ (w.heap.size+1+1+1+1) ent0C) ⟨w.heap.size+1+1+1+1+1,0,none⟩ (.int .i64 0)) ⟨w.heap.size+1+1+1+1+1,0,none⟩=some (.int .i64 0):=set_one rE2
     have rXf:=(Below.heap_setCell (World.setRow _ (w.heap.size+1+1+1+1) ent0C) ⟨w.heap.size+1+1+1+1+1,0,none⟩ (.int .i64 0) (w.heap.size+1+1+1+1) (by show w.heap.size+1+1+1+1≠w.heap.size+1+1+1+1+1;omega)).trans (setRow_heap _ _ _ ent0C _ _ hX)
     refine⟨.tuple #[.agg ent0C,.bool false,.int .i64 0],results_ctc Tryz.results14 _ _ (w.heap.size+1+1+1+1) (w.heap.size+1+1+1+1+1) 29 ent0C (0,0) _ (.int .i64 0) rfl rXf Tryz.underlying29 rfl (by kernel_rfl) rfl cEf (by kernel_rfl),?_⟩
     exact⟨by rw[HAns.out];rfl,((below_setRow (bstep bw1 hbr) (by omega) _)).setCell (by show w.heap.size≤w.heap.size+1+1+1+1+1;omega) _⟩
end Go.Proofs.YtchjknbideoieaaGreatDoor
namespace Go.Proofs.YtchjknbideoieaaGreatDoor
set_option maxRecDepth 100000
set_option maxHeartbeats 8000000
open Go.RowKit Go.Great Go.Proofs
theorem alloc3A (w:World) (a b c:Obj):(((w.alloc a).alloc b).alloc c).heap[w.heap.size]? = some a∧(((w.alloc a).alloc b).alloc c).heap[w.heap.size+1]? = some b∧(((w.alloc a).alloc b).alloc c).heap[w.heap.size+1+1]? = some c ∧
  (((w.alloc a).alloc b).alloc c).heap.size=w.heap.size+1+1+1∧Below w.heap.size w (((w.alloc a).alloc b).alloc c):=by
 refine⟨?_,?_,?_,by simp,balloc (balloc (balloc (bself w) _) _) _⟩
 ·rw[heap_alloc_old _ _ (by simp only[World.size_alloc];omega),heap_alloc_old _ _ (by simp only[World.size_alloc];omega)]
  exact heap_alloc_new w a
 ·rw[heap_alloc_old _ _ (by simp only[World.size_alloc];omega)]
  exact heap_alloc2_new w a b
 ·have h:=heap_alloc_new ((w.alloc a).alloc b) c
  simp only[World.size_alloc] at h
  exact h
theorem results_tc {P:Program} {fn:Func} {u q:Tmp} {tq:TypeId} (h:fn.results=#[.tmp u,.cell q tq]) (tmps:Array Value) (w:World) (e:Nat) (v:Value)
  (hq:tmps.getD q undef=.pointer (some ⟨e,0,none⟩)) (he:w.cell? ⟨e,0,none⟩=some v) (hia:(isAgg tq).run P w=.ok false w) :
  (results fn tmps).run P w=.ok (.tuple #[tmps.getD u undef,v]) w:=by
 have hq':tmps[q]?.getD undef=.pointer (some ⟨e,0,none⟩):=by simpa using hq
 have hl:(loadVar tq ⟨e,0,none⟩).run P w=.ok v w:=by
  simp[loadVar,hia,go_sem,he]
 simp[results,h,hq',asAddr,hl]
def AllPost (w:World) (l:List Ent) (e:Ending) (w':World):Prop:=∃r,e=.returned (.tuple #[r,.int .i64 0])∧OE w' w.heap.size r l∧Below w.heap.size w w'
theorem kAll_any (root:List UInt8) (hroot:root.length=32) (h:Hd) (ok:h.ok) (hk2:h.k=2) (hrh:rightH h=true) (m:Mt) (K ad:List UInt8) (hK:K=keyOfUse root (layH h)) (had:ad=layH h) (ev:Nat) (blk:Int) (l:List Ent) (filt:List UInt8)
  (hm:MtOf m h K ad ev blk l filt) (hmc1:m.count=l.length) (hmn:m.mn=(l.getD 0 ent0).user) (hmx:m.mx=(l.getD (l.length-1) ent0).user) (hev:1≤ev∧ev≤1024) (hf:FiltOk filt l) (hL:rightL l=true) (hne:0<l.length) (hlen:l.length≤1000) (htx:textE l≤10000)
  (cr cm:Array Value) (hcr:dgA root=cr) (hcm:(mtC m).toArray=cm) (vb:Value) (w:World) (hv:SB w w.heap.size vb (tabB K ad ev blk l filt)) (hk:KTab w 0) (h1:0<w.heap.size) :
  Calls Tryz.prog 18 #[.agg cr,.agg cm,vb] w (AllPost w l):=by
 obtain⟨hR,hAll⟩:=rightL_all hL
 obtain⟨L,pb,hfl,hL0,hLm,hp1,hp2,hmay⟩:=hf
 have hfilt:filt.length≤1048600:=by rw[hfl,List.length_append];simp only[List.length_cons,List.length_nil];omega
 have hadl:ad.length=30:=by rw[had];exact layH_len h
 have hKl:K.length=64:=by rw[hK];exact keyOfUse_length _ _
 have hbl:=tab_le K ad hadl ev blk l filt hL hlen htx hfilt
 obtain⟨RF,hRF⟩:∃RF,RF=rowsF blk l.length l:=⟨_,rfl⟩
 obtain⟨Ps,hPs⟩:∃Ps,Ps=tabPs K ad ev blk l:=⟨_,rfl⟩
 obtain⟨n,hn⟩:∃n,n=RF.length:=⟨_,rfl⟩
 have hPl:Ps.length=n:=by rw[hPs,tabPs_len,hn,hRF]
 have hn1:n≤1000:=by have:=rowsF_count blk l.length l;rw[hn,hRF];omega
 have hn0:0<n:=by
  rw[hn,hRF,rowsF_step _ _ (List.length_pos_iff.1 hne)]
  simp
 have hRr:∀r∈RF,rightL r.2=true∧r.2.length≤l.length∧textE r.2≤textE l∧r.1.length≤1024:=fun r hr=>rowsF_right blk _ l hL r (by rw[←hRF];exact hr)
 have hPg:∀i (hi:i<RF.length),Ps[i]? = some ⟨RF[i].1,RF[i].2,sealP K ad (2+i) (blockB ev RF[i].2)⟩:=fun i hi=>by
  subst hPs;subst hRF
  rw[List.getElem?_eq_getElem (by rw[tabPs_len];exact hi),tabPs_get K ad ev blk l i hi]
 have hfl2:RF.flatMap (·.2)=l:=by rw[hRF];exact rowsF_flat blk l
 have hcs:cr.size=32:=by rw[←hcr,dgA_size,hroot]
 have hmc:cm.size=40:=by rw[←hcm,List.size_toArray];exact mtC_length m (by rw[hm.root];exact (rootR jnD zD _).2)
 have hm567:cm[5]? = some (.int .i64 (l.length:Int))∧cm[6]? = some (.string (l.getD 0 ent0).user)∧cm[7]? = some (.string (l.getD (l.length-1) ent0).user):=by
  rw[←hcm]
  exact⟨by rw[←hmc1];rfl,by rw[←hmn];rfl,by rw[←hmx];rfl⟩
 have HBeg:Hid (∀W,Below w.heap.size w W→Calls Tryz.prog 35 #[.agg cr,.agg cm,vb] W (BegPost W K ad Ps (tabF K ad filt))):=Lib.hid (fun W hW=>by
  refine kBeginT_any root hroot h ok hk2 hrh m ⟨hm.lv,hm.g,hm.e,hm.n⟩ K ad (tabI K ad ev blk l filt) hK had Ps (tabF K ad filt) (tabB K ad ev blk l filt) (by rw[hPs];rfl) (by rw[hPs];rfl) hm.size (by rw[hm.root,hPs];rfl) (by omega) (by omega) (fun p hp=>?_) (by omega) cr cm hcr hcm vb W (hv.on hW) (hk.on hW h1) (by have:=hW.size;omega)
  obtain⟨i,hi,rfl⟩:=List.getElem_of_mem hp
  have hi2:i<RF.length:=by omega
  have e:=hPg i hi2
  rw[List.getElem?_eq_getElem hi] at e
  injection e with e
  rw[e]
  exact (hRr _ (List.getElem_mem hi2)).2.2.2)
 have HALL:=Lib.hid (And.intro hPg (And.intro hRr (And.intro hfl (And.intro hn (And.intro hfl2 (And.intro hm567 hR))))))
 have HPL:=Lib.hid hPl
 obtain⟨Ab,cb,rfl,_,_,_⟩:=id hv
 obtain⟨nb,hnb⟩:∃nb,nb=(tabB K ad ev blk l filt).length:=⟨_,rfl⟩
 rw[←hnb] at HBeg ⊢
 clear hnb hroot hcr hcm hRF hPs hPg hRr hfl2 hmay hfl hn hK had hm hv hbl hPl hR hAll hL hfilt hmc1 hmn hmx hm567
 go_enter_defers Tryz.func18,Tryz.ntmps18
 go_upto_region 2 with fail
 obtain⟨rR,rM,rE,zA,bA⟩:=alloc3A w (.cells cr 53) (.cells cm 55) (.cells #[.int .i64 0] 41)
 generalize World.alloc _ _=wA at rR rM rE zA bA ⊢
 go_upto_region 3 with (first|(refine wl_loadD rfl (.tmp 3) rfl _ rfl cr rR hcs ?_)|(refine wpList_load_row rfl 55 (.tmp 4) rfl _ rfl _ cm (0,0) _ rM Tryz.underlying55 rfl (by rw[hmc];kernel_rfl) ?_)|(go_at_call 35;refine (HBeg.out _ bA).mono ?_;rintro _ w1 ⟨R,rows,rfl,hrd,hmap,hb1⟩))
 have HRd:=Lib.hid hrd
 have hrl:rows.length=n+1:=by
  have h2:=congrArg List.length hmap
  rw[List.length_map,rowsT_length,HPL.out] at h2
  exact h2
 obtain⟨va,vr,vi,hrow,_,hsr,_⟩:=id hrd
 obtain⟨Ar,crr,rfl,hlc,hcr2⟩:=hsr.form
 have c65:=(rd_cells hrow hKl).2.1.2.1
 rw[hrl] at c65 hlc
 have HMP:=Lib.hid (And.intro hmap hrl)
 have hRl:=(Array.getElem?_eq_some_iff.1 hrow).1
 have z1:=hb1.size
 have HKS:Hid (∀W,Below w1.heap.size w1 W→(W.heap[w.heap.size+1]? = some (.cells cm 55 (0,0))∧W.heap[w.heap.size+1+1]? = some (.cells #[.int .i64 0] 41 (0,0)))∧W.cell? ⟨R,65,none⟩=some (.slice Ar (n+1) crr)):=Lib.hid (fun W hW =>
  ⟨⟨((hW.block _ (by omega)).trans (hb1.block _ (by omega))).trans rM,((hW.block _ (by omega)).trans (hb1.block _ (by omega))).trans rE⟩,(hW.cell (p:=⟨R,65,none⟩) hRl).trans c65⟩)
 have bw1:=bstep bA hb1
 have g1:((n+1:Nat):Int)-1=(n:Int):=by omega
 have g1':(n:Int)+1-1=(n:Int):=by omega
 have g1w:IntKind.i64.wrap (n:Int)=(n:Int):=by rw[IntKind.wrap_i64];omega
 clear hmap hsr hrow hrd rR rM rE hrl HBeg
 go_upto_region 4 with fail
 have HWh:Hid (∀W,Below w1.heap.size w1 W→Calls Tryz.prog 37 #[.pointer (some ⟨R,0,none⟩),.int .i64 (n:Int),.int .i64 1] W fun e w'=>∃r,e=.returned r∧OB w' W.heap.size r filt∧Below W.heap.size W w'):=Lib.hid (fun W hW=>by
  have hlt:n<rows.length:=by rw[HMP.out.2];omega
  obtain⟨hT,_,h2⟩:=rw_at HMP.out.1 n hlt
  have h3:=rowsT_last Ps (tabF K ad filt)
  simp only[HPL.out] at h3
  rw[h3] at h2
  have hbw:=bw1.trans (hW.mono bw1.size)
  exact kWhole_any R n 1 K ad filt rows W (HRd.out.on hW) hKl hlt h2 (by omega) (by rw[HALL.out.2.2.1,List.length_append];simp only[List.length_cons,List.length_nil];omega) (by omega) (hk.on hbw h1) (by have:=hbw.size;omega))
 clear c65 g1 g1' g1w
 go_upto_region 5 with (go_at_call 37;refine (HWh.out _ (bself _)).mono ?_;rintro _ w2 ⟨r2,rfl,ho2,hb2⟩)
 clear ho2 HWh
 go_wp2_with fail
 go_loopw [10,26] (fun s10 s26 wr=>∃(i:Nat) (A:Option Addr) (m c:Nat) (D:List Ent),s26=.int .i64 (i:Int)∧s10=.slice A m c∧i≤n∧Hid (m=D.length∧D=(RF.take i).flatMap (·.2)∧OE wr w1.heap.size (.slice A m c) D)∧Below w1.heap.size w1 wr) (fun _ s26 _=>n-(intOf s26).toNat)
 case atStart=>exact⟨0,none,0,0,[],rfl,rfl,by omega,Lib.hid ⟨rfl,rfl,OE.nil_ _ _⟩,hb2⟩
 case round =>
  obtain⟨i,A,m,c,D,rfl,rfl,hi,HD,hbr⟩:=hrel
  clear hb2
  by_cases hin:i<n
  ·have hii:(i:Int)<(n:Int):=by omega
   have hkR:i<RF.length:=by rw[←HALL.out.2.2.2.1];exact hin
   obtain⟨hr1,hr2,hr3,_⟩:=HALL.out.2.1 _ (List.getElem_mem hkR)
   have hDl:D.length≤1000:=by
    have e1:=HALL.out.2.2.2.2.1
    have e2:=HD.out.2.1
    rw[←List.take_append_drop i RF,List.flatMap_append,←e2] at e1
    have:=congrArg List.length e1
    rw[List.length_append] at this
    omega
   have HEnt:Hid (Calls Tryz.prog 40 #[.pointer (some ⟨R,0,none⟩),.int .i64 (i:Int)] wr fun e w'=>∃r,e=.returned r∧OE w' wr.heap.size r RF[i].2∧Below wr.heap.size wr w'):=Lib.hid (by
    have hkr:i<rows.length:=by have:=HMP.out.2;omega
    have hjn:i<Ps.length:=by have:=HPL.out;omega
    obtain⟨hT,_,h2⟩:=rw_at HMP.out.1 i hkr
    have e:=HALL.out.1 i hkR
    rw[List.getElem?_eq_getElem hjn] at e
    injection e with e
    rw[rowsT_lt Ps _ i hjn,e] at h2
    have hsz:=blockB_le ev RF[i].2
    exact kEntries_any R i ev K ad RF[i].2 rows wr (HRd.out.on hbr) hKl hkr h2 (read_is hev.1 hev.2 hr1 (by omega)) (by omega) (by omega) (by omega) (hk.on (bstep bw1 hbr) h1) (by have:=(bstep bw1 hbr).size;omega))
   obtain⟨L2,hL2⟩:∃L2,L2=RF[i].2:=⟨_,rfl⟩
   rw[←hL2] at HEnt hr2
   have HL2:=Lib.hid hL2
   have HDL:=Lib.hid (And.intro hDl hr2)
   have hz1r:w1.heap.size≤wr.heap.size:=hbr.size
   clear hL2 hr1 hr2 hr3 hDl
   go_upto_region 10 with (first|(go_at_call 40;refine HEnt.out.mono ?_;rintro _ w5 ⟨v5,rfl,ho5,hb5⟩;obtain⟨A5,c5,rfl,q1,q2,q3⟩:=ho5.se;clear q1 q2 q3;obtain⟨l5,hl5⟩:∃l5,l5=L2.length:=⟨_,rfl⟩;rw[←hl5] at ho5 ⊢;clear hl5;have H5:=Lib.hid (And.intro ho5 hb5);have hz5:w1.heap.size≤w5.heap.size:=(by have:=hb5.size;omega);clear ho5 hb5)|(at_builtin;refine wl_appEs rfl (.tmp 29) (.tmp 32) rfl w1.heap.size (.slice A m c) D rfl (HD.out.2.2.below H5.out.2 (Nat.le_refl _)) w5.heap.size (.slice A5 l5 c5) L2 rfl H5.out.1.se (by have:=HDL.out;simp only[maxLen];omega) (Fits.of _ _ _ (by have:=HDL.out;omega)) hz5 ?_;intro v6 w6 ho6 hg6 hf6 hb6;obtain⟨A6,c6,rfl,q1,q2,q3⟩:=ho6.se;clear q1 q2 q3;obtain⟨m6,hm6⟩:∃m6,m6=(D++L2).length:=⟨_,rfl⟩;rw[←hm6] at ho6 hf6 ⊢;have H6:=Lib.hid (And.intro hm6 (And.intro ho6 hb6));clear hm6 ho6 hg6 hf6 hb6))
   go_wp2_with fail
   go_roundw
   case rel =>
    obtain⟨hm6,ho6,hb6⟩:=H6.out
    exact⟨i+1,A6,m6,c6,D++L2,by go_num,rfl,by omega,Lib.hid ⟨hm6,by rw[List.take_succ_eq_append_getElem hkR,List.flatMap_append,←HD.out.2.1,HL2.out];simp,ho6⟩,(bstep hbr H5.out.2).trans hb6⟩
   case measure=>simp[intOf];omega
  ·have hii:¬(i:Int)<(n:Int):=by omega
   have hDl:D=l:=by rw[HD.out.2.1,List.take_of_length_le (by rw[←HALL.out.2.2.2.1];omega)];exact HALL.out.2.2.2.2.1
   subst hDl
   obtain⟨hml,_,hoD⟩:=HD.out
   subst hml
   have HO:=Lib.hid hoD
   go_upto_region 11 with fail
   obtain⟨b,o,k',e',hb,hrg⟩:=SG.at_ (f:=entC) (c:=4) (show SG entC 4 wr wr.heap.size (.slice A D.length c) D from hoD.se) entC_length hne
   injection e' with e1 e2 e3
   subst e1
   clear e2 e3
   have c0:wr.cell? ⟨b,o,none⟩=some (.string (D.getD 0 ent0).user):=by
    have h5:=hrg 0 hne 0 (.string D[0].user) rfl
    rw[show D.getD 0 ent0=D[0] by rw[List.getD_eq_getElem?_getD,List.getElem?_eq_getElem hne];rfl]
    simpa using h5
   have c9:wr.cell? ⟨b,o+(D.length-1)*4,none⟩=some (.string (D.getD (D.length-1) ent0).user):=by
    have h5:=hrg (D.length-1) (by omega) 0 (.string D[D.length-1].user) rfl
    rw[show D.getD (D.length-1) ent0=D[D.length-1] by rw[List.getD_eq_getElem?_getD,List.getElem?_eq_getElem (show D.length-1<D.length by omega)];rfl]
    simpa using h5
   obtain⟨u0,hu0⟩:∃u,u=(D.getD 0 ent0).user:=⟨_,rfl⟩
   obtain⟨u9,hu9⟩:∃u,u=(D.getD (D.length-1) ent0).user:=⟨_,rfl⟩
   obtain⟨cm5,cm6,cm7⟩:=HALL.out.2.2.2.2.2.1
   rw[←hu0] at c0 cm6
   rw[←hu9] at c9 cm7
   obtain⟨q,hq⟩:∃q,D.length=q+1:=⟨D.length-1,by omega⟩
   rw[hq,Nat.add_sub_cancel] at c9
   rw[hq] at cm5 HO ⊢
   have HRis:Hid (∀W,Below wr.heap.size wr W→Calls Tryz.prog 7 #[.slice (some ⟨b,o,none⟩) (q+1) c] W fun e w'=>e=.returned (.bool true)∧Below W.heap.size W w'):=Lib.hid (fun W hW=>by
    have h5:=iRises_any _ D W (HO.out.se.on hW) (by omega)
    rw[HALL.out.2.2.2.2.2.2] at h5
    exact h5)
   have KS:Hid (∀W,Below wr.heap.size wr W→True∧W.cell? ⟨w.heap.size+1,5,none⟩=some (.int .i64 ((q:Int)+1))∧W.cell? ⟨w.heap.size+1,6,none⟩=some (.string u0)∧W.cell? ⟨w.heap.size+1,7,none⟩=some (.string u9)∧W.cell? ⟨b,o,none⟩=some (.string u0)∧W.cell? ⟨b,o+q*4,none⟩=some (.string u9)):=Lib.hid (fun W hW=>by
    obtain⟨⟨rM,_⟩,_⟩:=HKS.out W (bstep hbr hW)
    exact⟨trivial,(cell_of_row _ _ 5 _ _ _ rM).trans cm5,(cell_of_row _ _ 6 _ _ _ rM).trans cm6,(cell_of_row _ _ 7 _ _ _ rM).trans cm7,(hW.cell hb).trans c0,(hW.cell hb).trans c9⟩)
   have HNd:=Lib.hid kNeed_true
   have HQ:=Lib.hid hq
   have hq0:(0:Int)≤(q:Int)+1:=by omega
   have hq1:((q:Int)+1==0)=false:=by rw[beq_eq_false_iff_ne];omega
   have hqq:(q:Int)<(q:Int)+1:=by omega
   have gqs:(q:Int)+1-1=(q:Int):=by omega
   have gqw:IntKind.i64.wrap (q:Int)=(q:Int):=IntWalk.i64_in _ (by have:=HQ.out;omega)
   clear cm5 cm6 cm7 c0 c9 hrg hq hu0 hu9 hoD
   refine wp_region_noPanic ?_
   refine wp_region_held_drew (S:=fun W=>True∧W.cell? ⟨w.heap.size+1,5,none⟩=some (.int .i64 ((q:Int)+1))∧W.cell? ⟨w.heap.size+1,6,none⟩=some (.string u0)∧W.cell? ⟨w.heap.size+1,7,none⟩=some (.string u9)∧W.cell? ⟨b,o,none⟩=some (.string u0)∧W.cell? ⟨b,o+q*4,none⟩=some (.string u9)) (by kernel_rfl) (KS.out _ (bdrew (bself wr))) (fun hHeld=>?_)
   refine rtk 0 ?_
   refine ro 1 (fun K hK=>?_)
   (go_simp;go_at_call 7;refine (HRis.out _ (bdrew (bself wr))).mono ?_;rintro _ w9 ⟨rfl,hb9⟩;have hb9':=bstep (bdrew (bself wr)) hb9;go_wp2_with fail)
   refine hK.out _ _ ?_ (fun hHeld=>?_)
   ·exact KS.out _ hb9'
   clear hK K
   try simp only[Act.put,q1,q2,q3]
   refine rtk 2 ?_
   refine rtk 3 ?_
   refine rtk 4 ?_
   refine rtk 5 ?_
   refine rtk 6 ?_
   refine rtk 7 ?_
   refine rtk 8 ?_
   refine rtk 9 ?_
   refine rtk 10 ?_
   refine rtk 11 ?_
   refine rtk 12 ?_
   refine rtk 13 ?_
   refine rtk 14 ?_
   refine rtk 15 ?_
   refine rtk 16 ?_
   refine rtk 17 ?_
   refine rtk 18 ?_
   refine rtk 19 ?_
   refine rtk 20 ?_
   refine rtk 21 ?_
   refine rtk 22 ?_
   refine rtk 23 ?_
   refine rtk 24 ?_
   refine rtk 25 ?_
   refine rtk 26 ?_
   refine rtk 27 ?_
   refine rtk 28 ?_
   refine rtk 29 ?_
   refine rtk 30 ?_
   refine rtk 31 ?_
   refine rtk 32 ?_
   refine rtk 33 ?_
   refine rtk 34 ?_
   refine ro 35 (fun K hK=>?_)
   (go_simp;go_at_call 62;refine (HNd.out _).mono ?_;rintro _ w10 ⟨rfl,rfl⟩;go_wp2_with fail)
   refine hK.out _ _ ?_ (fun hHeld=>?_)
   ·exact KS.out _ hb9'
   clear hK K
   try simp only[Act.put,q1,q2,q3]
   refine rdn ?_
   clear hHeld
   have HO9:=Lib.hid (HO.out.below hb9' (Nat.le_refl _))
   obtain⟨⟨_,rE9⟩,_⟩:=HKS.out _ (bstep hbr hb9')
   have HE9:=Lib.hid rE9
   have cE9:=cell_of_row _ _ 0 _ _ _ rE9
   have fE9:=fz_row rE9 0
   clear rE9
   go_wp2_with fail
   refine leaves_cons (f:=34) (args:=#[.pointer (some ⟨w.heap.size+1+1,0,none⟩)]) (by simp) (by simp[go_sem]) ?_
   refine (kCaught_idle _ _).mono ?_
   rintro e u' w'' ⟨rfl,rfl,rfl⟩
   have cEf:World.cell? (World.setCell w10 ⟨w.heap.size+1+1,0,none⟩ (.int .i64 0)) ⟨w.heap.size+1+1,0,none⟩=some (.int .i64 0):=set_one HE9.out
   refine⟨.tuple #[.slice (some ⟨b,o,none⟩) (q+1) c,.int .i64 0],results_tc Tryz.results18 _ _ (w.heap.size+1+1) (.int .i64 0) rfl cEf (by kernel_rfl),?_⟩
   refine⟨_,rfl,?_,(bstep bw1 (bstep hbr hb9')).setCell (by show w.heap.size≤w.heap.size+1+1;omega) _⟩
   refine (HO9.out.grown (grown_set w10 rfl _) ?_).rebase (by omega)
   refine .inr fun e6=>?_
   have e7:=(HO9.out.lt _ e6).1
   have e8:w1.heap.size≤w.heap.size+1+1:=e7
   omega
end Go.Proofs.YtchjknbideoieaaGreatDoor
