/- What is proved here: a table's reader in memory; what open, whole and entries of it come to, at this seat's numbers. Conditions: the parts are sealed so; the lengths; the table of constants. a table's index on the way: the reader, its rows, their digests, the row that is filled; what stands after each step. No condition. what begin of package table comes to, where the bytes .. -/
import Derived.Test.YtchjknbideoieaaGreatDoorK16
import Derived.Test.YtchjknbideoieaaGreatDoorK44
import Derived.Test.YtchjknbideoieaaGreatDoorK27
import Derived.Test.YtchjknbideoieaaGreatDoorK08
import Derived.Test.YtchjknbideoieaaGreatDoorK29
import Derived.Test.YtchjknbideoieaaGreatDoorK13
import Derived.Test.YtchjknbideoieaaGreatDoorK38
import Derived.Test.YtchjknbideoieaaGreatDoorK36
import Derived.Deep.DeepCutAuto
import Derived.Deep.CutBlock
namespace Go.Proofs.YtchjknbideoieaaGreatDoor
set_option maxRecDepth 100000
set_option maxHeartbeats 8000000
open Go.RowKit Go.Great
structure Rw where
 bound:List UInt8
 bytes:List UInt8
 v:Value
 leaf:Dg
def rwC (x:Rw):List Value:=[.string ⟨x.bound.toArray⟩,x.v]++bv x.leaf.1
theorem rwC_length (x:Rw):(rwC x).length=34:=by simp[rwC,dbv_len]
theorem infoRw:(Tryz.prog.info? 101).map (fun i=>(i.zero,i.size,i.bytes))=some (some (.agg ([Value.string .empty,Value.slice none 0 0]++bv (List.replicate 32 0)).toArray),34,72):=by kernel_rfl
abbrev rowRd (K:List UInt8) (va vr vi:Value):Obj:=.cells (bv K++[va,vr,vi]).toArray 96 (0,0)
theorem rd_cells {w:World} {P:Nat} {K:List UInt8} {va vo vl:Value} (h:w.heap[P]? = some (rowRd K va vo vl)) (hK:K.length=64) :
  w.rangeAt P 0 (bv K)∧(w.cell? ⟨P,64,none⟩=some va∧w.cell? ⟨P,65,none⟩=some vo∧w.cell? ⟨P,66,none⟩=some vl)∧(∀k,w.frozen? ⟨P,k,none⟩=false) ∧
  (∀v,(w.setCell ⟨P,65,none⟩ v).heap[P]? = some (rowRd K va v vl)):=by
 have hb:(bv K).length=64:=by rw[bv_length,hK]
 have hc:∀k,w.cell? ⟨P,k,none⟩=(bv K++[va,vo,vl])[k]?:=fun k=>by rw[cell_of_row _ _ k _ _ _ h,List.getElem?_toArray]
 refine⟨fun j v hv=>?_,⟨?_,?_,?_⟩,fun k=>by simp[World.frozen?,h],fun v=>?_⟩
 ·have hj:=(List.getElem?_eq_some_iff.1 hv).1
  rw[hc,Nat.zero_add,List.getElem?_append_left hj,hv]
 ·rw[hc,List.getElem?_append_right (by omega),hb];rfl
 ·rw[hc,List.getElem?_append_right (by omega),hb];rfl
 ·rw[hc,List.getElem?_append_right (by omega),hb];rfl
 ·simp only[World.setCell,Array.getElem?_modify,h]
  simp[List.set_append_right,hb]
theorem kOpenP_any (R part:Nat) (K ad x y:List UInt8) (va vr vi vy:Value) (w:World) (h:w.heap[R]? = some (rowRd K va vr vi)) (hK:K.length=64) (hva:SB w w.heap.size va ad) (hvy:SB w w.heap.size vy y) (hy:y=sealP K ad part x)
  (hla:ad.length≤1000) (hlx:x.length≤1073741824) (hp:part≤1000000000) (hk:KTab w 0) (h1:0<w.heap.size) :
  Calls Tryz.prog 75 #[.pointer (some ⟨R,0,none⟩),.int .i64 (part:Int),vy] w fun e w'=>∃r,e=.returned r∧OB w' w.heap.size r x∧Below w.heap.size w w':=by
 obtain⟨cn,hcn⟩:∃cn,nonA (nonceOf part)=cn:=⟨_,rfl⟩
 obtain⟨kk,hkk⟩:∃kk,(bv K).toArray=kk:=⟨_,rfl⟩
 have hK1:(K.take 32).length=32:=by rw[List.length_take];omega
 have hK2:(K.drop 32).length=32:=by rw[List.length_drop];omega
 obtain⟨Ay,cy,rfl,_,_,_⟩:=id hvy
 obtain⟨Aa,ca,rfl,_,_,_⟩:=id hva
 have hlt:R<w.heap.size:=(Array.getElem?_eq_some_iff.1 h).1
 have gp:IntKind.u64.wrap (part:Int)=(part:Int):=by rw[IntKind.wrap_u64];omega
 have HN:Hid (∀W,Calls Tryz.prog 94 #[.int .u64 (part:Int)] W fun e w'=>e=.returned (.agg cn)∧Below W.heap.size W w'):=Lib.hid (fun W=>kNonceC part (by omega) cn hcn W)
 have HS:Hid (∀W,Below w.heap.size w W→Calls Tryz.prog 100 #[.agg kk,.agg cn,.slice Aa ad.length ca,.slice Ay y.length cy] W fun e w'=>∃r,e=.returned (.tuple #[r,.int .i64 0])∧OB w' W.heap.size r x∧Below W.heap.size W w'):=Lib.hid (fun W hW=>by
  have zW:=hW.size
  exact kOpen_any (K.take 32) (K.drop 32) (nonceOf part) ad x y hK1 hK2 (nonce_len part) kk cn (by rw[List.take_append_drop];exact hkk) hcn hy _ _ W (hva.on hW) (hvy.on hW) (by omega) (by omega) (hk.on hW (by omega)) (by omega))
 have KS:Hid (∀W,Below w.heap.size w W→W.rangeAt R 0 (bv K)∧W.cell? ⟨R,64,none⟩=some (.slice Aa ad.length ca)):=Lib.hid (fun W hW=>by
  have hr:=rd_cells ((hW.block R hlt).trans h) hK
  exact⟨hr.1,hr.2.1.1⟩)
 have HNd:=Lib.hid kNeed_true
 clear h hy
 go_enter Tryz.func75,Tryz.ntmps75
 go_upto_region 1 with fail
 refine wp_region_noPanic ?_
 refine wp_region_held_drew (S:=fun w'=>True∧(w'.rangeAt R 0 (bv K)∧w'.cell? ⟨R,64,none⟩=some (.slice Aa ad.length ca))) (by kernel_rfl) ⟨trivial,KS.out _ (bdrew (bself w))⟩ (fun hHeld=>?_)
 refine rtk 0 ?_
 refine rtk 1 ?_
 refine rtk 2 ?_
 refine reg_take 3 (v:=.agg (bv K).toArray) (by rfl) (by kernel_rfl) (by kernel_rfl) (by kernel_rfl) (fun _ _ _ h=>h) (by rfl) ?_ (by assumption) ?_
 ·(intro wq hSq;exact exec_loadKeyM (.tmp 12) rfl R 0 rfl K hK hSq.2.1)
 try simp only[Act.put,q1,q2,q3]
 rw[hkk]
 refine rtk 4 ?_
 refine rtk 5 ?_
 refine rtk 7 ?_
 refine rtk 8 ?_
 refine rtk 9 ?_
 refine rtk 10 ?_
 refine rtk 11 ?_
 refine ro 6 (fun K hK=>?_)
 (go_simp;go_at_call 94;refine (HN.out _).mono ?_;rintro _ w1 ⟨rfl,hb1⟩;have b1:=bstep (bdrew (bself w)) hb1;go_wp2_with fail)
 refine hK.out _ _ ?_ (fun hHeld=>?_)
 ·exact⟨trivial,KS.out _ b1⟩
 clear hK K
 try simp only[Act.put,q1,q2,q3]
 refine ro 12 (fun K hK=>?_)
 (go_simp;go_at_call 100;refine (HS.out _ b1).mono ?_;rintro _ w2 ⟨r7,rfl,ho7,hb2⟩;have b2:=bstep b1 hb2;go_wp2_with fail)
 refine hK.out _ _ ?_ (fun hHeld=>?_)
 ·exact⟨trivial,KS.out _ b2⟩
 clear hK K
 try simp only[Act.put,q1,q2,q3]
 refine rtk 13 ?_
 refine rtk 14 ?_
 refine rtk 15 ?_
 refine rtk 16 ?_
 refine rtk 17 ?_
 refine rdn ?_
 have hw1:=b1.size
 clear HN HS KS hHeld
 go_wp2_with (go_at_call 62;refine (HNd.out _).mono ?_;rintro _ w3 ⟨rfl,rfl⟩)
 go_ret
 exact⟨_,rfl,ho7.rebase hw1,b2⟩
def RdT (w:World) (R:Nat) (K ad:List UInt8) (rows:List Rw):Prop :=
 ∃va vr vi,w.heap[R]? = some (rowRd K va vr vi)∧SB w w.heap.size va ad∧SG rwC 34 w w.heap.size vr rows∧∀x∈rows,SB w w.heap.size x.v x.bytes∧x.leaf=leafD x.bytes
theorem RdT.on {w w':World} {R:Nat} {K ad:List UInt8} {rows:List Rw} (h:RdT w R K ad rows) (hb:Below w.heap.size w w'):RdT w' R K ad rows:=by
 obtain⟨va,vr,vi,h1,h2,h3,h4⟩:=h
 exact⟨va,vr,vi,(hb.block R (Array.getElem?_eq_some_iff.1 h1).1).trans h1,h2.on hb,h3.on hb,fun x hx=>⟨(h4 x hx).1.on hb,(h4 x hx).2⟩⟩
theorem rw_cells {w:World} {g:Nat} {x:Rw} {xc:Array Value} (h:w.heap[g]? = some (.cells xc 101 (0,0))) (hx:(rwC x).toArray=xc):w.cell? ⟨g,0,none⟩=some (.string ⟨x.bound.toArray⟩)∧w.cell? ⟨g,1,none⟩=some x.v∧w.rangeAt g 2 (bv x.leaf.1):=by
 subst hx
 refine⟨cell_of_row _ _ 0 _ _ _ h,cell_of_row _ _ 1 _ _ _ h,fun j v hv=>?_⟩
 rw[cell_of_row _ _ (2+j) _ _ _ h,List.getElem?_toArray]
 unfold rwC
 rw[List.getElem?_append_right (by simp),←hv]
 congr 1
 simp
theorem SB.oneCell {w:World} {B:Nat} {v:Value} {l:List UInt8} (h:SB w B v l):v.oneCell'=true:=by
 obtain⟨A,c,rfl,_⟩:=h
 rfl
theorem kWhole_any (R at_ part:Nat) (K ad x:List UInt8) (rows:List Rw) (w:World) (h:RdT w R K ad rows) (hK:K.length=64) (hat:at_<rows.length) (hy:rows[at_].bytes=sealP K ad part x)
  (hla:ad.length≤1000) (hlx:x.length≤1073741824) (hp:part≤1000000000) (hk:KTab w 0) (h1:0<w.heap.size) :
  Calls Tryz.prog 37 #[.pointer (some ⟨R,0,none⟩),.int .i64 (at_:Int),.int .i64 (part:Int)] w fun e w'=>∃r,e=.returned r∧OB w' w.heap.size r x∧Below w.heap.size w w':=by
 obtain⟨va,vr,vi,hrow,hva,hsr,hall⟩:=h
 obtain⟨y,hyx⟩:∃y,y=rows[at_]:=⟨_,rfl⟩
 obtain⟨hyv,hyl⟩:=hall rows[at_] (List.getElem_mem hat)
 obtain⟨b,o,cr,rfl,hbB,hrg⟩:=hsr.at_ rwC_length (by omega)
 have hr:=hrg at_ hat
 rw[←hyx] at hr hyv hyl hy
 obtain⟨n,hn⟩:∃n,n=rows.length:=⟨_,rfl⟩
 rw[←hn] at hsr hrow
 have hatn:(at_:Int)<(n:Int):=by omega
 have hylen:y.bytes.length=x.length+16:=by rw[hy];exact sealP_length _ _ _ _
 obtain⟨xc,hxc⟩:∃xc,(rwC y).toArray=xc:=⟨_,rfl⟩
 obtain⟨c,hc⟩:∃c,dgA (leafD y.bytes).1=c:=⟨_,rfl⟩
 have HX:Hid (xc.size=34∧∀v∈xc.toList,v.oneCell'=true):=Lib.hid (by
  rw[←hxc]
  refine⟨by simp[rwC_length],fun v hv=>?_⟩
  rcases List.mem_append.1 hv with h|h
  ·simp only[List.mem_cons,List.not_mem_nil,or_false] at h
   rcases h with h|h
   ·rw[h];rfl
   ·rw[h];exact hyv.oneCell
  ·exact bv_one _ v h)
 have hR:=(rd_cells hrow hK).2.1.2.1
 have hlt:R<w.heap.size:=(Array.getElem?_eq_some_iff.1 hrow).1
 have HRow:=Lib.hid hrow
 have HEq:Hid (∀w',(Op.equalIn 10000 53 (.agg c) (.agg c)).run Tryz.prog w'=.ok true w'):=Lib.hid (fun w'=>run_eqC w' c _ (leafD y.bytes).2 hc)
 have HLf:Hid (∀W,Below w.heap.size w W→Calls Tryz.prog 80 #[y.v] W fun e w'=>e=.returned (.agg c)∧Below W.heap.size W w'):=Lib.hid (fun W hW=>kLeaf_any y.bytes c hc _ W (hyv.on hW) (by omega) (hk.on hW h1) (by have:=hW.size;omega))
 have HOp:Hid (∀W,Below w.heap.size w W→Calls Tryz.prog 75 #[.pointer (some ⟨R,0,none⟩),.int .i64 (part:Int),y.v] W fun e w'=>∃r,e=.returned r∧OB w' W.heap.size r x∧Below W.heap.size W w'):=Lib.hid (fun W hW =>
  kOpenP_any R part K ad x _ _ _ _ _ W ((hW.block R hlt).trans HRow.out) hK (hva.on hW) (hyv.on hW) hy hla hlx hp (hk.on hW h1) (by have:=hW.size;omega))
 obtain⟨Av,cv,hyvf,_,_,_⟩:=id hyv
 have HLc:Hid ((bv y.leaf.1).toArray=c):=Lib.hid (by rw[hyl];exact hc)
 have HXC:=Lib.hid hxc
 have hr2:w.rangeAt b (o+at_*34) (rwC y):=hr
 have HNd:=Lib.hid kNeed_true
 obtain⟨yb,hyb⟩:∃yb,yb=y.bytes.length:=⟨_,rfl⟩
 have HYF:Hid (y.v=.slice Av yb cv):=Lib.hid (by rw[hyb];exact hyvf)
 clear hrow hva hsr hall hyx hyv hyl hy hn hxc hc hrg hr hylen hyvf hyb
 go_enter Tryz.func37,Tryz.ntmps37
 go_upto_region 2 with (first|(refine wpList_load_mid rfl 101 (.tmp 13) rfl b (o+at_*34) rfl (rwC y) _ hr2 Tryz.underlying101 rfl (by rw[rwC_length];kernel_rfl) ?_;rw[HXC.out])|(refine wl_storeT 101 (n:=34) (by kernel_rfl) rfl (.tmp 7) (.tmp 14) rfl _ rfl _ xc rfl (heap_alloc_new _ (.cells ([Value.string .empty,Value.slice none 0 0]++bv (List.replicate 32 0)).toArray 101)) (by rfl) HX.out.1 HX.out.2 ?_))
 simp only[Act.put]
 generalize hW1:World.setRow _ _ _=w1
 have hX1:w1.heap[w.heap.size]? = some (.cells xc 101 (0,0)):=by rw[←hW1];exact setRow_heap _ _ _ _ _ _ (heap_alloc_new _ _)
 have b1:Below w.heap.size w w1:=by rw[←hW1];exact below_setRow (balloc (bself w) _) (Nat.le_refl _) _
 have z1:w.heap.size<w1.heap.size:=(Array.getElem?_eq_some_iff.1 hX1).1
 have KS:Hid (∀W,Below w1.heap.size w1 W→W.cell? ⟨w.heap.size,1,none⟩=some (.slice Av yb cv)∧W.rangeAt w.heap.size 2 (bv y.leaf.1)):=Lib.hid (fun W hW=>by
  obtain⟨_,k1,k2⟩:=rw_cells ((hW.block _ z1).trans hX1) HXC.out
  exact⟨by rw[k1,HYF.out],k2⟩)
 have HLc2:=HLc.out
 rw[HYF.out] at HLf HOp
 clear hW1 hX1 hr2 hR
 refine wp_region_noPanic ?_
 refine wp_region_held_drew (S:=fun w'=>True∧w'.cell? ⟨w.heap.size,1,none⟩=some (.slice Av yb cv)∧w'.rangeAt w.heap.size 2 (bv y.leaf.1)) (by kernel_rfl) ⟨trivial,KS.out _ (bdrew (bself w1))⟩ (fun hHeld=>?_)
 refine rtk 0 ?_
 refine rtk 1 ?_
 refine rtk 3 ?_
 refine reg_take 4 (v:=.agg (dgA y.leaf.1)) (by rfl) (by kernel_rfl) (by kernel_rfl) (by kernel_rfl) (fun _ _ _ h=>h) (by rfl) ?_ (by assumption) ?_
 ·(intro wq hSq;exact exec_loadM (.tmp 18) rfl _ 2 rfl y.leaf hSq.2.2)
 try simp only[Act.put,q1,q2,q3]
 rw[show dgA y.leaf.1=c from HLc2]
 refine ro 2 (fun K hK=>?_)
 (go_simp;go_at_call 80;refine (HLf.out _ (b1.trans ((bdrew (bself w1)).mono (by omega)))).mono ?_;rintro _ w2 ⟨rfl,hb2⟩;have b2:=bstep (bdrew (bself w1)) hb2;go_wp2_with fail)
 refine hK.out _ _ ?_ (fun hHeld=>?_)
 ·exact⟨trivial,KS.out _ b2⟩
 clear hK K
 try simp only[Act.put,q1,q2,q3]
 have hEq:=HEq.out
 refine rtk 5 ?_
 refine ro 6 (fun K hK=>?_)
 (go_simp;go_at_call 62;refine (HNd.out _).mono ?_;rintro _ w3 ⟨rfl,rfl⟩;go_wp2_with fail)
 refine hK.out _ _ ?_ (fun hHeld=>?_)
 ·exact⟨trivial,KS.out _ b2⟩
 clear hK K
 try simp only[Act.put,q1,q2,q3]
 refine rdn ?_
 have c1:=(KS.out _ b2).1
 have bb2:Below w.heap.size w _:=b1.trans (b2.mono (by omega))
 clear hEq hHeld KS HLf HLc2
 go_wp2_with (go_at_call 75;refine (HOp.out _ bb2).mono ?_;rintro _ w4 ⟨r4,rfl,ho4,hb4⟩)
 go_ret
 exact⟨_,rfl,ho4.rebase bb2.size,bstep bb2 hb4⟩
theorem kEntries_any (R at_ ev:Nat) (K ad:List UInt8) (l:List Ent) (rows:List Rw) (w:World) (h:RdT w R K ad rows) (hK:K.length=64) (hat:at_<rows.length) (hy:rows[at_].bytes=sealP K ad (2+at_) (blockB ev l)) (hr:readB (blockB ev l)=(l,0))
  (hla:ad.length≤1000) (hlx:(blockB ev l).length≤1073741824) (hp:at_≤900000000) (hk:KTab w 0) (h1:0<w.heap.size) :
  Calls Tryz.prog 40 #[.pointer (some ⟨R,0,none⟩),.int .i64 (at_:Int)] w fun e w'=>∃r,e=.returned r∧OE w' w.heap.size r l∧Below w.heap.size w w':=by
 have HW:Hid (Calls Tryz.prog 37 #[.pointer (some ⟨R,0,none⟩),.int .i64 (at_:Int),.int .i64 (2+(at_:Int))] w fun e w'=>∃r,e=.returned r∧OB w' w.heap.size r (blockB ev l)∧Below w.heap.size w w'):=Lib.hid (by
  have:=kWhole_any R at_ (2+at_) K ad (blockB ev l) rows w h hK hat hy hla hlx (by omega) hk h1
  rw[show ((2+at_:Nat):Int)=2+(at_:Int) by omega] at this
  exact this)
 have HR:Hid (∀(v:Value) W,SB W W.heap.size v (blockB ev l)→Calls Tryz.prog 83 #[v] W fun e w'=>∃r,e=.returned (.tuple #[r,.int .i64 0])∧OE w' W.heap.size r l∧Below W.heap.size W w'):=Lib.hid (fun v W hv=>by
  refine (kRead_any v _ W hv hlx).mono ?_
  intro e w' he
  rw[hr] at he
  exact he)
 have g1:IntKind.i64.wrap (2+(at_:Int))=2+(at_:Int):=IntWalk.i64_in _ (by omega)
 have HNd:=Lib.hid kNeed_true
 clear h hy hr hat
 go_enter Tryz.func40,Tryz.ntmps40
 go_wp2_with (first|(go_at_call 37;refine HW.out.mono ?_;rintro _ w1 ⟨r1,rfl,ho1,hb1⟩)|(go_at_call 83;refine (HR.out _ _ ho1.sb).mono ?_;rintro _ w2 ⟨r2,rfl,ho2,hb2⟩)|(go_at_call 62;refine (HNd.out _).mono ?_;rintro _ w3 ⟨rfl,rfl⟩))
 go_ret
 exact⟨_,rfl,own_base ho2 hb1.size,bstep hb1 hb2⟩
end Go.Proofs.YtchjknbideoieaaGreatDoor
namespace Go.Proofs.YtchjknbideoieaaGreatDoor
set_option maxRecDepth 100000
set_option maxHeartbeats 8000000
open Go.RowKit Go.Great
structure BgAt (wr:World) (base R RI:Nat) (K:List UInt8) (va vi vr vl:Value) (rows:List Rw) (txt:List UInt8):Prop where
 row:wr.heap[R]? = some (rowRd K va vr vi)
 orow:OG 101 rwC 34 wr base vr rows
 olv:OD wr base vl (rows.map (·.leaf))
 rdr:RdrAt wr RI txt 0
 lo:R<RI
 hi:RI<base
 ap:Ap vr vl
section
variable {wr w':World} {base R RI:Nat} {K:List UInt8} {va vi vr vl:Value} {rows:List Rw} {txt txt':List UInt8}
theorem BgAt.on (h:BgAt wr base R RI K va vi vr vl rows txt) (hb:Below wr.heap.size wr w'):BgAt w' base R RI K va vi vr vl rows txt :=
 ⟨(hb.block R (Array.getElem?_eq_some_iff.1 h.row).1).trans h.row,h.orow.below hb (Nat.le_refl _),h.olv.below hb (Nat.le_refl _),h.rdr.on hb (Nat.le_refl _),h.lo,h.hi,h.ap⟩
theorem BgAt.step (h:BgAt wr base R RI K va vi vr vl rows txt) (hg:wr.grownBy w' (some RI)) (hr:RdrAt w' RI txt' 0):BgAt w' base R RI K va vi vr vl rows txt' :=
 ⟨(hg.block R (Array.getElem?_eq_some_iff.1 h.row).1 (fun e=>by injection e with e;have:=h.lo;omega)).trans h.row,
  h.orow.grown hg (by rcases hv:vr.ownBlock with _|g;exact .inl rfl;exact .inr (fun e=>by injection e with e;have:=(h.orow.lt g hv).1;have:=h.hi;omega)),
  h.olv.grown hg (by rcases hv:vl.ownBlock with _|g;exact .inl rfl;exact .inr (fun e=>by injection e with e;have:=(h.olv.lt g hv).1;have:=h.hi;omega)),hr,h.lo,h.hi,h.ap⟩
theorem BgAt.far (h:BgAt wr base R RI K va vi vr vl rows txt) {X:Nat} (hg:wr.grownBy w' (some X)) (hX:base≤X) (h1:vr.ownBlock≠some X) (h2:vl.ownBlock≠some X):BgAt w' base R RI K va vi vr vl rows txt :=
 ⟨(hg.block R (Array.getElem?_eq_some_iff.1 h.row).1 (fun e=>by injection e with e;have:=h.lo;have:=h.hi;omega)).trans h.row,
  h.orow.grown hg (.inr h1),h.olv.grown hg (.inr h2),h.rdr.far hg (fun g e=>by injection e with e;rw[←e];have:=h.hi;omega),h.lo,h.hi,h.ap⟩
end
theorem RdrAt.setOther {w:World} {R bad:Nat} {rest:List UInt8} (h:RdrAt w R rest bad) {p:Addr} (hp:p.block≠R) (hn:∀b:UInt8,w.cell? p≠some (u8v b)) (v:Value):RdrAt (w.setCell p v) R rest bad:=by
 obtain⟨A,c,h1,h2,h3,h4,h5,h6⟩:=h
 refine⟨A,c,(Below.heap_setCell _ _ _ _ (fun e=>hp e.symm)).trans h1,h2,h3,h4,h5,fun ad e hn0=>?_⟩
 obtain⟨hs,hb,hc⟩:=h6 ad e hn0
 refine⟨hs,hb,fun j u hu=>?_⟩
 have hcj:=hc j u hu
 rw[World.cell?_setCell_other w p ⟨ad.block,ad.off+j,none⟩ v (fun e2=>?_)]
 ·exact hcj
 ·rw[←e2] at hcj
  obtain⟨b,_,rfl⟩:=List.mem_map.1 (List.mem_of_getElem? hu)
  exact hn b hcj
theorem BgAt.push {wr w7:World} {base R RI:Nat} {K:List UInt8} {va vi vr vl vr':Value} {rows:List Rw} {txt:List UInt8} {x:Rw} (h:BgAt wr base R RI K va vi vr vl rows txt) (hK:K.length=64)
  (ho:OG 101 rwC 34 w7 base vr' (rows++[x])) (hg:wr.grownBy w7 vr.ownBlock) (hfs:FS wr.heap.size vr vr') :
  (w7.setCell ⟨R,65,none⟩ vr').heap[R]? = some (rowRd K va vr' vi)∧OG 101 rwC 34 (w7.setCell ⟨R,65,none⟩ vr') base vr' (rows++[x])∧OD (w7.setCell ⟨R,65,none⟩ vr') base vl (rows.map (·.leaf))∧RdrAt (w7.setCell ⟨R,65,none⟩ vr') RI txt 0∧Ap vr' vl:=by
 have hlt:=(Array.getElem?_eq_some_iff.1 h.row).1
 have hlo:=h.lo
 have hhi:=h.hi
 have hnR:vr.ownBlock≠some R:=fun e=>by have:=(h.orow.lt R e).1;omega
 have hnL:vl.ownBlock≠some R:=fun e=>by have:=(h.olv.lt R e).1;omega
 have hr7:w7.heap[R]? = some (rowRd K va vr vi):=(hg.block R hlt (fun e=>hnR e.symm)).trans h.row
 have gs:=grown_set (p:=⟨R,65,none⟩) w7 (g:=R) rfl vr'
 have hrd7:RdrAt w7 RI txt 0:=h.rdr.far hg (fun g e=>by have:=(h.orow.lt g e).1;omega)
 refine⟨(rd_cells hr7 hK).2.2.2 vr',ho.grown gs (.inr (hfs.ne hnR hlt)),(h.olv.grown hg h.ap.symm).grown gs (.inr hnL),hrd7.setOther (by show R≠RI;omega) (fun b e=>?_) _,h.ap.left (fun k hk=>(h.olv.lt k hk).2) hfs⟩
 have hc:=(rd_cells hr7 hK).2.1.2.1
 rw[hc] at e
 have hv:=Sl.of_own h.orow
 obtain⟨A,c,rfl,_⟩:=hv
 cases e
theorem BgAt.leaf {w w':World} {base R RI:Nat} {K:List UInt8} {va vi vr vl vl':Value} {rows:List Rw} {txt:List UInt8} {lvs lvs':List Dg} (hrow:w.heap[R]? = some (rowRd K va vr vi)) (ho:OG 101 rwC 34 w base vr rows) (hl:OD w base vl lvs) (hr:RdrAt w RI txt 0) (ap:Ap vr vl)
  (lo:R<RI) (hi:RI<base) (ho2:OD w' base vl' lvs') (hg:w.grownBy w' vl.ownBlock) (hfs:FS w.heap.size vl vl') (hm:lvs'=rows.map (·.leaf)):BgAt w' base R RI K va vi vr vl' rows txt :=
 ⟨(hg.block R (Array.getElem?_eq_some_iff.1 hrow).1 (fun e=>by have:=(hl.lt R e.symm).1;omega)).trans hrow,ho.grown hg ap,by rw[←hm];exact ho2,hr.far hg (fun g e=>by have:=(hl.lt g e).1;omega),lo,hi,ap.right (fun k hk=>(ho.lt k hk).2) hfs⟩
theorem rw_one {x:Rw} (h:x.v.oneCell'=true):∀u∈rwC x,u.oneCell'=true:=by
 intro u hu
 rcases List.mem_append.1 hu with h1|h1
 ·simp only[List.mem_cons,List.not_mem_nil,or_false] at h1
  rcases h1 with h1|h1
  ·rw[h1];rfl
  ·rw[h1];exact h
 ·exact bv_one _ u h1
theorem BgAt.rowKeep {w w':World} {base R RI:Nat} {K:List UInt8} {va vi vr vl:Value} {rows:List Rw} {txt:List UInt8} (h:BgAt w base R RI K va vi vr vl rows txt) (hg:w.grownBy w' vr.ownBlock):w'.heap[R]? = some (rowRd K va vr vi) :=
 (hg.block R (Array.getElem?_eq_some_iff.1 h.row).1 (fun e=>by have:=(h.orow.lt R e.symm).1;have:=h.lo;have:=h.hi;omega)).trans h.row
theorem BgAt.belowPush {w0 w w':World} {B base R RI:Nat} {K:List UInt8} {va vi vr vl v:Value} {rows:List Rw} {txt:List UInt8} (h:BgAt w base R RI K va vi vr vl rows txt) (hb:Below B w0 w) (hg:w.grownBy w' vr.ownBlock) (hB:B≤R) (hz:B≤w.heap.size):Below B w0 (w'.setCell ⟨R,65,none⟩ v) :=
 (below_grown hb hg hz (fun g e=>by have:=(h.orow.lt g e).1;have:=h.lo;have:=h.hi;omega)).setCell (by exact hB) _
abbrev rowRw (s:ByteArray) (u:Value) (l:List UInt8):Obj:=.cells ([.string s,u]++bv l).toArray 101 (0,0)
theorem rx_cells {w:World} {X:Nat} {s:ByteArray} {u:Value} {l:List UInt8} (h:w.heap[X]? = some (rowRw s u l)) :
  (w.cell? ⟨X,0,none⟩=some (.string s)∧w.cell? ⟨X,1,none⟩=some u)∧w.rangeAt X 2 (bv l)∧(∀k,w.frozen? ⟨X,k,none⟩=false):=by
 refine⟨⟨cell_of_row _ _ 0 _ _ _ h,cell_of_row _ _ 1 _ _ _ h⟩,fun j v hv=>?_,fun k=>by simp[World.frozen?,h]⟩
 rw[cell_of_row _ _ (2+j) _ _ _ h,List.getElem?_toArray,List.getElem?_append_right (by simp),←hv]
 congr 1
 simp
theorem rx_set {w:World} {X:Nat} {s:ByteArray} {u:Value} {l:List UInt8} (h:w.heap[X]? = some (rowRw s u l)) :
  (∀s',(w.setCell ⟨X,0,none⟩ (.string s')).heap[X]? = some (rowRw s' u l))∧(∀u',(w.setCell ⟨X,1,none⟩ u').heap[X]? = some (rowRw s u' l))∧(∀j b,(w.setCell ⟨X,2+j,none⟩ (u8v b)).heap[X]? = some (rowRw s u (l.set j b))):=by
 refine⟨fun s'=>?_,fun u'=>?_,fun j b=>?_⟩
 ·simp[World.setCell,Array.getElem?_modify,h]
 ·simp[World.setCell,Array.getElem?_modify,h]
 ·simp only[World.setCell,Array.getElem?_modify,h]
  simp[bv,List.map_set]
  rw[show 2+j=j+1+1 by omega,List.set_cons_succ,List.set_cons_succ]
structure BxAt (w:World) (base R RI X:Nat) (K:List UInt8) (va vi vr vl:Value) (rows:List Rw) (txt:List UInt8) (s:ByteArray) (u:Value) (l:List UInt8):Prop where
 bg:BgAt w base R RI K va vi vr vl rows txt
 rX:w.heap[X]? = some (rowRw s u l)
 hX:base≤X
 nr:vr.ownBlock≠some X
 nl:vl.ownBlock≠some X
section
variable {w w':World} {base R RI X:Nat} {K:List UInt8} {va vi vr vl:Value} {rows:List Rw} {txt txt':List UInt8} {s:ByteArray} {u:Value} {l:List UInt8}
theorem BgAt.box (h:BgAt w base R RI K va vi vr vl rows txt) (hb:base≤w.heap.size) (s:ByteArray) (u:Value) (l:List UInt8):BxAt (w.alloc (rowRw s u l)) base R RI w.heap.size K va vi vr vl rows txt s u l :=
 ⟨h.on (balloc (bself w) _),heap_alloc_new w _,hb,fun e=>by have:=(h.orow.lt _ e).2;omega,fun e=>by have:=(h.olv.lt _ e).2;omega⟩
theorem BxAt.step (h:BxAt w base R RI X K va vi vr vl rows txt s u l) (hg:w.grownBy w' (some RI)) (hr:RdrAt w' RI txt' 0):BxAt w' base R RI X K va vi vr vl rows txt' s u l :=
 ⟨h.bg.step hg hr,(hg.block X (Array.getElem?_eq_some_iff.1 h.rX).1 (fun e=>by injection e with e;have:=h.hX;have:=h.bg.hi;omega)).trans h.rX,h.hX,h.nr,h.nl⟩
theorem BxAt.set0 (h:BxAt w base R RI X K va vi vr vl rows txt s u l) (s':ByteArray):BxAt (w.setCell ⟨X,0,none⟩ (.string s')) base R RI X K va vi vr vl rows txt s' u l :=
 ⟨h.bg.far (grown_set w (p:=⟨X,0,none⟩) rfl _) h.hX h.nr h.nl,(rx_set h.rX).1 s',h.hX,h.nr,h.nl⟩
theorem BxAt.set1 (h:BxAt w base R RI X K va vi vr vl rows txt s u l) (u':Value):BxAt (w.setCell ⟨X,1,none⟩ u') base R RI X K va vi vr vl rows txt s u' l :=
 ⟨h.bg.far (grown_set w (p:=⟨X,1,none⟩) rfl _) h.hX h.nr h.nl,(rx_set h.rX).2.1 u',h.hX,h.nr,h.nl⟩
theorem BxAt.set2 (h:BxAt w base R RI X K va vi vr vl rows txt s u l) (j:Nat) (b:UInt8):BxAt (w.setCell ⟨X,2+j,none⟩ (u8v b)) base R RI X K va vi vr vl rows txt s u (l.set j b) :=
 ⟨h.bg.far (grown_set w (p:=⟨X,2+j,none⟩) rfl _) h.hX h.nr h.nl,(rx_set h.rX).2.2 j b,h.hX,h.nr,h.nl⟩
theorem BxAt.drew (h:BxAt w base R RI X K va vi vr vl rows txt s u l):BxAt w.drew base R RI X K va vi vr vl rows txt s u l:=⟨h.bg.on (bdrew (bself w)),h.rX,h.hX,h.nr,h.nl⟩
end
end Go.Proofs.YtchjknbideoieaaGreatDoor
namespace Go.Proofs.YtchjknbideoieaaGreatDoor
set_option maxRecDepth 100000
set_option maxHeartbeats 8000000
open Go.RowKit Go.Great
theorem mtC_length (m:Mt) (h:m.root.length=32):(mtC m).length=40:=by simp[mtC,bv_length,h]
theorem mt_cells {w:World} {g:Nat} {m:Mt} {cm:Array Value} {t:TypeId} (h:w.heap[g]? = some (.cells cm t (0,0))) (hm:(mtC m).toArray=cm) :
  (w.cell? ⟨g,0,none⟩=some (.int .u8 (m.lv:Int))∧w.cell? ⟨g,1,none⟩=some (.int .u64 (m.g:Int))∧w.cell? ⟨g,2,none⟩=some (.int .u64 (m.e:Int))∧w.cell? ⟨g,3,none⟩=some (.int .u64 (m.n:Int))∧w.cell? ⟨g,4,none⟩=some (.int .i64 (m.size:Int))∧w.cell? ⟨g,5,none⟩=some (.int .i64 (m.count:Int))∧w.cell? ⟨g,6,none⟩=some (.string m.mn)∧w.cell? ⟨g,7,none⟩=some (.string m.mx))∧w.rangeAt g 8 (bv m.root):=by
 subst hm
 refine⟨⟨cell_of_row _ _ 0 _ _ _ h,cell_of_row _ _ 1 _ _ _ h,cell_of_row _ _ 2 _ _ _ h,cell_of_row _ _ 3 _ _ _ h,cell_of_row _ _ 4 _ _ _ h,cell_of_row _ _ 5 _ _ _ h,cell_of_row _ _ 6 _ _ _ h,cell_of_row _ _ 7 _ _ _ h⟩,fun j v hv=>?_⟩
 rw[cell_of_row _ _ (8+j) _ _ _ h,List.getElem?_toArray]
 unfold mtC
 rw[List.getElem?_append_right (by simp),←hv]
 congr 1
 simp
theorem results_c {P:Program} {fn:Func} {p:Tmp} {ty:TypeId} (h:fn.results=#[.cell p ty]) (tmps:Array Value) (w:World) (g:Nat) (t:TypeId) (cs:Array Value) (fr:Nat × Nat) (d:TypeDesc)
  (hp:tmps.getD p undef=.pointer (some ⟨g,0,none⟩)) (hg:w.heap[g]? = some (.cells cs t fr))
  (hu:P.underlying ty=some d) (hd:(match d with | .struct _ | .array _ _=>true|_=>false)=true) (hi:(P.info? ty).map (·.size)=some cs.size) :
  (results fn tmps).run P w=.ok (.agg cs) w:=by
 have hp':tmps[p]?.getD undef=.pointer (some ⟨g,0,none⟩):=by simpa using hp
 simp[results,h,hp',asAddr,run_loadVar_row w g t ty cs fr d hg hu hd hi]
theorem kHead_any (m:Mt) (cm:Array Value) (hm:(mtC m).toArray=cm) (w:World) :
  Calls Tryz.prog 72 #[.agg cm] w fun e w'=>e=.returned (hdV ⟨2,m.lv,m.g,m.e,m.n⟩)∧Below w.heap.size w w':=by
 have HM:=Lib.hid hm
 clear hm
 go_enter Tryz.func72,Tryz.ntmps72
 go_upto_region 1 with fail
 generalize hWA:World.alloc _ _=wA
 have rA:wA.heap[w.heap.size]? = some (.cells cm 55 (0,0)):=by rw[←hWA];exact heap_alloc2_old w _ _
 have rH:wA.heap[w.heap.size+1]? = some (.cells #[.int .u8 0,.int .u8 0,.int .u64 0,.int .u64 0,.int .u64 0] 65 (0,0)):=by rw[←hWA];exact heap_alloc2_new w _ _
 have bA:Below w.heap.size w wA:=by rw[←hWA];exact balloc (balloc (bself w) _) _
 obtain⟨⟨x0,x1,x2,x3,_⟩,_⟩:=mt_cells rA HM.out
 clear hWA
 go_wp2_with (refine wl_storeT 65 (n:=5) (by kernel_rfl) rfl (.tmp 2) (.tmp 11) rfl (w.heap.size+1) rfl _ _ rfl rH rfl rfl (by simp[Value.oneCell']) ?_)
 refine bodyPost_ret (v:=hdV ⟨2,m.lv,m.g,m.e,m.n⟩) (results_c Tryz.results72 _ _ (w.heap.size+1) 65 #[.int .u8 2,.int .u8 (m.lv:Int),.int .u64 (m.g:Int),.int .u64 (m.e:Int),.int .u64 (m.n:Int)] (0,0) _ rfl (setRow_heap _ _ _ _ _ _ rH) Tryz.underlying65 rfl (by kernel_rfl)) rfl ⟨rfl,below_setRow bA (by omega) _⟩
theorem builtRd (kl:List Value) (h:kl.length=64) (A B:Option Addr) (n m c d:Nat):Tryz.prog.built 96 [(0,.agg kl.toArray),(1,.slice A n c),(3,.slice B m d)]=some (kl++[.slice A n c,nilW,.slice B m d]).toArray:=by
 have e:Tryz.prog.built 96 [(0,.agg kl.toArray),(1,.slice A n c),(3,.slice B m d)]=Instr.fill (#[(0,64),(64,1),(65,1),(66,1)][·]?) (bv (List.replicate 64 0)++[nilW,nilW,nilW]).toArray [(0,.agg kl.toArray),(1,.slice A n c),(3,.slice B m d)]:=by
  kernel_rfl
 rw[e,fill_step (off:=0) (size:=64) (vc:=kl) rfl rfl h (by simp[bv])]
 rw[show (bv (List.replicate 64 0)++[nilW,nilW,nilW]).take 0++(kl++(bv (List.replicate 64 0)++[nilW,nilW,nilW]).drop (0+64))=kl++[nilW,nilW,nilW] from rfl]
 rw[fill_step (off:=64) (size:=1) (vc:=[.slice A n c]) rfl rfl rfl (by simp[h])]
 rw[show (kl++[nilW,nilW,nilW]).take 64++([.slice A n c]++(kl++[nilW,nilW,nilW]).drop (64+1))=kl++[.slice A n c,nilW,nilW] from by rw[←h,List.take_left,←List.drop_drop,List.drop_left];rfl]
 rw[fill_step (off:=66) (size:=1) (vc:=[.slice B m d]) rfl rfl rfl (by simp[h])]
 have h2:(kl++[Value.slice A n c,nilW]).length=66:=by simp[h]
 rw[show (kl++[.slice A n c,nilW,nilW]).take 66++([.slice B m d]++(kl++[.slice A n c,nilW,nilW]).drop (66+1))=kl++[.slice A n c,nilW,.slice B m d] from by
  rw[show kl++[Value.slice A n c,nilW,nilW]=(kl++[.slice A n c,nilW])++[nilW] from by simp,←h2,List.take_left,←List.drop_drop,List.drop_left]
  simp]
 simp[Instr.fill]
theorem exec_buildRd {o:Oper} {a:Act} {w:World} (x y z:Operand) (ho:o.op=.build 96 #[(0,x),(1,y),(3,z)]) (kl:List Value) (h:kl.length=64) (A B:Option Addr) (n m c d:Nat) (hx:a.eval x=.agg kl.toArray) (hy:a.eval y=.slice A n c) (hz:a.eval z=.slice B m d) :
  (execOp a.eval o).run Tryz.prog w=.ok (.value (.agg (kl++[.slice A n c,nilW,.slice B m d]).toArray)) w:=by
 have h:=run_build (P:=Tryz.prog) w 96 #[(0,.agg kl.toArray),(1,.slice A n c),(3,.slice B m d)] _ (builtRd kl h A B n m c d)
 unfold execOp
 simp only[ho,List.map_toArray,List.map_cons,List.map_nil,hx,hy,hz,Sem.run_bind,Sem.run_pure,Result.andThen_ok,h]
theorem exec_loadHd {o:Oper} {a:Act} {w:World} (x:Operand) (ho:o.op=.load 65 x) (g:Nat) (hx:a.eval x=.pointer (some ⟨g,0,none⟩)) (cs:Array Value) (hg:w.heap[g]? = some (.cells cs 65 (0,0))) (hn:cs.size=5) :
  (execOp a.eval o).run Tryz.prog w=.ok (.value (.agg cs)) w:=exec_loadRow 65 (c:=5) Tryz.underlying65 rfl (by kernel_rfl) x ho g hx cs hg hn
theorem exec_loadMt {o:Oper} {a:Act} {w:World} (x:Operand) (ho:o.op=.load 55 x) (g:Nat) (hx:a.eval x=.pointer (some ⟨g,0,none⟩)) (cs:Array Value) (hg:w.heap[g]? = some (.cells cs 55 (0,0))) (hn:cs.size=40) :
  (execOp a.eval o).run Tryz.prog w=.ok (.value (.agg cs)) w:=exec_loadRow 55 (c:=40) Tryz.underlying55 rfl (by kernel_rfl) x ho g hx cs hg hn
theorem SB.cutN {w:World} {B n c k:Nat} {b o:Nat} {l:List UInt8} (h:SB w B (.slice (some ⟨b,o,none⟩) n c) l) (hk:k≤n) (hc:k<c):SB w B (.slice (some ⟨b,o+k,none⟩) (n-k) (c-k)) (l.drop k):=by
 obtain⟨A,c',e,h1,h2,hr⟩:=id h
 injection e with e1 e2 e3
 subst e2
 have:=Sl.cut h hk rfl
 rw[if_neg (by omega),Option.map_some,add_lit0,Nat.mul_one] at this
 unfold SB
 rw[List.length_drop,bv_drop]
 exact this
theorem SB.takeN {w:World} {B n c k:Nat} {A:Option Addr} {l:List UInt8} (h:SB w B (.slice A n c) l) (hk:k≤n):SB w B (.slice A k c) (l.take k):=by
 obtain⟨A',c',e,h1,h2,hr⟩:=id h
 injection e with e1 e2 e3
 subst e2
 have:=Sl.take h hk rfl
 rw[Nat.mul_one] at this
 unfold SB
 rw[List.length_take,Nat.min_eq_left hk,bv_take]
 exact this
theorem run_cutN (w:World) (b o n c k:Nat) (kl:IntKind) (hk:k≤n) (hc:k<c):(Instr.sliceAt 56 (.slice (some ⟨b,o,none⟩) n c) (some (.int kl (k:Int))) none none).run Tryz.prog w=.ok (.slice (some ⟨b,o+k,none⟩) (n-k) (c-k)) w:=by
 have h:=run_cutB w (some ⟨b,o,none⟩) n c k kl hk
 rw[if_neg (by omega),Option.map_some,add_lit0] at h
 exact h
theorem run_headN (w:World) (A:Option Addr) (n c k:Nat) (kl:IntKind) (hk:k≤c):(Instr.sliceAt 56 (.slice A n c) none (some (.int kl (k:Int))) none).run Tryz.prog w=.ok (.slice A k c) w:=by
 rw[run_sliceAt_slice w 56 _ _ _ _ Tryz.underlying56,run_slice_h w 56 A n c Tryz.underlying56 kl k (by omega) (by omega)]
 simp[go_sem,sliced]
theorem run_midN (w:World) (b o n c lo hi:Nat) (kl kh:IntKind) (h1:lo≤hi) (h2:hi≤c) (hc:lo<c):(Instr.sliceAt 56 (.slice (some ⟨b,o,none⟩) n c) (some (.int kl (lo:Int))) (some (.int kh (hi:Int))) none).run Tryz.prog w=.ok (.slice (some ⟨b,o+lo,none⟩) (hi-lo) (c-lo)) w:=by
 have h:=run_takeB w (some ⟨b,o,none⟩) n c lo hi kl kh h1 h2
 rw[if_neg (by omega),Option.map_some,add_lit0] at h
 exact h
def BegPost (w:World) (K ad:List UInt8) (Ps:List Prt) (F:List UInt8) (e:Ending) (w':World):Prop:=∃R rows,e=.returned (.pointer (some ⟨R,0,none⟩))∧RdT w' R K ad rows∧rows.map (fun x=>(x.bound,x.bytes))=rowsT Ps F∧Below w.heap.size w w'
theorem kBeginT_any (root:List UInt8) (hroot:root.length=32) (h:Hd) (ok:h.ok) (hk2:h.k=2) (hrh:rightH h=true) (m:Mt) (hm:m.lv=h.lv∧m.g=h.g∧m.e=h.e∧m.n=h.n)
  (K ad II:List UInt8) (hK:K=keyOfUse root (layH h)) (had:ad=layH h) (Ps:List Prt) (F b:List UInt8) (hII:II=sealP K ad 0 (indexB leafB Ps F)) (hb:b=tableB ad Ps F II)
  (hsz:m.size=b.length) (hmr:m.root=(rootR jnD zD (Ps.map (fun p=>leafD p.bytes)++[leafD F,leafD II])).1)
  (hP0:0<Ps.length) (hPn:Ps.length≤1000) (hbd:∀p∈Ps,p.bound.length≤1024) (hbl:b.length≤1073741824)
  (cr cm:Array Value) (hcr:dgA root=cr) (hcm:(mtC m).toArray=cm) (vb:Value) (w:World) (hv:SB w w.heap.size vb b) (hk:KTab w 0) (h1:0<w.heap.size) :
  Calls Tryz.prog 35 #[.agg cr,.agg cm,vb] w (BegPost w K ad Ps F):=by
 obtain⟨hm1,hm2,hm3,hm4⟩:=hm
 have hKl:K.length=64:=by rw[hK];exact keyOfUse_length _ _
 have hadl:ad.length=30:=by rw[had];exact layH_len h
 have hlen:b.length=30+((bodT Ps F 0).length+II.length)+8:=by rw[hb,tableB_len,hadl]
 obtain⟨nb,hnb⟩:∃nb,nb=b.length:=⟨_,rfl⟩
 have hcs:cr.size=32:=by rw[←hcr,dgA_size,hroot]
 have hmc:cm.size=40:=by rw[←hcm,List.size_toArray];exact mtC_length m (by rw[hmr];exact (rootR jnD zD _).2)
 have HTk:Hid (∀W,Below w.heap.size w W→Calls Tryz.prog 71 #[vb] W fun e w'=>e=.returned (.tuple #[.agg #[.int .u8 2,.int .u8 (h.lv:Int),.int .u64 (h.g:Int),.int .u64 (h.e:Int),.int .u64 (h.n:Int)],.int .i64 0])∧Below W.heap.size W w'):=Lib.hid (fun W hW=>by
  have:=kTakeH_any vb b W (hv.on hW) (by omega)
  unfold takeHV at this
  rw[hb,tableB_cut,List.append_assoc,had,takeH_lay h _ ok,if_pos hrh] at this
  simp only at this
  unfold hdV at this
  rw[hk2] at this
  exact this)
 obtain⟨Ab,cb,rfl,hcb,hcb2,_⟩:=id hv
 rw[←hnb] at HTk hcb hbl hlen
 have hnb38:38≤nb:=by omega
 have HLen:=Lib.hid (And.intro hnb hlen)
 have hcb3:cb≤9223372036854775807:=by unfold maxLen at hcb2;omega
 have HALL:=Lib.hid (And.intro hroot (And.intro hm1 (And.intro hm2 (And.intro hm3 (And.intro hm4 (And.intro hsz (And.intro hmr (And.intro hcr (And.intro hcm (And.intro hK (And.intro had (And.intro hII hb))))))))))))
 have HV:=Lib.hid hv
 rw[←hnb]
 clear hnb hlen hroot hm1 hm2 hm3 hm4 hsz hmr hcr hcm hK had hII hb hv hcb2
 go_enter Tryz.func35,Tryz.ntmps35
 go_upto_region 1 with fail
 generalize hWA:World.alloc _ _=wA
 have rM:wA.heap[w.heap.size+1]? = some (.cells cm 55 (0,0)):=by rw[←hWA];exact heap_alloc2_new w _ _
 have rR:wA.heap[w.heap.size]? = some (rowO cr):=by rw[←hWA];exact heap_alloc2_old w _ _
 have bA:Below w.heap.size w wA:=by rw[←hWA];exact balloc (balloc (bself w) _) _
 have zA:wA.heap.size=w.heap.size+1+1:=by rw[←hWA];simp
 clear hWA
 go_upto_region 2 with (go_at_call 71;refine (HTk.out _ bA).mono ?_;rintro _ w1 ⟨rfl,hb1⟩)
 generalize hW2:World.alloc _ _=w2
 obtain⟨hc,hhc⟩:∃hc,hc=#[Value.int .u8 2,.int .u8 (h.lv:Int),.int .u64 (h.g:Int),.int .u64 (h.e:Int),.int .u64 (h.n:Int)]:=⟨_,rfl⟩
 have rH:w2.heap[w1.heap.size]? = some (.cells hc 65 (0,0)):=by rw[←hW2,hhc];exact heap_alloc_new w1 _
 have b2:Below wA.heap.size wA w2:=by rw[←hW2];exact balloc hb1 _
 have zH:w1.heap.size<w2.heap.size:=by rw[←hW2];simp
 have z1:=hb1.size
 have hbw2:Below w.heap.size w w2:=bA.trans (b2.mono (by omega))
 have HKS:Hid (∀W,Below w2.heap.size w2 W→W.heap[w.heap.size]? = some (rowO cr)∧W.heap[w.heap.size+1]? = some (.cells cm 55 (0,0))∧W.heap[w1.heap.size]? = some (.cells hc 65 (0,0))):=Lib.hid (fun W hW =>
  ⟨((hW.block _ (by omega)).trans (b2.block _ (by omega))).trans rR,((hW.block _ (by omega)).trans (b2.block _ (by omega))).trans rM,(hW.block _ zH).trans rH⟩)
 have HHd:Hid (∀W,Calls Tryz.prog 72 #[.agg cm] W fun e w'=>e=.returned (.agg hc)∧Below W.heap.size W w'):=Lib.hid (fun W=>by
  have:=kHead_any m cm HALL.out.2.2.2.2.2.2.2.2.1 W
  unfold hdV at this
  rw[HALL.out.2.1,HALL.out.2.2.1,HALL.out.2.2.2.1,HALL.out.2.2.2.2.1] at this
  rw[hhc]
  exact this)
 have HEqH:Hid (∀w',(Op.equalIn 10000 65 (.agg hc) (.agg hc)).run Tryz.prog w'=.ok true w'):=Lib.hid (fun w'=>by
  have:=run_eqH w' h h
  unfold hdV at this
  rw[hk2,decide_eq_true rfl] at this
  rw[hhc]
  exact this)
 have hhs:hc.size=5:=by rw[hhc];rfl
 have HMsz:Hid (∀W,Below w2.heap.size w2 W→W.cell? ⟨w.heap.size+1,4,none⟩=some (.int .i64 (nb:Int))):=Lib.hid (fun W hW=>by
  have:=(mt_cells (HKS.out W hW).2.1 HALL.out.2.2.2.2.2.2.2.2.1).1.2.2.2.2.1
  rw[this,HALL.out.2.2.2.2.2.1,←HLen.out.1])
 have HHC:=Lib.hid hhc
 have HNd:=Lib.hid kNeed_true
 have d38:decide ((38:Int)≤(nb:Int))=true:=by simp;omega
 clear hW2 hhc rH rM rR HTk
 have hEqH:=HEqH.out
 have b2d:=bdrew (bself w2)
 refine wp_region_noPanic ?_
 refine wp_region_held_drew (S:=fun W=>True∧(W.heap[w.heap.size]? = some (rowO cr)∧W.heap[w.heap.size+1]? = some (.cells cm 55 (0,0))∧W.heap[w1.heap.size]? = some (.cells hc 65 (0,0)))∧W.cell? ⟨w.heap.size+1,4,none⟩=some (.int .i64 (nb:Int))) (by kernel_rfl) ⟨trivial,HKS.out _ b2d,HMsz.out _ b2d⟩ (fun hHeld=>?_)
 refine rtk 0 ?_
 refine rtk 1 ?_
 refine rtk 2 ?_
 refine rtk 3 ?_
 refine rtk 4 ?_
 refine rtk 5 ?_
 refine rtk 6 ?_
 refine rtk 7 ?_
 refine rtk 8 ?_
 refine rtk 9 ?_
 refine reg_take 10 (v:=.agg hc) (by rfl) (by kernel_rfl) (by kernel_rfl) (by kernel_rfl) (fun _ _ _ h=>h) (by rfl) ?_ (by assumption) ?_
 ·(intro wq hSq;exact exec_loadHd (.tmp 7) rfl _ rfl hc hSq.2.1.2.2 hhs)
 try simp only[Act.put,q1,q2,q3]
 refine reg_take 11 (v:=.agg cm) (by rfl) (by kernel_rfl) (by kernel_rfl) (by kernel_rfl) (fun _ _ _ h=>h) (by rfl) ?_ (by assumption) ?_
 ·(intro wq hSq;exact exec_loadMt (.tmp 4) rfl _ rfl cm hSq.2.1.2.1 hmc)
 try simp only[Act.put,q1,q2,q3]
 refine ro 12 (fun K hK=>?_)
 (go_simp;go_at_call 72;refine (HHd.out _).mono ?_;rintro _ w3 ⟨rfl,hb3⟩;have b3:=bstep b2d hb3;go_wp2_with fail)
 refine hK.out _ _ ?_ (fun hHeld=>?_)
 ·exact⟨trivial,HKS.out _ b3,HMsz.out _ b3⟩
 clear hK K
 try simp only[Act.put,q1,q2,q3]
 refine rtk 13 ?_
 refine rtk 14 ?_
 refine rtk 15 ?_
 refine rtk 16 ?_
 refine rtk 17 ?_
 refine rtk 18 ?_
 refine rtk 19 ?_
 refine ro 20 (fun K hK=>?_)
 (go_simp;go_at_call 62;refine (HNd.out _).mono ?_;rintro _ w4 ⟨rfl,rfl⟩;go_wp2_with fail)
 refine hK.out _ _ ?_ (fun hHeld=>?_)
 ·exact⟨trivial,HKS.out _ b3,HMsz.out _ b3⟩
 clear hK K
 try simp only[Act.put,q1,q2,q3]
 refine rdn ?_
 have bw3:=hbw2.trans (b3.mono (by omega))
 obtain⟨n0,hn0⟩:∃n0,n0=(bodT Ps F 0).length:=⟨_,rfl⟩
 obtain⟨ni,hni⟩:∃ni,ni=II.length:=⟨_,rfl⟩
 obtain⟨nr,hnr⟩:∃nr,nr=n0+ni:=⟨_,rfl⟩
 obtain⟨n8,hn8⟩:∃n8,n8=nr+30:=⟨_,rfl⟩
 have hnb8:nb=n8+8:=by have:=HLen.out.2;omega
 have HV1:Hid (SB w w.heap.size (.slice Ab nb cb) b):=Lib.hid (by rw[HLen.out.1];exact HV.out)
 obtain⟨bB,oB,rfl,hbB,_⟩:=(show Rd w w.heap.size 1 Ab nb (bv b) by rw[HLen.out.1];assumption).at_ (by omega)
 have hbt:b=ad++(bodT Ps F 0++II)++fix ni 8:=by rw[HALL.out.2.2.2.2.2.2.2.2.2.2.2.2,tableB_cut,hni]
 have HRest:Hid (SB w w.heap.size (.slice (some ⟨bB,oB+30,none⟩) nr (cb-30)) (bodT Ps F 0++II)):=Lib.hid (by
  have h1:=(HV1.out.cutN (k:=30) (by omega) (by omega)).takeN (k:=nr) (by omega)
  rw[hbt,List.append_assoc,←hadl,List.drop_left,List.take_left' (by rw[List.length_append];omega),hadl] at h1
  exact h1)
 have HFoot:Hid (SB w w.heap.size (.slice (some ⟨bB,oB+n8,none⟩) 8 (cb-n8)) (fix ni 8)):=Lib.hid (by
  have h1:=HV1.out.cutN (k:=n8) (by omega) (by omega)
  rw[hbt,List.drop_left' (by rw[List.length_append,List.length_append];omega),show nb-n8=8 by omega] at h1
  exact h1)
 have g8:(nb:Int)-8=(n8:Int):=by omega
 have g8w:IntKind.i64.wrap ((nb:Int)-8)=(n8:Int):=by rw[g8,IntKind.wrap_i64];omega
 have gn8:IntKind.i64.wrap (n8:Int)=(n8:Int):=by rw[IntKind.wrap_i64];omega
 have hs1:∀W,(Instr.sliceAt 56 (.slice (some ⟨bB,oB,none⟩) nb cb) (some (.int .i64 30)) (some (.int .i64 (n8:Int))) none).run Tryz.prog W=.ok (.slice (some ⟨bB,oB+30,none⟩) nr (cb-30)) W:=fun W=>by
  have:=run_midN W bB oB nb cb 30 n8 .i64 .i64 (by omega) (by omega) (by omega)
  rw[show n8-30=nr by omega] at this
  exact this
 have hs2:∀W,(Instr.sliceAt 56 (.slice (some ⟨bB,oB,none⟩) nb cb) (some (.int .i64 (n8:Int))) none none).run Tryz.prog W=.ok (.slice (some ⟨bB,oB+n8,none⟩) 8 (cb-n8)) W:=fun W=>by
  have:=run_cutN W bB oB nb cb n8 .i64 (by omega) (by omega)
  rw[show nb-n8=8 by omega] at this
  exact this
 have HNew:Hid (∀W,Below w.heap.size w W→Calls Tryz.prog 73 #[.slice (some ⟨bB,oB+n8,none⟩) 8 (cb-n8)] W fun e w'=>∃R,e=.returned (.pointer (some ⟨R,0,none⟩))∧W.heap.size≤R∧RdrFrom W.heap.size w' R (fix ni 8) 0∧Below W.heap.size W w'):=Lib.hid (fun W hW=>cNew_any _ _ W (HFoot.out.on hW) (by rw[fix_length];omega))
 have HBT:=Lib.hid (And.intro hn0 (And.intro hni (And.intro hnr hn8)))
 have hrb:n0+ni=nr∧nr+30=n8∧n8+8=nb:=by omega
 have HNB:=Lib.hid hrb
 have hni9:ni≤1073741824∧n0≤1073741824∧nr≤1073741824∧ni≤nr:=by omega
 obtain⟨hni9,hn09,hnr9,hnir⟩:=hni9
 clear hn0 hni hnr hn8 hbt hrb hnb8 hEqH hHeld d38 HHd HEqH HMsz
 go_upto_region 3 with fail
 have b3d:=bdrew b3
 have bw3d:=bdrew bw3
 refine wp_region_noPanic ?_
 refine wp_region_held_drew (S:=fun W=>True∧True) (by kernel_rfl) ⟨trivial,trivial⟩ (fun hHeld=>?_)
 refine rtk 0 ?_
 refine rtk 1 ?_
 refine rtk 2 ?_
 refine rtk 3 ?_
 refine rtk 4 ?_
 refine rtk 5 ?_
 refine rtk 6 ?_
 refine rtk 7 ?_
 refine rtk 8 ?_
 refine rtk 9 ?_
 refine ro 10 (fun K hK=>?_)
 (go_simp;go_at_call 73;refine (HNew.out _ bw3d).mono ?_;rintro _ w5 ⟨R1,rfl,hR1,hrd5,hb5⟩;have b5:=bstep b3d hb5;go_wp2_with fail)
 refine hK.out _ _ ?_ (fun hHeld=>?_)
 ·exact⟨trivial,trivial⟩
 clear hK K
 try simp only[Act.put,q1,q2,q3]
 refine rtk 11 ?_
 refine rtk 12 ?_
 refine rdn ?_
 have bw5:=bstep bw3d hb5
 clear HNew hs1 hs2 g8 g8w gn8 hHeld HFoot
 have HFix:Hid (Calls Tryz.prog 74 #[.pointer (some ⟨R1,0,none⟩),.int .i64 8] w5 fun e w'=>e=.returned (.int .u64 (ni:Int))∧w5.grownBy w' (some R1)):=Lib.hid ((mFix_any R1 _ 0 8 w5 hrd5.at_ (by omega) (by omega)).mono (by
  rintro e w' ⟨he,_,hg⟩
  have:=sFix_fix8 ni [] (by omega)
  rw[List.append_nil] at this
  rw[this] at he
  exact⟨he,hg⟩))
 have gnr:IntKind.u64.wrap (nr:Int)=(nr:Int):=by rw[IntKind.wrap_u64];omega
 have gni:IntKind.i64.wrap (ni:Int)=(ni:Int):=by rw[IntKind.wrap_i64];omega
 have gsub:(nr:Int)-(ni:Int)=(n0:Int):=by have:=HNB.out.1;omega
 have gsubw:IntKind.i64.wrap ((nr:Int)-(ni:Int))=(n0:Int):=by rw[gsub,IntKind.wrap_i64];omega
 have dnr:decide ((ni:Int)≤(nr:Int))=true:=by simp;omega
 have dnr':decide (ni≤nr)=true:=by simp;omega
 go_upto_region 7 with (first|(go_at_call 74;refine HFix.out.mono ?_;rintro _ w6 ⟨rfl,hg6⟩)|(go_at_call 62;refine (HNd.out _).mono ?_;rintro _ w6' ⟨rfl,rfl⟩))
 have b6:Below w2.heap.size w2 _:=below_grown b5 hg6 b5.size (fun g e=>by injection e with e;rw[←e];exact Nat.le_trans b3d.size hR1)
 have bw6:Below w.heap.size w _:=below_grown bw5 hg6 bw5.size (fun g e=>by injection e with e;rw[←e];exact Nat.le_trans bw3d.size hR1)
 clear HFix gnr gni gsub gsubw dnr dnr' hrd5 hR1 hg6 hb5 b5 bw5 b3d bw3d b3 hb3 bw3
 obtain⟨kk,hkk⟩:∃kk,kk=(bv K).toArray:=⟨_,rfl⟩
 have hbK:(bv K).length=64:=by rw[bv_length,hKl]
 have HKey:Hid (∀W,Below w.heap.size w W→Calls Tryz.prog 50 #[.agg cr,.agg hc] W fun e w'=>e=.returned (.agg kk)∧Below W.heap.size W w'):=Lib.hid (fun W hW=>by
  have:=kKeyOf_any root HALL.out.1 h ok cr kk HALL.out.2.2.2.2.2.2.2.1 (by rw[hkk,←HALL.out.2.2.2.2.2.2.2.2.2.1]) W (hk.on hW h1) (by have:=hW.size;omega)
  unfold hdV at this
  rw[hk2] at this
  rw[HHC.out]
  exact this)
 have HLay:Hid (∀W,Calls Tryz.prog 51 #[.agg hc] W fun e w'=>∃r,e=.returned r∧OB w' W.heap.size r ad∧Below W.heap.size W w'):=Lib.hid (fun W=>by
  have:=kLay_any h W ok
  unfold hdV at this
  rw[hk2] at this
  rw[HHC.out,HALL.out.2.2.2.2.2.2.2.2.2.2.1]
  exact this)
 have gn0:IntKind.i64.wrap (n0:Int)=(n0:Int):=by rw[IntKind.wrap_i64];omega
 have hs3:∀W,(Instr.sliceAt 56 (.slice (some ⟨bB,oB+30,none⟩) nr (cb-30)) (some (.int .i64 (n0:Int))) none none).run Tryz.prog W=.ok (.slice (some ⟨bB,oB+30+n0,none⟩) ni (cb-30-n0)) W:=fun W=>by
  have h:=HNB.out
  have:=run_cutN W bB (oB+30) nr (cb-30) n0 .i64 (by omega) (by omega)
  rw[show nr-n0=ni by omega] at this
  exact this
 have hs4:∀W,(Instr.sliceAt 56 (.slice (some ⟨bB,oB+30,none⟩) nr (cb-30)) none (some (.int .i64 (n0:Int))) none).run Tryz.prog W=.ok (.slice (some ⟨bB,oB+30,none⟩) n0 (cb-30)) W:=fun W=>by
  have h:=HNB.out
  exact run_headN W _ nr (cb-30) n0 .i64 (by omega)
 have HIdx:Hid (SB w w.heap.size (.slice (some ⟨bB,oB+30+n0,none⟩) ni (cb-30-n0)) II):=Lib.hid (by
  have h:=HNB.out
  have h1:=HRest.out.cutN (k:=n0) (by omega) (by omega)
  rw[List.drop_left' HBT.out.1.symm,show nr-n0=ni by omega] at h1
  exact h1)
 have HBod:Hid (SB w w.heap.size (.slice (some ⟨bB,oB+30,none⟩) n0 (cb-30)) (bodT Ps F 0)):=Lib.hid (by
  have h:=HNB.out
  have h1:=HRest.out.takeN (k:=n0) (by omega)
  rw[List.take_left' HBT.out.1.symm] at h1
  exact h1)
 have b6d:=bdrew b6
 have bw6d:=bdrew bw6
 have HKK:=Lib.hid hkk
 clear hkk HRest
 refine wp_region_noPanic ?_
 refine wp_region_held_drew (S:=fun W=>True∧(W.heap[w.heap.size]? = some (rowO cr)∧W.heap[w.heap.size+1]? = some (.cells cm 55 (0,0))∧W.heap[w1.heap.size]? = some (.cells hc 65 (0,0)))) (by kernel_rfl) ⟨trivial,HKS.out _ b6d⟩ (fun hHeld=>?_)
 refine reg_take 0 (v:=.agg cr) (by rfl) (by kernel_rfl) (by kernel_rfl) (by kernel_rfl) (fun _ _ _ h=>h) (by rfl) ?_ (by assumption) ?_
 ·(intro wq hSq;exact exec_loadDg (.tmp 3) rfl _ rfl cr hSq.2.1 hcs)
 try simp only[Act.put,q1,q2,q3]
 refine reg_take 1 (v:=.agg hc) (by rfl) (by kernel_rfl) (by kernel_rfl) (by kernel_rfl) (fun _ _ _ h=>h) (by rfl) ?_ (by assumption) ?_
 ·(intro wq hSq;exact exec_loadHd (.tmp 7) rfl _ rfl hc hSq.2.2.2 hhs)
 try simp only[Act.put,q1,q2,q3]
 refine reg_take 3 (v:=.agg hc) (by rfl) (by kernel_rfl) (by kernel_rfl) (by kernel_rfl) (fun _ _ _ h=>h) (by rfl) ?_ (by assumption) ?_
 ·(intro wq hSq;exact exec_loadHd (.tmp 7) rfl _ rfl hc hSq.2.2.2 hhs)
 try simp only[Act.put,q1,q2,q3]
 refine rtk 5 ?_
 refine rtk 6 ?_
 refine rtk 7 ?_
 refine ro 2 (fun K hK=>?_)
 (go_simp;go_at_call 50;refine (HKey.out _ bw6d).mono ?_;rintro _ w7 ⟨rfl,hb7⟩;have b7:=bstep b6d hb7;have bw7:=bstep bw6d hb7;go_wp2_with fail)
 refine hK.out _ _ ?_ (fun hHeld=>?_)
 ·exact⟨trivial,HKS.out _ b7⟩
 clear hK K
 try simp only[Act.put,q1,q2,q3]
 refine ro 4 (fun K hK=>?_)
 (go_simp;go_at_call 51;refine (HLay.out _).mono ?_;rintro _ w8 ⟨va,rfl,hoa,hb8⟩;have b8:=bstep b7 hb8;have bw8:=bstep bw7 hb8;go_wp2_with fail)
 refine hK.out _ _ ?_ (fun hHeld=>?_)
 ·exact⟨trivial,HKS.out _ b8⟩
 clear hK K
 try simp only[Act.put,q1,q2,q3]
 obtain⟨ga,ca,rfl⟩:=hoa.form0 (by omega)
 rw[HKK.out]
 refine reg_take 8 (v:=.agg (bv K++[.slice (some ⟨ga,0,none⟩) ad.length ca,nilW,.slice (some ⟨bB,oB+30+n0,none⟩) ni (cb-30-n0)]).toArray) (by rfl) (by kernel_rfl) (by kernel_rfl) (by kernel_rfl) (fun _ _ _ h=>h) (by rfl) ?_ (by assumption) ?_
 ·(intro wq hSq;exact exec_buildRd (.tmp 73) (.tmp 75) (.tmp 78) rfl (bv K) hbK _ _ _ _ _ _ rfl rfl rfl)
 try simp only[Act.put,q1,q2,q3]
 refine ro 9 (fun K hK=>?_)
 (go_simp)
 refine hK.out _ _ ?_ (fun hHeld=>?_)
 ·exact⟨trivial,HKS.out _ (balloc b8 _)⟩
 clear hK K
 try simp only[Act.put,q1,q2,q3]
 refine rtk 10 ?_
 refine rdn ?_
 clear HKey HLay gn0 hs3 b6d bw6d b6 bw6 b7 hb7 hb8
 generalize hVI:Value.slice (some ⟨bB,oB+30+n0,none⟩) ni (cb-30-n0)=vi at HIdx ⊢
 obtain⟨vi2,hvi2⟩:∃vi2,vi2=vi:=⟨_,rfl⟩
 rw[hadl] at hoa
 generalize hVA:Value.slice (some ⟨ga,0,none⟩) 30 ca=va at hoa ⊢
 generalize hW9:World.alloc _ _=w9
 have rT9:w9.heap[w8.heap.size]? = some (rowRd K va nilW vi):=by rw[←hW9];exact heap_alloc_new w8 _
 have b89:Below w8.heap.size w8 w9:=by rw[←hW9];exact balloc (bself w8) _
 have z9:w8.heap.size<w9.heap.size:=by rw[←hW9];simp
 clear hW9
 obtain⟨np,hnp⟩:∃np,np=Ps.length:=⟨_,rfl⟩
 have hidl:=idxT_le Ps F hbd 0
 have hix:indexB leafB Ps F=num np++idxT Ps F 0:=by rw[hnp];exact indexB_idx Ps F
 obtain⟨ix,hixe⟩:∃ix,ix=indexB leafB Ps F:=⟨_,rfl⟩
 have hixl:ix.length≤2000000:=by have:=num_length np;rw[hixe,hix,List.length_append];omega
 obtain⟨Ai,ci,hvf,_,_,_⟩:=id HIdx.out
 obtain⟨li,hli⟩:∃li,li=II.length:=⟨_,rfl⟩
 rw[←hli] at hvf
 subst hvf
 have HOp:Hid (Calls Tryz.prog 75 #[.pointer (some ⟨w8.heap.size,0,none⟩),.int .i64 0,.slice Ai li ci] w9 fun e w'=>∃r,e=.returned r∧OB w' w9.heap.size r ix∧Below w9.heap.size w9 w'):=Lib.hid (by
  have hbw9:=bw8.trans (b89.mono bw8.size)
  refine kOpenP_any w8.heap.size 0 K ad ix II va nilW _ _ w9 rT9 hKl ((hoa.sb.on b89)) (HIdx.out.on hbw9) ?_ (by omega) (by omega) (by omega) (hk.on hbw9 h1) (by omega)
  rw[hixe]
  exact HALL.out.2.2.2.2.2.2.2.2.2.2.2.1)
 have HTX:=Lib.hid (And.intro hix (And.intro hixe hnp))
 have c66:w9.cell? ⟨w8.heap.size,66,none⟩=some (.slice Ai li ci):=(rd_cells rT9 hKl).2.1.2.2
 rw[←hnp] at hP0 hPn hidl
 have dnp:decide (0<np)=true:=by simp;omega
 have dnp':decide ((0:Int)<(np:Int))=true:=by simp;omega
 have HNM:Hid (∀R W,RdrAt W R ix 0→Calls Tryz.prog 76 #[.pointer (some ⟨R,0,none⟩)] W fun e w'=>e=.returned (.int .u64 (np:Int))∧RdrAt w' R (idxT Ps F 0) 0∧W.grownBy w' (some R)):=Lib.hid (fun R W hW=>by
  have:=mNum_any R ix 0 W hW
  rw[hixe,hix,sNum_num np _ (by omega)] at this
  exact this)
 have HLI:=Lib.hid hli
 have HBD:=Lib.hid hbd
 clear hli hnp hix hixe hVI hvi2 hbd
 go_upto_region 10 with (first|(go_at_call 75;refine HOp.out.mono ?_;rintro _ w10 ⟨r10,rfl,ho10,hb10⟩)|(go_at_call 73;refine (cNew_any _ _ _ ho10.sb (by omega)).mono ?_;rintro _ w11 ⟨RI,rfl,hRI,hrd11,hb11⟩))
 have hrdI:=hrd11.at_
 clear c66 HOp
 go_upto_region 11 with (go_at_call 76;refine (HNM.out _ _ hrdI).mono ?_;rintro _ w12 ⟨rfl,hrd12,hg12⟩)
 go_upto_region 13 with (first|(go_at_call 77;refine (mFault_any _ _ _ _ hrd12).mono ?_;rintro _ w12 ⟨rfl,rfl⟩)|(go_at_call 62;refine (HNd.out _).mono ?_;rintro _ w12 ⟨rfl,rfl⟩))
 have z10:=hb10.size
 have z11:=hb11.size
 have z12:=hg12.size
 have bS:Below w8.heap.size w8 _:=below_grown ((b89.trans (hb10.mono (by omega))).trans (hb11.mono (by omega))) hg12 (by omega) (fun g e=>by injection e with e;omega)
 have hRIl:=hrdI.lt
 have hRI0:w8.heap.size<RI:=by omega
 have HB12:Hid (BgAt _ w11.heap.size w8.heap.size RI K va (.slice Ai li ci) nilW nilW [] (idxT Ps F 0)):=Lib.hid (by
  have hbb:Below w9.heap.size w9 _:=below_grown (hb10.trans (hb11.mono z10)) hg12 (by omega) (fun g e=>by injection e with e;omega)
  exact⟨(hbb.block _ z9).trans rT9,OG.nil_ _ _ _ _ _,OD.nil_ _ _,hrd12,by omega,hRIl,.inl rfl⟩)
 have HHoa:=Lib.hid hoa
 clear hrd12 hrdI hrd11 hg12 hb11 hb10 ho10 HNM dnp dnp' rT9 b89 hoa hs4 hRI
 go_wp2_with fail
 go_loopw [9,16,17] (fun sv lv iv wr=>∃(k:Nat) (rows:List Rw) (vr:Value) (o' n' ck:Nat),iv=.int .u64 (k:Int)∧k≤np+1∧sv=.slice (some ⟨bB,o',none⟩) n' ck∧n'+8≤ck∧ck≤9223372036854775807∧n'≤1073741824∧Hid (n'=(bodT Ps F k).length∧SB w w.heap.size (.slice (some ⟨bB,o',none⟩) n' ck) (bodT Ps F k))∧Hid (rows.map (fun x=>(x.bound,x.bytes))=(rowsT Ps F).take k∧∀x∈rows,SB w w.heap.size x.v x.bytes∧x.leaf=leafD x.bytes)∧Hid (BgAt wr w11.heap.size w8.heap.size RI K va (.slice Ai li ci) vr lv rows (idxT Ps F k))∧Hid (rows.length=k)∧Below w8.heap.size w8 wr∧w11.heap.size≤wr.heap.size) (fun _ _ iv _=>np+1-(intOf iv).toNat)
 case atStart=>exact⟨0,[],nilW,oB+30,n0,cb-30,rfl,Nat.zero_le _,rfl,by have:=HNB.out;omega,by omega,by omega,Lib.hid ⟨HBT.out.1,HBod.out⟩,Lib.hid ⟨by simp,fun x hx=>by cases hx⟩,HB12,Lib.hid rfl,bS,by omega⟩
 case round =>
  obtain⟨k,rows,vr,o',n',ck,rfl,hk1,rfl,hnck,hck,hn',HSB,HRW,HBG,HRL,hbr,hzr⟩:=hrel
  by_cases hlt:k≤np
  ·have dk:decide (k≤np)=true:=by simp;omega
   have hX0:Hid (BxAt (wr.alloc (rowRw ⟨#[]⟩ nilW (List.replicate 32 0))) w11.heap.size w8.heap.size RI wr.heap.size K va (.slice Ai li ci) vr u16 rows (idxT Ps F k) ⟨#[]⟩ nilW (List.replicate 32 0)):=Lib.hid (HBG.out.box hzr _ _ _)
   have bX:Below w8.heap.size w8 (wr.alloc (rowRw ⟨#[]⟩ nilW (List.replicate 32 0))):=balloc hbr _
   have zX:(wr.alloc (rowRw ⟨#[]⟩ nilW (List.replicate 32 0))).heap.size=wr.heap.size+1:=by simp
   go_upto_region 17 with fail
   have hwx0:(wr.alloc (rowRw ⟨#[]⟩ nilW (List.replicate 32 0)))=(wr.alloc (.cells #[Value.string ⟨#[]⟩,Value.slice none 0 0,.int .u8 0,.int .u8 0,.int .u8 0,.int .u8 0,.int .u8 0,.int .u8 0,.int .u8 0,.int .u8 0,.int .u8 0,.int .u8 0,.int .u8 0,.int .u8 0,.int .u8 0,.int .u8 0,.int .u8 0,.int .u8 0,.int .u8 0,.int .u8 0,.int .u8 0,.int .u8 0,.int .u8 0,.int .u8 0,.int .u8 0,.int .u8 0,.int .u8 0,.int .u8 0,.int .u8 0,.int .u8 0,.int .u8 0,.int .u8 0,.int .u8 0,.int .u8 0] 101)):=rfl
   rw[hwx0] at hX0 bX zX
   clear hwx0
   generalize World.alloc _ _=wx at hX0 bX zX ⊢
   generalize wr.heap.size=X at hX0 zX hzr ⊢
   clear dk
   go_upto_if 108 with fail
   go_cut [18] (fun xv wc=>xv=.pointer (some ⟨X,0,none⟩)∧Hid (BxAt wc w11.heap.size w8.heap.size RI X K va (.slice Ai li ci) vr u16 rows (midT Ps F k) ⟨(bndT Ps F k).toArray⟩ nilW (List.replicate 32 0))∧Below w8.heap.size w8 wc∧wx.heap.size≤wc.heap.size)
   case first =>
    by_cases hk2:k<np
    ·have dk2:decide (k<np)=true:=by simp;omega
     have HStr:Hid (Calls Tryz.prog 78 #[.pointer (some ⟨RI,0,none⟩),.int .i64 1024] wx fun e w'=>e=.returned (.string ⟨(bndT Ps F k).toArray⟩)∧RdrAt w' RI (midT Ps F k) 0∧wx.grownBy w' (some RI)):=Lib.hid (by
      have h1:=mStr_any RI (idxT Ps F k) 0 1024 wx hX0.out.bg.rdr (by omega)
      have hkp:k<Ps.length:=by rw[←HTX.out.2.2];exact hk2
      have hbk:(bndT Ps F k).length≤1024:=by rw[bndT_lt Ps F k hkp];exact HBD.out _ (List.getElem_mem hkp)
      rw[idxT_lt Ps F k hkp,sStr_str 1024 _ _ (by omega) (by omega)] at h1
      exact h1)
     go_wp2_with (go_at_call 78;refine HStr.out.mono ?_;rintro _ w13 ⟨rfl,hrd13,hg13⟩;have hX1:=hX0.out.step hg13 hrd13;obtain⟨⟨c0,_⟩,_,cfz⟩:=rx_cells hX1.rX)
     go_meet
     refine⟨rfl,Lib.hid (hX1.set0 _),?_,by have:=hg13.size;simpa using this⟩
     exact (below_grown bX hg13 (by omega) (fun g e=>by injection e with e;omega)).setCell (by show w8.heap.size≤X;omega) _
    ·have dk2:decide (k<np)=false:=by simp;omega
     have hkp:k=np:=by omega
     go_wp2_with fail
     go_meet
     refine⟨rfl,Lib.hid ?_,bX,Nat.le_refl _⟩
     have h:=hX0.out
     rw[hkp,HTX.out.2.2,idxT_last] at h
     rw[hkp,HTX.out.2.2,bndT_last]
     exact h
   case rest =>
    obtain⟨rfl,hXc,bc,zc⟩:=hcut
    obtain⟨d,hd⟩:∃d:Dg,d=leafD (bytT Ps F k):=⟨_,rfl⟩
    obtain⟨nz,hnz⟩:∃nz,nz=(bytT Ps F k).length:=⟨_,rfl⟩
    have hkp:k≤Ps.length:=by rw[←HTX.out.2.2];exact hlt
    have hbst:=bodT_step Ps F k hkp
    have hn3:n'=nz+(bodT Ps F (k+1)).length:=by rw[HSB.out.1,hbst,List.length_append,hnz]
    obtain⟨n3,hn3e⟩:∃n3,n3=(bodT Ps F (k+1)).length:=⟨_,rfl⟩
    rw[←hn3e] at hn3
    have HSz:Hid (SB w w.heap.size (.slice (some ⟨bB,o',none⟩) nz ck) (bytT Ps F k)∧SB w w.heap.size (.slice (some ⟨bB,o'+nz,none⟩) n3 (ck-nz)) (bodT Ps F (k+1))):=Lib.hid (by
     have h1:=HSB.out.2.takeN (k:=nz) (by omega)
     have h2:=HSB.out.2.cutN (k:=nz) (by omega) (by omega)
     rw[hbst,List.take_left' hnz.symm] at h1
     rw[hbst,List.drop_left' hnz.symm,show n'-nz=n3 by omega] at h2
     exact⟨h1,h2⟩)
    have hnzn:nz≤n':=by omega
    have HN3:=Lib.hid (And.intro hn3 hn3e)
    have HD:=Lib.hid (And.intro hd hnz)
    have HNum2:Hid (Calls Tryz.prog 76 #[.pointer (some ⟨RI,0,none⟩)] wc fun e w'=>e=.returned (.int .u64 (nz:Int))∧RdrAt w' RI (d.1++idxT Ps F (k+1)) 0∧wc.grownBy w' (some RI)):=Lib.hid (by
     have h1:=mNum_any RI _ 0 wc hXc.out.bg.rdr
     unfold midT at h1
     rw[sNum_num _ _ (by omega),←hnz] at h1
     rw[hd]
     exact h1)
    clear hd hnz hbst hn3 hn3e
    go_upto_region 20 with (go_at_call 76;refine HNum2.out.mono ?_;rintro _ w14 ⟨rfl,hrd14,hg14⟩)
    have hX14:=Lib.hid (hXc.out.step hg14 hrd14)
    have b14:Below w8.heap.size w8 w14:=below_grown bc hg14 (by omega) (fun g e=>by injection e with e;omega)
    have z14:=hg14.size
    clear HNum2 hrd14 hg14
    go_wp2_with fail
    go_loopw [114] (fun jv wz=>∃j:Nat,jv=.int .i64 (j:Int)∧j≤32∧Hid (BxAt wz w11.heap.size w8.heap.size RI X K va (.slice Ai li ci) vr u16 rows (d.1.drop j++idxT Ps F (k+1)) ⟨(bndT Ps F k).toArray⟩ nilW (upTo 32 d.1 j))∧Below w8.heap.size w8 wz∧wx.heap.size≤wz.heap.size) (fun jv _=>32-(intOf jv).toNat)
    case atStart=>exact⟨0,rfl,Nat.zero_le _,Lib.hid (by rw[upTo_0,List.drop_zero];exact hX14.out),b14,by omega⟩
    case round =>
     obtain⟨j,rfl,hj,hXj,bj,zj⟩:=hrel
     by_cases hj2:j<32
     ·have hjl:j<d.1.length:=by rw[d.2];exact hj2
      obtain⟨bj0,hbj0⟩:∃bj0,bj0=d.1[j]:=⟨_,rfl⟩
      have HFx:Hid (Calls Tryz.prog 74 #[.pointer (some ⟨RI,0,none⟩),.int .i64 1] wr fun e w'=>e=.returned (.int .u64 (bj0.toNat:Int))∧RdrAt w' RI (d.1.drop (j+1)++idxT Ps F (k+1)) 0∧wr.grownBy w' (some RI)):=Lib.hid (by
       have h1:=mFix_any RI _ 0 1 wr hXj.out.bg.rdr (by omega) (by omega)
       rw[List.drop_eq_getElem_cons hjl,List.cons_append,sFix_one,←hbj0] at h1
       exact h1)
      have hu0:=upTo_get d.2 hj2
      have hus:(upTo 32 d.1 j).set j bj0=upTo 32 d.1 (j+1):=upTo_step d.2 hj2 (by rw[hbj0,List.getElem?_eq_getElem hjl])
      have gb:IntKind.u8.wrap (bj0.toNat:Int)=(bj0.toNat:Int):=by have:=u8_lt bj0;rw[IntKind.wrap_u8];omega
      have HU:=Lib.hid hus
      have HC0:Hid ((bv (upTo 32 d.1 j))[j]? = some (u8v 0)):=Lib.hid (by unfold bv;rw[List.getElem?_map,hu0];rfl)
      have hji:(j:Int)<32:=by omega
      clear hbj0 hus hjl hu0
      go_wp2_with (go_at_call 74;refine HFx.out.mono ?_;rintro _ w15 ⟨rfl,hrd15,hg15⟩;have hX15:=hXj.out.step hg15 hrd15;obtain⟨_,crg,cfz⟩:=rx_cells hX15.rX;have cj:=crg j (u8v 0) HC0.out)
      have b15:Below w8.heap.size w8 w15:=below_grown bj hg15 (by omega) (fun g e=>by injection e with e;omega)
      have hX16:=hX15.set2 j bj0
      rw[HU.out] at hX16
      go_roundw
      case rel=>exact⟨j+1,by go_num,by omega,Lib.hid hX16,b15.setCell (by show w8.heap.size≤X;omega) _,by have:=hg15.size;simpa using Nat.le_trans zj this⟩
      case measure=>simp[intOf];omega
     ·obtain rfl:j=32:=by omega
      have hji:¬((32:Int)<32):=by omega
      have hXe:Hid (BxAt wr w11.heap.size w8.heap.size RI X K va (.slice Ai li ci) vr u16 rows (idxT Ps F (k+1)) ⟨(bndT Ps F k).toArray⟩ nilW d.1):=Lib.hid (by
       have h:=hXj.out
       rw[upTo_n d.2,List.drop_of_length_le (by rw[d.2];omega),List.nil_append] at h
       exact h)
      have hnzi:decide (nz≤n')=true:=by simp;omega
      have gn':IntKind.u64.wrap (n':Int)=(n':Int):=by rw[IntKind.wrap_u64];omega
      have hrdr:=hXe.out.bg.rdr
      clear hXj hj hj2 hX14 b14 z14
      go_upto_region 26 with (first|(go_at_call 77;refine (mFault_any _ _ _ _ hrdr).mono ?_;rintro _ w16 ⟨rfl,rfl⟩)|(go_at_call 62;refine (HNd.out _).mono ?_;rintro _ w16 ⟨rfl,rfl⟩))
      have hs5:∀W,(Instr.sliceAt 56 (.slice (some ⟨bB,o',none⟩) n' ck) none (some (.int .u64 (nz:Int))) none).run Tryz.prog W=.ok (.slice (some ⟨bB,o',none⟩) nz ck) W:=fun W=>run_headN W _ n' ck nz .u64 (by omega)
      have hs6:∀W,(Instr.sliceAt 56 (.slice (some ⟨bB,o',none⟩) n' ck) (some (.int .u64 (nz:Int))) none none).run Tryz.prog W=.ok (.slice (some ⟨bB,o'+nz,none⟩) n3 (ck-nz)) W:=fun W=>by
       have h:=run_cutN W bB o' n' ck nz .u64 (by omega) (by omega)
       rw[show n'-nz=n3 by have:=HN3.out.1;omega] at h
       exact h
      have gnz:IntKind.i64.wrap (nz:Int)=(nz:Int):=by rw[IntKind.wrap_i64];omega
      have hXd:=hXe.out.drew
      obtain⟨⟨_,c1⟩,_,cfz⟩:=rx_cells hXd.rX
      have hXs:=(hXe.out.set1 (.slice (some ⟨bB,o',none⟩) nz ck)).drew
      have bjs:=bdrew' (bj.setCell (p:=⟨X,1,none⟩) (by show w8.heap.size≤X;omega) (.slice (some ⟨bB,o',none⟩) nz ck))
      have zjs:=(Array.getElem?_eq_some_iff.1 hXs.rX).1
      clear hnzi gn' hrdr hXe hXd
      refine wp_region_noPanic ?_
      refine wp_region_held_drew (S:=fun W=>True∧True) (by kernel_rfl) ⟨trivial,trivial⟩ (fun hHeld=>?_)
      refine rtk 0 ?_
      refine rtk 1 ?_
      refine rtk 2 ?_
      refine rtk 3 ?_
      refine rtk 4 ?_
      refine rtk 5 ?_
      refine rtk 6 ?_
      refine ro 7 (fun K hK=>?_)
      (go_simp)
      refine hK.out _ _ ?_ (fun hHeld=>?_)
      ·exact⟨trivial,trivial⟩
      clear hK K
      try simp only[Act.put,q1,q2,q3]
      refine rtk 8 ?_
      refine rdn ?_
      generalize hW17:World.drew _=w17
      rw[hW17] at hXs bjs zjs
      clear hW17 hs5 hs6 gnz c1 cfz hHeld
      go_upto_region 27 with fail
      obtain⟨Ar,crr,rfl,_,hcrr⟩:=hXs.bg.orow.sg.form
      have c65:=(rd_cells hXs.bg.row hKl).2.1.2.1
      obtain⟨x,hx⟩:∃x:Rw,x=⟨bndT Ps F k,bytT Ps F k,.slice (some ⟨bB,o',none⟩) nz ck,d⟩:=⟨_,rfl⟩
      obtain⟨xc,hxc⟩:∃xc,xc=(rwC x).toArray:=⟨_,rfl⟩
      have hrX:w17.heap[X]? = some (.cells xc 101 (0,0)):=by rw[hxc,hx];exact hXs.rX
      have hxs:xc.size=34:=by rw[hxc,List.size_toArray];exact rwC_length x
      have hx1:∀y∈[x],∀u∈rwC y,u.oneCell'=true:=fun y hy=>by
       rw[List.mem_singleton.1 hy]
       exact rw_one (by rw[hx];rfl)
      have HXX:=Lib.hid (And.intro hx hxc)
      have HXs:=Lib.hid hXs
      have hor7:OG 101 rwC 34 (w17.drew.alloc (.cells xc 101)) w11.heap.size (.slice Ar rows.length crr) rows:=hXs.bg.orow.drew.alloc _
      have hsg7:SG rwC 34 (w17.drew.alloc (.cells xc 101)) (w17.drew.heap.size+1) (.slice (some ⟨w17.drew.heap.size,0,none⟩) 1 1) [x]:=by
       have:=SG.new1 w17.drew rwC 34 101 x (rwC_length x) (g:=w17.drew.heap.size) rfl (Nat.lt_succ_self _)
       rw[←hxc] at this
       exact this
      have hRlt:=(Array.getElem?_eq_some_iff.1 hXs.bg.row).1
      have c65a:(w17.drew.alloc (.cells xc 101)).cell? ⟨w8.heap.size,65,none⟩=some (.slice Ar rows.length crr):=(World.cell?_alloc_lt w17.drew _ _ (by show w8.heap.size<w17.heap.size;omega)).trans c65
      have hlen7:rows.length+[x].length≤maxLen:=by have:=HRL.out;simp only[List.length_cons,List.length_nil,maxLen];omega
      have hby7:(rows.length+[x].length)*72≤140737488355328:=by have:=HRL.out;simp only[List.length_cons,List.length_nil];omega
      have hbz7:w11.heap.size≤(w17.drew.alloc (.cells xc 101)).heap.size:=by rw[World.size_alloc];show _≤w17.heap.size+1;omega
      clear hx hxc hXs
      refine wp_region_noPanic ?_
      refine wp_regionG (fun w'=>w'.cell? ⟨w8.heap.size,65,none⟩=some (.slice Ar rows.length crr)) [7,8,9,10] (by kernel_rfl) c65 (fun hHeld=>?_)
      refine rgp 0 ?_
      refine rgp 1 ?_
      refine rgp 2 ?_
      refine rgp 3 ?_
      refine rgk 4 ?_
      refine rgo 5 (fun K hK=>?_)
      (refine wp_of_exec (exec_loadRow 101 (c:=34) Tryz.underlying101 rfl (by kernel_rfl) (.tmp 18) rfl X rfl xc hrX hxs) ?_)
      refine hK.out _ _ ?_ (fun hHeld=>?_)
      ·exact c65
      clear hK K
      try simp only[Act.put,q1,q2,q3]
      refine rgo 6 (fun K hK=>?_)
      (refine wp_buildG (c:=34) 94 101 _ 72 infoRw Tryz.underlying94 (by omega) (by omega) (by omega) (.tmp 147) rfl xc rfl hxs ?_)
      refine hK.out _ _ ?_ (fun hHeld=>?_)
      ·exact c65a
      clear hK K
      try simp only[Act.put,q1,q2,q3]
      refine regG_last (S:=fun _=>True∧True) 7 (by rfl) (by kernel_rfl) (by rfl) (by kernel_rfl) (fun K hK=>?_)
      (refine wp_appG 94 101 _ 72 infoRw Tryz.underlying94 (by rfl) (by omega) (.tmp 146) (.tmp 148) rfl w11.heap.size _ rows rfl hor7 (w17.drew.heap.size+1) _ [x] hx1 rfl hsg7 hlen7 hby7 hbz7 ?_;intro vr' w18 ho18 hg18 hs18 hb18)
      refine hK.out _ _ ?_ (fun hHeld=>?_)
      ·exact⟨trivial,trivial⟩
      clear hK K
      try simp only[Act.put,q1,q2,q3]
      obtain⟨g18,c18,rfl⟩:=ho18.form0 (by simp)
      have gl18:w17.grownBy w18 (Value.ownBlock (.slice Ar rows.length crr)):=((show w17.grownBy w17.drew _ from ⟨rfl,rfl,rfl,Nat.le_refl _,fun _ _ _=>rfl⟩).trans (World.grownBy_alloc w17.drew _ _)).trans hg18
      have hfs18:FS w17.heap.size (.slice Ar rows.length crr) (.slice (some ⟨g18,0,none⟩) (rows++[x]).length c18):=hs18.imp id (fun e=>⟨_,e,by rw[World.size_alloc];show w17.heap.size≤w17.heap.size+1;omega⟩)
      have hp:=HXs.out.bg.push hKl ho18 gl18 hfs18
      have hr18:=HXs.out.bg.rowKeep gl18
      obtain⟨_,⟨_,e65,_⟩,fz18,_⟩:=rd_cells hr18 hKl
      have hX18:w18.heap[X]? = some (.cells xc 101 (0,0)):=(gl18.block X zjs (fun e=>HXs.out.nr e.symm)).trans hrX
      have hX19:(w18.setCell ⟨w8.heap.size,65,none⟩ (.slice (some ⟨g18,0,none⟩) (rows++[x]).length c18)).heap[X]? = some (.cells xc 101 (0,0)):=(Below.heap_setCell _ _ _ _ (by have:=HXs.out.bg.lo;have:=HXs.out.bg.hi;have:=HXs.out.hX;show X≠w8.heap.size;omega)).trans hX18
      have b19:=HXs.out.bg.belowPush (v:=.slice (some ⟨g18,0,none⟩) (rows++[x]).length c18) bjs gl18 (Nat.le_refl _) (by omega)
      have z19:w17.heap.size≤(w18.setCell ⟨w8.heap.size,65,none⟩ (.slice (some ⟨g18,0,none⟩) (rows++[x]).length c18)).heap.size:=by have:=gl18.size;simpa [World.setCell] using this
      have el18:(rows++[x]).length=rows.length+1:=by simp
      rw[el18] at hp hX19 b19 z19 ⊢
      have HP:=Lib.hid (And.intro hp (And.intro hX19 (And.intro b19 z19)))
      clear hp hX19 b19 z19 hr18 hX18 gl18 hfs18 hg18 hs18 hb18 ho18 el18 hx1 hor7 hsg7 c65a c65 hlen7 hby7 hbz7 bjs
      refine rtk 8 ?_
      refine rtk 9 ?_
      refine ro 10 (fun K hK=>?_)
      (go_simp)
      refine hK.out _ _ ?_ (fun hHeld=>?_)
      ·exact⟨trivial,trivial⟩
      clear hK K
      try simp only[Act.put,q1,q2,q3]
      refine rdn ?_
      obtain⟨⟨p1,p2,p3,p4,p5⟩,hX19,b19,z19⟩:=HP.out
      generalize hW19:World.setCell _ _ _=w19
      rw[hW19] at p1 p2 p3 p4 hX19 b19 z19
      clear hW19 HP
      obtain⟨lvs,hlvs⟩:∃lvs,lvs=rows.map (·.leaf):=⟨_,rfl⟩
      rw[←hlvs] at p3
      have hlvl:lvs.length≤1001:=by have:=HRL.out;rw[hlvs,List.length_map];omega
      obtain⟨Al,cl,rfl,_⟩:=p3.sd.form
      have HLV:=Lib.hid hlvs
      have HP5:=Lib.hid (And.intro p1 (And.intro p2 (And.intro p4 (And.intro p5 b19))))
      have hrg19:w19.rangeAt X 2 (bv d.1):=by
       have h:=(rw_cells (x:=x) hX19 HXX.out.2.symm).2.2
       rw[HXX.out.1] at h
       exact h
      have hdd:dgA d.1=dgA d.1:=rfl
      have hbz19:w11.heap.size≤w19.heap.size:=by omega
      have hll:(lvs.length+1)*32≤140737488355328:=by omega
      have gk:IntKind.u64.wrap ((k:Int)+1)=(k:Int)+1:=by rw[IntKind.wrap_u64];omega
      clear p1 p2 p4 p5 hX19 hlvs e65 fz18
      go_upto_region 15 with (first|(refine wl_loadM rfl (.tmp 153) rfl X 2 rfl d hrg19 ?_)|(refine wl_buildD rfl (.tmp 154) rfl (dgA d.1) rfl (dgA_n d) ?_)|(at_builtin;go_loud (refine wl_appD1 rfl (.tmp 152) (.tmp 155) rfl w11.heap.size _ lvs rfl p3 d _ rfl rfl rfl hll hbz19 ?_);intro vl' w20 ho20 hg20 hs20 hb20))
      have hz20:=hb20.size
      have HBG':Hid (BgAt w20 w11.heap.size w8.heap.size RI K va (.slice Ai li ci) (.slice (some ⟨g18,0,none⟩) (rows.length+1) c18) vl' (rows++[x]) (idxT Ps F (k+1))):=Lib.hid (by
       obtain⟨p1,p2,p4,p5,_⟩:=HP5.out
       exact BgAt.leaf p1 p2 p3 p4 p5 HXs.out.bg.lo HXs.out.bg.hi ho20 hg20 (hs20.imp id (fun e=>⟨_,e,by omega⟩)) (by rw[HLV.out,List.map_append,HXX.out.1];rfl))
      have HRW':Hid ((rows++[x]).map (fun x=>(x.bound,x.bytes))=(rowsT Ps F).take (k+1)∧∀y∈rows++[x],SB w w.heap.size y.v y.bytes∧y.leaf=leafD y.bytes):=Lib.hid (by
       refine⟨by rw[List.map_append,HRW.out.1,rowsT_take Ps F k hkp,HXX.out.1];rfl,fun y hy=>?_⟩
       rcases List.mem_append.1 hy with hy|hy
       ·exact HRW.out.2 y hy
       ·rw[List.mem_singleton.1 hy,HXX.out.1]
        exact⟨HSz.out.1,HD.out.1⟩)
      have HRL':Hid ((rows++[x]).length=k+1):=Lib.hid (by have:=HRL.out;simp;omega)
      have b20:Below w8.heap.size w8 w20:=HP5.out.2.2.2.2.trans (hb20.mono (by omega))
      have hn3l:n3≤n':=by have:=HN3.out.1;omega
      have hn3c:n3+8≤ck-nz:=by have:=HN3.out.1;omega
      have hz11:w11.heap.size≤w20.heap.size:=by omega
      clear p3 ho20 hg20 hs20 hb20 hz20 hrg19 hdd hll
      go_wp2_with fail
      clear gk
      go_roundw
      case rel=>exact⟨k+1,rows++[x],_,o'+nz,n3,ck-nz,by go_num,by omega,rfl,hn3c,by omega,by omega,Lib.hid ⟨HN3.out.2,HSz.out.2⟩,HRW',HBG',HRL',b20,hz11⟩
      case measure=>simp[intOf];omega
  ·obtain rfl:k=np+1:=by omega
   have hnp:np=Ps.length:=HTX.out.2.2
   obtain rfl:n'=0:=by
    have h:=HSB.out.1
    rw[hnp,bodT_end] at h
    exact h
   have HRW2:Hid (rows.map (fun x=>(x.bound,x.bytes))=rowsT Ps F):=Lib.hid (by rw[HRW.out.1,hnp,List.take_of_length_le (by rw[rowsT_length];omega)])
   have hrdE:RdrAt wr RI [] 0:=by
    have h:=HBG.out.rdr
    rw[hnp,idxT_end] at h
    exact h
   obtain⟨lvs,hlvs⟩:∃lvs,lvs=rows.map (·.leaf):=⟨_,rfl⟩
   have hlvl:lvs.length≤1001:=by have:=HRL.out;rw[hlvs,List.length_map];omega
   have HLE:Hid (lvs++[leafD II]=Ps.map (fun p=>leafD p.bytes)++[leafD F,leafD II]):=Lib.hid (by
    have h1:rows.map (·.leaf)=(rows.map (fun x=>(x.bound,x.bytes))).map (fun q=>leafD q.2):=by
     rw[List.map_map]
     exact List.map_congr_left (fun x hx=>(HRW.out.2 x hx).2)
    rw[hlvs,h1,HRW2.out]
    simp[rowsT])
   have hod:=HBG.out.olv
   rw[←hlvs] at hod
   obtain⟨Al,cl,rfl,_⟩:=hod.sd.form
   obtain⟨rt,hrt⟩:∃rt:Dg,rt=rootR jnD zD (lvs++[leafD II]):=⟨_,rfl⟩
   have HMR:Hid (m.root=rt.1):=Lib.hid (by rw[hrt,HLE.out];exact HALL.out.2.2.2.2.2.2.1)
   have HB8:Hid (Below w2.heap.size w2 wr):=Lib.hid (b8.trans (hbr.mono b8.size))
   have bw8r:Below w.heap.size w wr:=bw8.trans (hbr.mono bw8.size)
   have z8:=bw8.size
   have hMlt:w.heap.size+1<w8.heap.size:=by have:=b8.size;omega
   have KS:Hid (∀W,Below w8.heap.size wr W→W.heap[w8.heap.size]? = wr.heap[w8.heap.size]?→W.cell? ⟨w8.heap.size,66,none⟩=some (.slice Ai li ci)∧W.rangeAt (w.heap.size+1) 8 (bv rt.1)):=Lib.hid (fun W hW hR=>by
    refine⟨(rd_cells (hR.trans HBG.out.row) hKl).2.1.2.2,?_⟩
    have h1:=(HKS.out _ HB8.out).2.1
    have h2:=(mt_cells ((hW.block _ hMlt).trans h1) HALL.out.2.2.2.2.2.2.2.2.1).2
    rw[HMR.out] at h2
    exact h2)
   obtain⟨cI,hcI⟩:∃cI,dgA (leafD II).1=cI:=⟨_,rfl⟩
   have HcI:Hid (cI.size=32):=Lib.hid (by rw[←hcI];exact dgA_n _)
   have HLfI:Hid (Calls Tryz.prog 80 #[.slice Ai li ci] wr.drew fun e w'=>e=.returned (.agg cI)∧Below wr.drew.heap.size wr.drew w'):=Lib.hid (kLeaf_any II cI hcI _ wr.drew (HIdx.out.on (bdrew bw8r)) (by have:=HBT.out.2.1;omega) (hk.on (bdrew bw8r) h1) (by show _<wr.heap.size;have:=bw8r.size;omega))
   have HEnd:Hid (Calls Tryz.prog 79 #[.pointer (some ⟨RI,0,none⟩)] wr.drew fun e w'=>e=.returned (.int .i64 0)∧w'=wr.drew):=Lib.hid (mEnd_any RI [] 0 wr.drew (hrdE.drewN 1))
   have HEq:Hid (∀w',(Op.equalIn 10000 53 (.agg (dgA rt.1)) (.agg (dgA rt.1))).run Tryz.prog w'=.ok true w'):=Lib.hid (fun w'=>run_eqC w' _ rt.1 rt.2 rfl)
   have hEq:=HEq.out
   have hll:(lvs.length+1)*32≤140737488355328:=by omega
   have HLV:=Lib.hid (And.intro hlvs (And.intro hrt hcI))
   have HOD:=Lib.hid hod
   clear hlvs hrt hcI hod hrdE
   go_upto_region 29 with fail
   refine wp_region_noPanic ?_
   refine wp_region_held_drew (S:=fun W=>True∧W.cell? ⟨w8.heap.size,66,none⟩=some (.slice Ai li ci)∧W.rangeAt (w.heap.size+1) 8 (bv rt.1)) (by kernel_rfl) ⟨trivial,KS.out _ (bdrew' (Below.refl _ _)) rfl⟩ (fun hHeld=>?_)
   refine rtk 0 ?_
   refine ro 1 (fun K hK=>?_)
   (go_simp;go_at_call 79;refine HEnd.out.mono ?_;rintro _ w21 ⟨rfl,rfl⟩;go_wp2_with fail)
   refine hK.out _ _ ?_ (fun hHeld=>?_)
   ·exact⟨trivial,KS.out _ (bdrew' (Below.refl _ _)) rfl⟩
   clear hK K
   try simp only[Act.put,q1,q2,q3]
   refine rtk 2 ?_
   refine rtk 3 ?_
   refine rtk 4 ?_
   refine rtk 5 ?_
   refine rtk 6 ?_
   refine rtk 7 ?_
   refine rtk 8 ?_
   refine rtk 9 ?_
   refine rtk 10 ?_
   refine rtk 11 ?_
   refine rtk 12 ?_
   refine rtk 13 ?_
   refine rtk 18 ?_
   refine reg_take 19 (v:=.agg (dgA rt.1)) (by rfl) (by kernel_rfl) (by kernel_rfl) (by kernel_rfl) (fun _ _ _ h=>h) (by rfl) ?_ (by assumption) ?_
   ·(intro wq hSq;exact exec_loadM (.tmp 175) rfl (w.heap.size+1) 8 rfl rt hSq.2.2)
   try simp only[Act.put,q1,q2,q3]
   have hRw:w8.heap.size<wr.heap.size:=(Array.getElem?_eq_some_iff.1 HBG.out.row).1
   have hz8r:w8.heap.size≤wr.heap.size:=Nat.le_of_lt hRw
   have KS1:Hid (∀W,Below wr.heap.size wr W→W.cell? ⟨w8.heap.size,66,none⟩=some (.slice Ai li ci)∧W.rangeAt (w.heap.size+1) 8 (bv rt.1)):=Lib.hid (fun W hW=>KS.out W (hW.mono hz8r) (hW.block _ hRw))
   refine ro 14 (fun K hK=>?_)
   (go_simp;go_at_call 80;refine HLfI.out.mono ?_;rintro _ w22 ⟨rfl,hb22⟩;have b22:=bstep (bdrew (bself wr)) hb22;go_wp2_with fail)
   refine hK.out _ _ ?_ (fun hHeld=>?_)
   ·exact⟨trivial,KS1.out _ b22⟩
   clear hK K
   try simp only[Act.put,q1,q2,q3]
   have b22a:Below wr.heap.size wr (w22.alloc (.cells cI 53)):=balloc b22 _
   have z22:=b22.size
   refine ro 15 (fun K hK=>?_)
   (refine wp_buildD (.tmp 171) rfl cI rfl HcI.out ?_)
   refine hK.out _ _ ?_ (fun hHeld=>?_)
   ·exact⟨trivial,KS1.out _ b22a⟩
   clear hK K
   try simp only[Act.put,q1,q2,q3]
   have hod22:OD (w22.alloc (.cells cI 53)) w11.heap.size (.slice Al lvs.length cl) lvs:=OD.below HOD.out b22a (Nat.le_refl _)
   have hsd22:SD (w22.alloc (.cells cI 53)) (w22.heap.size+1) (.slice (some ⟨w22.heap.size,0,none⟩) 1 1) [leafD II]:=by rw[←HLV.out.2.2];exact SD.new1 w22 (leafD II) rfl (Nat.lt_succ_self _)
   have hbz22:w11.heap.size≤(w22.alloc (.cells cI 53)).heap.size:=by rw[World.size_alloc];omega
   have hbg22:BgAt (w22.alloc (.cells cI 53)) w11.heap.size w8.heap.size RI K va (.slice Ai li ci) vr (.slice Al lvs.length cl) rows _:=HBG.out.on b22a
   have HG24:Hid (∀W,(w22.alloc (.cells cI 53)).grownBy W (Value.ownBlock (.slice Al lvs.length cl))→Below w11.heap.size (w22.alloc (.cells cI 53)) W→W.heap[w8.heap.size]? = some (rowRd K va vr (.slice Ai li ci))∧OG 101 rwC 34 W w11.heap.size vr rows∧Below w8.heap.size wr W∧Below w8.heap.size w8 W):=Lib.hid (fun W hg hb=>by
    have hlo:=hbg22.lo
    have hhi:=hbg22.hi
    have hb2:Below w8.heap.size wr W:=(b22a.mono hz8r).trans (hb.mono (by omega))
    refine⟨(hg.block _ (Array.getElem?_eq_some_iff.1 hbg22.row).1 (fun e=>by have:=(hod22.lt _ e.symm).1;omega)).trans hbg22.row,hbg22.orow.grown hg hbg22.ap,hb2,hbr.trans hb2⟩)
   have KS2:Hid (∀W,(w22.alloc (.cells cI 53)).grownBy W (Value.ownBlock (.slice Al lvs.length cl))→Below w11.heap.size (w22.alloc (.cells cI 53)) W→W.cell? ⟨w8.heap.size,66,none⟩=some (.slice Ai li ci)∧W.rangeAt (w.heap.size+1) 8 (bv rt.1)):=Lib.hid (fun W hg hb=>by
    obtain⟨h1,_,h3,_⟩:=HG24.out W hg hb
    exact KS.out W h3 (h1.trans HBG.out.row.symm))
   refine ro 16 (fun K hK=>?_)
   (refine wp_appD (.tmp 166) (.tmp 172) rfl w11.heap.size _ lvs rfl hod22 (w22.heap.size+1) _ [leafD II] rfl hsd22 hll hbz22 ?_;intro v24 w24 ho24 hg24 hs24 hb24)
   refine hK.out _ _ ?_ (fun hHeld=>?_)
   ·exact⟨trivial,KS2.out _ hg24 hb24⟩
   clear hK K
   try simp only[Act.put,q1,q2,q3]
   obtain⟨hr24,hor24,hb24r,hb248⟩:=HG24.out _ hg24 hb24
   have hz24:w8.heap.size≤w24.heap.size:=hb248.size
   obtain⟨g24,c24,rfl⟩:=ho24.form0 (by simp)
   have el24:(lvs++[leafD II]).length=lvs.length+1:=by simp
   have hbw24:Below w.heap.size w w24:=bw8.trans (hb248.mono z8)
   have HRt:Hid (Calls Tryz.prog 61 #[.slice (some ⟨g24,0,none⟩) (lvs.length+1) c24] w24 fun e w'=>e=.returned (.agg (dgA rt.1))∧Below w24.heap.size w24 w'):=Lib.hid (by
    have h2:=kRoot_any (lvs++[leafD II]) (by omega) _ (dgA rt.1) (by rw[HLV.out.2.1]) w24 ho24.sd (hk.on hbw24 h1) (by omega)
    rw[el24] at h2
    exact h2)
   rw[el24]
   have HRTR:Hid (∀W,Below w24.heap.size w24 W→BegPost w K ad Ps F (.returned (.pointer (some ⟨w8.heap.size,0,none⟩))) W):=Lib.hid (fun W hW=>by
    have hbW:Below w8.heap.size w8 W:=hb248.trans (hW.mono hz24)
    have hbwW:Below w.heap.size w W:=bw8.trans (hbW.mono z8)
    exact⟨w8.heap.size,rows,rfl,⟨va,vr,_,(hW.block _ (Array.getElem?_eq_some_iff.1 hr24).1).trans hr24,HHoa.out.sb.on hbW,hor24.sg.on hW,fun x hx=>⟨(HRW.out.2 x hx).1.on hbwW,(HRW.out.2 x hx).2⟩⟩,HRW2.out,hbwW⟩)
   clear el24 hbw24 hr24 hor24 hb24r hb248 hs24 ho24 hbg22 hsd22 hod22 hg24
   have KS3:Hid (∀W,Below w24.heap.size w24 W→W.cell? ⟨w8.heap.size,66,none⟩=some (.slice Ai li ci)∧W.rangeAt (w.heap.size+1) 8 (bv rt.1)):=Lib.hid (fun W hW=>⟨(hW.cell (p:=⟨w8.heap.size,66,none⟩) (by show w8.heap.size<_;have:=hb24.size;omega)).trans hHeld.2.1,fun j v hv=>(hW.cell (p:=⟨w.heap.size+1,8+j,none⟩) (by show w.heap.size+1<_;omega)).trans (hHeld.2.2 j v hv)⟩)
   refine ro 17 (fun K hK=>?_)
   (go_simp;go_at_call 61;refine HRt.out.mono ?_;rintro _ w25 ⟨rfl,hb25⟩;go_wp2_with fail)
   refine hK.out _ _ ?_ (fun hHeld=>?_)
   ·exact⟨trivial,KS3.out _ hb25⟩
   clear hK K
   try simp only[Act.put,q1,q2,q3]
   refine rtk 20 ?_
   refine rtk 21 ?_
   refine ro 22 (fun K hK=>?_)
   (go_simp;go_at_call 62;refine (HNd.out _).mono ?_;rintro _ w26 ⟨rfl,rfl⟩;go_wp2_with fail)
   refine hK.out _ _ ?_ (fun hHeld=>?_)
   ·exact⟨trivial,KS3.out _ hb25⟩
   clear hK K
   try simp only[Act.put,q1,q2,q3]
   refine rdn ?_
   have HPO:=HRTR.out _ hb25
   clear hEq hHeld KS KS1 KS2 KS3 HRTR HRt HG24
   have HPO2:=Lib.hid HPO
   clear HPO
   go_wp2_with fail
   go_ret
   exact HPO2.out
end Go.Proofs.YtchjknbideoieaaGreatDoor
