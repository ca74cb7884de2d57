/- What is proved here: what Block of package stream comes to, at this seat's numbers. No condition. -/
import Derived.Test.YtchjknbideoieaaGreatDoorK40
import Derived.Test.YtchjknbideoieaaGreatDoorK12
import Derived.Test.YtchjknbideoieaaGreatDoorK05
namespace Go.Proofs.YtchjknbideoieaaGreatDoor
set_option maxRecDepth 100000
set_option maxHeartbeats 8000000
open Go.RowKit
def x0L:List UInt32:=[0x61707865,0x3320646e,0x79622d32,0x6b206574,0,0,0,0,0,0,0,0,0,0,0,0]
theorem start_is (key nonce:List UInt8) (count:UInt32):upW ((upW x0L 4 key 8).set 12 count) 13 nonce 3=start16 key nonce count:=rfl
theorem rowW_size (l:List UInt32):(l.map u32v).toArray.size=l.length:=by simp
theorem rowW_one (l:List UInt32):∀v∈(l.map u32v).toArray.toList,v.oneCell'=true:=by
 intro v hv
 simp only[List.mem_map] at hv
 obtain⟨x,_,rfl⟩:=hv
 rfl
def shr8:Nat→UInt32→UInt32
 | 0,z=>z
 | k+1,z=>shr8 k z >>> 8
theorem four_at:∀(l:List UInt32) (i k:Nat) (hi:i<l.length) (_hk:k<4),(l.flatMap four)[4*i+k]? = some (shr8 k l[i]).toUInt8
 | [],_,_,hi,_=>by simp at hi
 | x::l,0,k,_,hk=>by
  rw[List.flatMap_cons,List.getElem?_append_left (by simp[four];omega)]
  match k,hk with
  | 0,_=>rfl
  | 1,_=>rfl
  | 2,_=>rfl
  | 3,_=>rfl
 | x::l,i+1,k,hi,hk=>by
  have h4:(four x).length=4:=rfl
  rw[List.flatMap_cons,List.getElem?_append_right (by rw[h4];omega),h4,show 4*(i+1)+k-4=4*i+k by omega,four_at l i k (by simpa using hi) hk]
  rfl
theorem strm_at (key nonce:List UInt8) (count:UInt32) (i k:Nat) (hi:i<16) (hk:k<4):(strmB key nonce count)[4*i+k]? = some (shr8 k (at16 (roundsY 10 (start16 key nonce count)) i+at16 (start16 key nonce count) i)).toUInt8:=by
 have h1:=start16_length key nonce count
 have h2:=roundsY_length (start16 key nonce count) 10
 unfold strmB
 simp only
 rw[four_at _ i k (by rw[List.length_zipWith];omega) hk,List.getElem_zipWith]
 unfold at16
 rw[List.getD_eq_getElem?_getD,List.getD_eq_getElem?_getD,List.getElem?_eq_getElem (by omega),List.getElem?_eq_getElem (by omega)]
 rfl
theorem res_64 {fn:Func} {p:Tmp} (h:fn.results=#[.cell p 215]) (tmps:Array Value) (w:World) (g:Nat) (cs:Array Value) (hp:tmps.getD p undef=.pointer (some ⟨g,0,none⟩)) (hg:w.heap[g]? = some (rowT 215 cs)) (hn:cs.size=64) :
  (results fn tmps).run Tryz.prog w=.ok (.agg cs) w :=
 results_cell_row h tmps w g _ cs (0,0) _ hp hg Tryz.underlying215 rfl (by rw[hn];kernel_rfl)
theorem at16_get {Y:List UInt32} {i:Nat} (h:i<Y.length):at16 Y i=Y[i]:=by
 unfold at16
 rw[List.getD_eq_getElem?_getD,List.getElem?_eq_getElem h]
 rfl
theorem quart_at {w:World} {E:Nat} {T:TypeId} {Y:List UInt32} (h:w.heap[E]? = some (rowW T Y)) (hY:Y.length=16) (i j k l:Nat) (hi:i<16) (hj:j<16) (hk:k<16) (hl:l<16) (hij:i≠j) (hik:i≠k) (hil:i≠l) (hjk:j≠k) (hjl:j≠l) (hkl:k≠l) :
  (w.cell? ⟨E,i,none⟩=some (u32v (at16 Y i))∧w.cell? ⟨E,j,none⟩=some (u32v (at16 Y j))∧w.cell? ⟨E,k,none⟩=some (u32v (at16 Y k))∧w.cell? ⟨E,l,none⟩=some (u32v (at16 Y l))) ∧
  (w.frozen? ⟨E,i,none⟩=false∧w.frozen? ⟨E,j,none⟩=false∧w.frozen? ⟨E,k,none⟩=false∧w.frozen? ⟨E,l,none⟩=false) ∧
  ((∀v,(w.setCell ⟨E,i,none⟩ v).cell? ⟨E,j,none⟩=some (u32v (at16 Y j)))∧(∀v u,((w.setCell ⟨E,i,none⟩ v).setCell ⟨E,j,none⟩ u).cell? ⟨E,k,none⟩=some (u32v (at16 Y k))) ∧
   (∀v u t,(((w.setCell ⟨E,i,none⟩ v).setCell ⟨E,j,none⟩ u).setCell ⟨E,k,none⟩ t).cell? ⟨E,l,none⟩=some (u32v (at16 Y l)))) ∧
  (∀q:Qd,((((w.setCell ⟨E,i,none⟩ (u32v q.a)).setCell ⟨E,j,none⟩ (u32v q.b)).setCell ⟨E,k,none⟩ (u32v q.c)).setCell ⟨E,l,none⟩ (u32v q.d)).heap[E]? = some (rowW T (put4 Y i j k l q)) ∧
   w.grownBy ((((w.setCell ⟨E,i,none⟩ (u32v q.a)).setCell ⟨E,j,none⟩ (u32v q.b)).setCell ⟨E,k,none⟩ (u32v q.c)).setCell ⟨E,l,none⟩ (u32v q.d)) (some E)):=by
 have ne:∀(a b:Nat),a≠b→(⟨E,a,none⟩:Addr)≠⟨E,b,none⟩:=fun a b hab e=>by injection e with _ e;exact hab e
 obtain⟨ci,fi,si⟩:=w_cell h (k:=i) (by omega)
 obtain⟨cj,fj,sj⟩:=w_cell h (k:=j) (by omega)
 obtain⟨ck,fk,sk⟩:=w_cell h (k:=k) (by omega)
 obtain⟨cl,fl,sl⟩:=w_cell h (k:=l) (by omega)
 rw[at16_get (by omega),at16_get (by omega),at16_get (by omega),at16_get (by omega)]
 refine⟨⟨ci,cj,ck,cl⟩,⟨fi,fj,fk,fl⟩,⟨fun v=>?_,fun v u=>?_,fun v u t=>?_⟩,fun q=>⟨?_,?_⟩⟩
 ·exact (World.cell?_setCell_other _ _ _ _ (ne _ _ hij)).trans cj
 ·exact (World.cell?_setCell_other _ _ _ _ (ne _ _ hjk)).trans ((World.cell?_setCell_other _ _ _ _ (ne _ _ hik)).trans ck)
 ·exact (World.cell?_setCell_other _ _ _ _ (ne _ _ hkl)).trans ((World.cell?_setCell_other _ _ _ _ (ne _ _ hjl)).trans ((World.cell?_setCell_other _ _ _ _ (ne _ _ hil)).trans cl))
 ·have h1:=si q.a
  have h2:=(w_cell h1 (k:=j) (by rw[List.length_set];omega)).2.2 q.b
  have h3:=(w_cell h2 (k:=k) (by rw[List.length_set,List.length_set];omega)).2.2 q.c
  exact (w_cell h3 (k:=l) (by rw[List.length_set,List.length_set,List.length_set];omega)).2.2 q.d
 ·exact (((grown_set (p:=⟨E,i,none⟩) w rfl _).trans (grown_set (p:=⟨E,j,none⟩) _ rfl _)).trans (grown_set (p:=⟨E,k,none⟩) _ rfl _)).trans (grown_set (p:=⟨E,l,none⟩) _ rfl _)
theorem kStrm_any (key nonce:List UInt8) (count:UInt32) (hk:key.length=32) (hn:nonce.length=12) (ck cn co:Array Value) (hck:dgA key=ck) (hcn:dgA nonce=cn) (hco:dgA (strmB key nonce count)=co) (w:World) :
  Calls Tryz.prog 129 #[.agg ck,.agg cn,.int .u32 (count.toNat:Int)] w fun e w'=>e=.returned (.agg co)∧Below w.heap.size w w':=by
 have HCK:=Lib.hid (And.intro hk (And.intro hn (And.intro hck (And.intro hcn hco))))
 clear hck hcn hco
 go_enter Tryz.func129,Tryz.ntmps129
 go_upto_region 2 with fail
 generalize hWA:World.alloc _ _=wA
 have rX:wA.heap[w.heap.size+1+1+1]? = some (rowW 230 x0L):=by
  rw[←hWA]
  have h:=heap_alloc_new (((w.alloc (.cells ck 52)).alloc (.cells cn 172)).alloc (rowT 215 (dgA (List.replicate 64 0)))) (rowW 230 x0L)
  simp only[World.size_alloc] at h
  exact h
 have rO:wA.heap[w.heap.size+1+1]? = some (rowT 215 (dgA (List.replicate 64 0))):=by
  rw[←hWA]
  have h:=heap_alloc_new ((w.alloc (.cells ck 52)).alloc (.cells cn 172)) (rowT 215 (dgA (List.replicate 64 0)))
  simp only[World.size_alloc] at h
  exact (heap_alloc_old _ _ (by simp)).trans h
 have rN:wA.heap[w.heap.size+1]? = some (rowT 172 cn):=by
  rw[←hWA]
  exact (heap_alloc_old _ _ (by simp)).trans ((heap_alloc_old _ _ (by simp)).trans (heap_alloc2_new w _ _))
 have rK:wA.heap[w.heap.size]? = some (rowT 52 ck):=by
  rw[←hWA]
  exact (heap_alloc_old _ _ (by simp;omega)).trans ((heap_alloc_old _ _ (by simp;omega)).trans (heap_alloc2_old w _ _))
 have bA:Below w.heap.size w wA:=by rw[←hWA];exact balloc (balloc (balloc (balloc (bself w) _) _) _) _
 have zA:wA.heap.size=w.heap.size+4:=by rw[←hWA];simp
 clear hWA
 have HC:=HCK.out
 have hz1:∀t,4≤t→t<4+8→x0L[t]? = some 0:=fun t h1 h2=>(by decide +kernel:∀t,t<12→4≤t→x0L[t]? = some 0) t h2 h1
 have HW1:=Lib.hid (kWords_any (w.heap.size+1+1+1) 4 8 12 x0L 230 _ key wA.drew rX (by decide) (by decide) hz1 (by omega) (by omega) (SB.ofRow (B:=w.heap.size+1+1+1) (w:=wA.drew) rK HC.2.2.1 hk.symm (by omega) (by rw[hk];simp[maxLen])) (by omega))
 refine wp_region_noPanic ?_
 refine wp_region_held_drew (S:=fun w'=>True∧True) (by kernel_rfl) ⟨trivial,trivial⟩ (fun hHeld=>?_)
 refine rtk 0 ?_
 refine rtk 1 ?_
 refine ro 2 (fun K hK=>?_)
 (go_simp;go_at_call 145;refine HW1.out.mono ?_;rintro _ w2 ⟨rfl,rX2,g2⟩;go_wp2_with fail)
 refine hK.out _ _ ?_ (fun hHeld=>?_)
 ·exact⟨trivial,trivial⟩
 clear hK K
 try simp only[Act.put,q1,q2,q3]
 refine rdn ?_
 have gA2:wA.grownBy w2 (some (w.heap.size+1+1+1)):=⟨g2.os,g2.tape,g2.output,g2.size,g2.block⟩
 obtain⟨X2,hX2⟩:∃X2,X2=upW x0L 4 key 8:=⟨_,rfl⟩
 rw[←hX2] at rX2
 have hl2:X2.length=16:=by rw[hX2,upW_length];rfl
 obtain⟨c2,f2,s2⟩:=w_cell rX2 (k:=12) (by omega)
 have rX3:=s2 count
 generalize X2[12]=x12 at c2
 have hz3:∀t,13≤t→t<13+3→(X2.set 12 count)[t]? = some 0:=fun t h1 h2=>by
  rw[List.getElem?_set_ne (by omega),hX2,upW_get x0L 4 key t 8 (by omega)]
  exact (by decide +kernel:∀t,t<16→13≤t→x0L[t]? = some 0) t h2 h1
 have gA3:=gA2.trans (grown_set (p:=⟨w.heap.size+1+1+1,12,none⟩) w2 rfl (u32v count))
 obtain⟨w3,hw3⟩:∃w3,w3=w2.setCell ⟨w.heap.size+1+1+1,12,none⟩ (u32v count):=⟨_,rfl⟩
 rw[←hw3] at rX3 gA3
 have rN3:w3.heap[w.heap.size+1]? = some (rowT 172 cn):=(gA3.block _ (by omega) (fun e=>by injection e with e;omega)).trans rN
 have rO3:w3.heap[w.heap.size+1+1]? = some (rowT 215 (dgA (List.replicate 64 0))):=(gA3.block _ (by omega) (fun e=>by injection e with e;omega)).trans rO
 have z3:=gA3.size
 have HW2:=Lib.hid (kWords_any (w.heap.size+1+1+1) 13 3 3 (X2.set 12 count) 230 _ nonce w3.drew rX3 (by rw[List.length_set];omega) (by rw[List.length_set];omega) hz3 (by omega) (by omega) (SB.ofRow (B:=w.heap.size+1+1+1) (w:=w3.drew) rN3 HC.2.2.2.1 hn.symm (by omega) (by rw[hn];simp[maxLen])) (by omega))
 have HX2:=Lib.hid (And.intro hX2 hl2)
 clear HW1 hz1 hz3 s2 rX rX2 rN3 hX2 hl2 g2
 go_upto_region 4 with fail
 rw[←hw3]
 clear hw3 c2 f2
 refine wp_region_noPanic ?_
 refine wp_region_held_drew (S:=fun w'=>True∧True) (by kernel_rfl) ⟨trivial,trivial⟩ (fun hHeld=>?_)
 refine rtk 0 ?_
 refine rtk 1 ?_
 refine ro 2 (fun K hK=>?_)
 (go_simp;go_at_call 145;refine HW2.out.mono ?_;rintro _ w4 ⟨rfl,rX4,g4⟩;go_wp2_with fail)
 refine hK.out _ _ ?_ (fun hHeld=>?_)
 ·exact⟨trivial,trivial⟩
 clear hK K
 try simp only[Act.put,q1,q2,q3]
 refine rdn ?_
 have gA4:=gA3.trans (show w3.grownBy w4 (some (w.heap.size+1+1+1)) from ⟨g4.os,g4.tape,g4.output,g4.size,g4.block⟩)
 rw[HX2.out.1,start_is] at rX4
 obtain⟨X,hX⟩:∃X,X=start16 key nonce count:=⟨_,rfl⟩
 rw[←hX] at rX4
 have hlX:X.length=16:=by rw[hX];exact start16_length _ _ _
 have rO4:w4.heap[w.heap.size+1+1]? = some (rowT 215 (dgA (List.replicate 64 0))):=(gA4.block _ (by omega) (fun e=>by injection e with e;omega)).trans rO
 have z4:=gA4.size
 have b4:Below w.heap.size w w4:=below_grown bA gA4 (by omega) (fun g e=>by injection e with e;omega)
 have hZ16:(w4.alloc (.cells ((List.replicate 16 0).map u32v).toArray 230)).heap[w4.heap.size]? = some (rowW 230 (List.replicate 16 0)):=heap_alloc_new w4 _
 have HCO:Hid (dgA (strmB key nonce count)=co):=Lib.hid HC.2.2.2.2
 have HXX:=Lib.hid hX
 clear HC HCK HX2 g4 rX3 rO3 gA3 gA2 HW2 rO rN rK z3 hX x12 X2 hHeld
 go_upto_region 6 with (first|(refine wl_loadT 230 (n:=16) Tryz.underlying230 (by kernel_rfl) rfl (.tmp 7) rfl _ rfl (X.map u32v).toArray rX4 (by rw[rowW_size,hlX]) ?_)|(refine wl_storeT 230 (n:=16) (by kernel_rfl) rfl (.tmp 8) (.tmp 23) rfl _ rfl _ (X.map u32v).toArray rfl hZ16 (by rw[rowW_size];rfl) (by rw[rowW_size,hlX]) (rowW_one X) ?_))
 generalize hW5:World.setRow _ _ _=w5
 have rY5:w5.heap[w4.heap.size]? = some (rowW 230 X):=by rw[←hW5];exact setRow_heap _ _ _ _ _ _ hZ16
 have rX5:w5.heap[w.heap.size+1+1+1]? = some (rowW 230 X):=by rw[←hW5];exact (setRow_other _ _ _ _ (by omega)).trans ((heap_alloc_old _ _ (by omega)).trans rX4)
 have rO5:w5.heap[w.heap.size+1+1]? = some (rowT 215 (dgA (List.replicate 64 0))):=by rw[←hW5];exact (setRow_other _ _ _ _ (by omega)).trans ((heap_alloc_old _ _ (by omega)).trans rO4)
 have b5:Below w.heap.size w w5:=by rw[←hW5];exact below_setRow (balloc b4 _) (by omega) _
 have z5:w4.heap.size<w5.heap.size:=(Array.getElem?_eq_some_iff.1 rY5).1
 clear hW5 hZ16 rX4 rO4 gA4
 go_wp2_with fail
 go_loopw [24] (fun i wr=>∃n:Nat,i=.int .i64 n∧n≤10∧wr.heap[w4.heap.size]? = some (rowW 230 (roundsY n X))∧w5.grownBy wr (some w4.heap.size)) (fun i _=>10-(intOf i).toNat)
 case atStart=>exact⟨0,rfl,by omega,rY5,⟨rfl,rfl,rfl,Nat.le_refl _,fun _ _ _=>rfl⟩⟩
 case round =>
  obtain⟨n,rfl,hn10,hrow,hg⟩:=hrel
  by_cases hlt:n<10
  ·have hn10':(n:Int)<10:=by omega
   obtain⟨Y,hY⟩:∃Y,Y=roundsY n X:=⟨_,rfl⟩
   rw[←hY] at hrow
   have hYl:Y.length=16:=by rw[hY,roundsY_length,hlX]
   have HY:=Lib.hid hY
   clear hY
   go_wp2_with fail
   go_loopw [26] (fun i wz=>∃m:Nat,i=.int .i64 m∧m≤4∧wz.heap[w4.heap.size]? = some (rowW 230 (columns m Y))∧w5.grownBy wz (some w4.heap.size)) (fun i _=>4-(intOf i).toNat)
   case atStart=>exact⟨0,rfl,by omega,hrow,hg⟩
   case round =>
    obtain⟨m,rfl,hm4,hrm,hgm⟩:=hrel
    by_cases hlt4:m<4
    ·have hm4':(m:Int)<4:=by omega
     obtain⟨V,hV⟩:∃V,V=columns m Y:=⟨_,rfl⟩
     rw[←hV] at hrm
     have hVl:V.length=16:=by rw[hV,columns_length,hYl]
     obtain⟨j1,hj1⟩:∃j1,j1=4+m:=⟨_,rfl⟩
     obtain⟨j2,hj2⟩:∃j2,j2=8+m:=⟨_,rfl⟩
     obtain⟨j3,hj3⟩:∃j3,j3=12+m:=⟨_,rfl⟩
     have g1:IntKind.i64.wrap (4+(m:Int))=(j1:Int):=by rw[IntKind.wrap_i64];omega
     have g2:IntKind.i64.wrap (8+(m:Int))=(j2:Int):=by rw[IntKind.wrap_i64];omega
     have g3:IntKind.i64.wrap (12+(m:Int))=(j3:Int):=by rw[IntKind.wrap_i64];omega
     have l0:(m:Int)<16:=by omega
     have l1:(j1:Int)<16:=by omega
     have l2:(j2:Int)<16:=by omega
     have l3:(j3:Int)<16:=by omega
     obtain⟨⟨c0,c1,c2,c3⟩,⟨f0,f1,f2,f3⟩,⟨d1,d2,d3⟩,hq⟩:=quart_at hrm hVl m j1 j2 j3 (by omega) (by omega) (by omega) (by omega) (by omega) (by omega) (by omega) (by omega) (by omega) (by omega)
     obtain⟨a,ha⟩:∃a,a=at16 V m:=⟨_,rfl⟩
     obtain⟨b,hb⟩:∃b,b=at16 V j1:=⟨_,rfl⟩
     obtain⟨c,hc⟩:∃c,c=at16 V j2:=⟨_,rfl⟩
     obtain⟨d,hd⟩:∃d,d=at16 V j3:=⟨_,rfl⟩
     rw[←ha] at c0
     rw[←hb] at c1 d1
     rw[←hc] at c2 d2
     rw[←hd] at c3 d3
     obtain⟨q,hqq⟩:∃q,q=mixQ ⟨a,b,c,d⟩:=⟨_,rfl⟩
     have HM:Hid (∀W,Calls Tryz.prog 146 #[.int .u32 (a.toNat:Int),.int .u32 (b.toNat:Int),.int .u32 (c.toNat:Int),.int .u32 (d.toNat:Int)] W fun e w'=>e=.returned (.tuple #[.int .u32 (q.a.toNat:Int),.int .u32 (q.b.toNat:Int),.int .u32 (q.c.toNat:Int),.int .u32 (q.d.toNat:Int)])∧w'=W):=Lib.hid (fun W=>by rw[hqq];exact kMix_any ⟨a,b,c,d⟩ W)
     have HQ:=Lib.hid (hq q)
     have HE:Hid (put4 V m j1 j2 j3 q=columns (m+1) Y):=Lib.hid (by rw[hqq,ha,hb,hc,hd,hV,hj1,hj2,hj3];rfl)
     have HJ:=Lib.hid (And.intro hj1 (And.intro hj2 hj3))
     clear hq ha hb hc hd hqq hV hrm hVl hj1 hj2 hj3
     go_upto_region 11 with fail
     refine wp_region_noPanic ?_
     refine wp_regionG (fun w'=>w'.cell? ⟨w4.heap.size,m,none⟩=some (u32v a)∧w'.cell? ⟨w4.heap.size,j1,none⟩=some (u32v b)∧w'.cell? ⟨w4.heap.size,j2,none⟩=some (u32v c)∧w'.cell? ⟨w4.heap.size,j3,none⟩=some (u32v d)) [22,23,24,25,26,27,29,31,33,35] (by kernel_rfl) ⟨c0,c1,c2,c3⟩ (fun hHeld=>?_)
     refine rgp 0 ?_
     refine rgp 1 ?_
     refine rgp 2 ?_
     refine rgp 3 ?_
     refine rgp 4 ?_
     refine rgp 5 ?_
     refine rgp 6 ?_
     refine rgp 7 ?_
     refine rgp 8 ?_
     refine rgp 10 ?_
     refine rgp 11 ?_
     refine rgp 12 ?_
     refine rgp 14 ?_
     refine rgp 15 ?_
     refine rgp 16 ?_
     refine rgp 18 ?_
     refine rgp 19 ?_
     refine rgp 20 ?_
     refine rgk 9 ?_
     refine rgk 13 ?_
     refine rgk 17 ?_
     refine rgk 21 ?_
     refine regG_last (S:=fun _=>True∧True) 22 (by rfl) (by kernel_rfl) (by rfl) (by kernel_rfl) (fun K hK=>?_)
     (go_simp;go_at_call 146;refine (HM.out _).mono ?_;rintro _ w6 ⟨rfl,rfl⟩;go_wp2_with fail)
     refine hK.out _ _ ?_ (fun hHeld=>?_)
     ·exact⟨trivial,trivial⟩
     clear hK K
     try simp only[Act.put,q1,q2,q3]
     refine rtk 23 ?_
     refine rtk 24 ?_
     refine rtk 25 ?_
     refine rtk 26 ?_
     refine rtk 27 ?_
     refine rtk 28 ?_
     refine ro 29 (fun K hK=>?_)
     (go_simp)
     refine hK.out _ _ ?_ (fun hHeld=>?_)
     ·exact⟨trivial,trivial⟩
     clear hK K
     try simp only[Act.put,q1,q2,q3]
     refine rtk 30 ?_
     refine ro 31 (fun K hK=>?_)
     (go_simp)
     refine hK.out _ _ ?_ (fun hHeld=>?_)
     ·exact⟨trivial,trivial⟩
     clear hK K
     try simp only[Act.put,q1,q2,q3]
     refine rtk 32 ?_
     refine ro 33 (fun K hK=>?_)
     (go_simp)
     refine hK.out _ _ ?_ (fun hHeld=>?_)
     ·exact⟨trivial,trivial⟩
     clear hK K
     try simp only[Act.put,q1,q2,q3]
     refine rtk 34 ?_
     refine ro 35 (fun K hK=>?_)
     (go_simp)
     refine hK.out _ _ ?_ (fun hHeld=>?_)
     ·exact⟨trivial,trivial⟩
     clear hK K
     try simp only[Act.put,q1,q2,q3]
     refine rdn ?_
     go_wp2_with fail
     go_roundw
     case rel =>
      have hgg:=hgm.trans HQ.out.2
      exact⟨m+1,by go_num,by omega,by rw[←HE.out];exact HQ.out.1,⟨hgg.os,hgg.tape,hgg.output,hgg.size,hgg.block⟩⟩
     case measure=>first|(simp[intOf];done)|(simp[intOf];omega)
    ·have hm:m=4:=by omega
     subst hm
     clear hrow hg hlt4 hm4
     obtain⟨V,hV⟩:∃V,V=columns 4 Y:=⟨_,rfl⟩
     rw[←hV] at hrm
     have hVl:V.length=16:=by rw[hV,columns_length,hYl]
     generalize hw60:wr=w60 at hrm hgm ⊢
     have hr60:=hrm
     have hg60:=hgm
     have hl60:=hVl
     have HV60:=Lib.hid hV
     generalize V=V60 at hr60 hl60 HV60
     clear hrm hgm hVl hV
     obtain⟨⟨c0,c1,c2,c3⟩,⟨f0,f1,f2,f3⟩,⟨d1,d2,d3⟩,hq⟩:=quart_at hr60 hl60 0 5 10 15 (by omega) (by omega) (by omega) (by omega) (by omega) (by omega) (by omega) (by omega) (by omega) (by omega)
     obtain⟨a,ha⟩:∃a,a=at16 V60 0:=⟨_,rfl⟩
     obtain⟨b,hb⟩:∃b,b=at16 V60 5:=⟨_,rfl⟩
     obtain⟨c,hc⟩:∃c,c=at16 V60 10:=⟨_,rfl⟩
     obtain⟨d,hd⟩:∃d,d=at16 V60 15:=⟨_,rfl⟩
     rw[←ha] at c0
     rw[←hb] at c1 d1
     rw[←hc] at c2 d2
     rw[←hd] at c3 d3
     obtain⟨q,hqq⟩:∃q,q=mixQ ⟨a,b,c,d⟩:=⟨_,rfl⟩
     have HM:Hid (∀W,Calls Tryz.prog 146 #[.int .u32 (a.toNat:Int),.int .u32 (b.toNat:Int),.int .u32 (c.toNat:Int),.int .u32 (d.toNat:Int)] W fun e w'=>e=.returned (.tuple #[.int .u32 (q.a.toNat:Int),.int .u32 (q.b.toNat:Int),.int .u32 (q.c.toNat:Int),.int .u32 (q.d.toNat:Int)])∧w'=W):=Lib.hid (fun W=>by rw[hqq];exact kMix_any ⟨a,b,c,d⟩ W)
     have HQ:=Lib.hid (hq q)
     have HE:Hid (put4 V60 0 5 10 15 q=quarter V60 0 5 10 15):=Lib.hid (by rw[hqq,ha,hb,hc,hd];rfl)
     clear hq ha hb hc hd hqq hr60
     go_upto_region 14 with (go_at_call 146;refine (HM.out _).mono ?_;rintro _ w7 ⟨rfl,hw7⟩;have hw7':=hw7.symm;subst hw7')
     have hQQ:=HQ.out
     rw[HE.out] at hQQ
     obtain⟨w61,hw61⟩:∃w',w'=(((w60.setCell ⟨w4.heap.size,0,none⟩ (.int .u32 (q.a.toNat:Int))).setCell ⟨w4.heap.size,5,none⟩ (.int .u32 (q.b.toNat:Int))).setCell ⟨w4.heap.size,10,none⟩ (.int .u32 (q.c.toNat:Int))).setCell ⟨w4.heap.size,15,none⟩ (.int .u32 (q.d.toNat:Int)):=⟨_,rfl⟩
     obtain⟨V61,hV61⟩:∃V',V'=quarter V60 0 5 10 15:=⟨_,rfl⟩
     rw[←hw61,←hV61] at hQQ
     rw[←hw61]
     have hr61:=hQQ.1
     have hg61:=hg60.trans hQQ.2
     have hl61:V61.length=16:=by rw[hV61,quarter_length,hl60]
     have HV61:=Lib.hid hV61
     clear hw61 hV61 hQQ HQ HE HM c0 c1 c2 c3 f0 f1 f2 f3 d1 d2 d3 hg60
     obtain⟨⟨c0,c1,c2,c3⟩,⟨f0,f1,f2,f3⟩,⟨d1,d2,d3⟩,hq⟩:=quart_at hr61 hl61 1 6 11 12 (by omega) (by omega) (by omega) (by omega) (by omega) (by omega) (by omega) (by omega) (by omega) (by omega)
     obtain⟨a,ha⟩:∃a,a=at16 V61 1:=⟨_,rfl⟩
     obtain⟨b,hb⟩:∃b,b=at16 V61 6:=⟨_,rfl⟩
     obtain⟨c,hc⟩:∃c,c=at16 V61 11:=⟨_,rfl⟩
     obtain⟨d,hd⟩:∃d,d=at16 V61 12:=⟨_,rfl⟩
     rw[←ha] at c0
     rw[←hb] at c1 d1
     rw[←hc] at c2 d2
     rw[←hd] at c3 d3
     obtain⟨q,hqq⟩:∃q,q=mixQ ⟨a,b,c,d⟩:=⟨_,rfl⟩
     have HM:Hid (∀W,Calls Tryz.prog 146 #[.int .u32 (a.toNat:Int),.int .u32 (b.toNat:Int),.int .u32 (c.toNat:Int),.int .u32 (d.toNat:Int)] W fun e w'=>e=.returned (.tuple #[.int .u32 (q.a.toNat:Int),.int .u32 (q.b.toNat:Int),.int .u32 (q.c.toNat:Int),.int .u32 (q.d.toNat:Int)])∧w'=W):=Lib.hid (fun W=>by rw[hqq];exact kMix_any ⟨a,b,c,d⟩ W)
     have HQ:=Lib.hid (hq q)
     have HE:Hid (put4 V61 1 6 11 12 q=quarter V61 1 6 11 12):=Lib.hid (by rw[hqq,ha,hb,hc,hd];rfl)
     clear hq ha hb hc hd hqq hr61
     go_upto_region 15 with (go_at_call 146;refine (HM.out _).mono ?_;rintro _ w7 ⟨rfl,hw7⟩;have hw7':=hw7.symm;subst hw7')
     have hQQ:=HQ.out
     rw[HE.out] at hQQ
     obtain⟨w62,hw62⟩:∃w',w'=(((w61.setCell ⟨w4.heap.size,1,none⟩ (.int .u32 (q.a.toNat:Int))).setCell ⟨w4.heap.size,6,none⟩ (.int .u32 (q.b.toNat:Int))).setCell ⟨w4.heap.size,11,none⟩ (.int .u32 (q.c.toNat:Int))).setCell ⟨w4.heap.size,12,none⟩ (.int .u32 (q.d.toNat:Int)):=⟨_,rfl⟩
     obtain⟨V62,hV62⟩:∃V',V'=quarter V61 1 6 11 12:=⟨_,rfl⟩
     rw[←hw62,←hV62] at hQQ
     rw[←hw62]
     have hr62:=hQQ.1
     have hg62:=hg61.trans hQQ.2
     have hl62:V62.length=16:=by rw[hV62,quarter_length,hl61]
     have HV62:=Lib.hid hV62
     clear hw62 hV62 hQQ HQ HE HM c0 c1 c2 c3 f0 f1 f2 f3 d1 d2 d3 hg61
     obtain⟨⟨c0,c1,c2,c3⟩,⟨f0,f1,f2,f3⟩,⟨d1,d2,d3⟩,hq⟩:=quart_at hr62 hl62 2 7 8 13 (by omega) (by omega) (by omega) (by omega) (by omega) (by omega) (by omega) (by omega) (by omega) (by omega)
     obtain⟨a,ha⟩:∃a,a=at16 V62 2:=⟨_,rfl⟩
     obtain⟨b,hb⟩:∃b,b=at16 V62 7:=⟨_,rfl⟩
     obtain⟨c,hc⟩:∃c,c=at16 V62 8:=⟨_,rfl⟩
     obtain⟨d,hd⟩:∃d,d=at16 V62 13:=⟨_,rfl⟩
     rw[←ha] at c0
     rw[←hb] at c1 d1
     rw[←hc] at c2 d2
     rw[←hd] at c3 d3
     obtain⟨q,hqq⟩:∃q,q=mixQ ⟨a,b,c,d⟩:=⟨_,rfl⟩
     have HM:Hid (∀W,Calls Tryz.prog 146 #[.int .u32 (a.toNat:Int),.int .u32 (b.toNat:Int),.int .u32 (c.toNat:Int),.int .u32 (d.toNat:Int)] W fun e w'=>e=.returned (.tuple #[.int .u32 (q.a.toNat:Int),.int .u32 (q.b.toNat:Int),.int .u32 (q.c.toNat:Int),.int .u32 (q.d.toNat:Int)])∧w'=W):=Lib.hid (fun W=>by rw[hqq];exact kMix_any ⟨a,b,c,d⟩ W)
     have HQ:=Lib.hid (hq q)
     have HE:Hid (put4 V62 2 7 8 13 q=quarter V62 2 7 8 13):=Lib.hid (by rw[hqq,ha,hb,hc,hd];rfl)
     clear hq ha hb hc hd hqq hr62
     go_upto_region 16 with (go_at_call 146;refine (HM.out _).mono ?_;rintro _ w7 ⟨rfl,hw7⟩;have hw7':=hw7.symm;subst hw7')
     have hQQ:=HQ.out
     rw[HE.out] at hQQ
     obtain⟨w63,hw63⟩:∃w',w'=(((w62.setCell ⟨w4.heap.size,2,none⟩ (.int .u32 (q.a.toNat:Int))).setCell ⟨w4.heap.size,7,none⟩ (.int .u32 (q.b.toNat:Int))).setCell ⟨w4.heap.size,8,none⟩ (.int .u32 (q.c.toNat:Int))).setCell ⟨w4.heap.size,13,none⟩ (.int .u32 (q.d.toNat:Int)):=⟨_,rfl⟩
     obtain⟨V63,hV63⟩:∃V',V'=quarter V62 2 7 8 13:=⟨_,rfl⟩
     rw[←hw63,←hV63] at hQQ
     rw[←hw63]
     have hr63:=hQQ.1
     have hg63:=hg62.trans hQQ.2
     have hl63:V63.length=16:=by rw[hV63,quarter_length,hl62]
     have HV63:=Lib.hid hV63
     clear hw63 hV63 hQQ HQ HE HM c0 c1 c2 c3 f0 f1 f2 f3 d1 d2 d3 hg62
     obtain⟨⟨c0,c1,c2,c3⟩,⟨f0,f1,f2,f3⟩,⟨d1,d2,d3⟩,hq⟩:=quart_at hr63 hl63 3 4 9 14 (by omega) (by omega) (by omega) (by omega) (by omega) (by omega) (by omega) (by omega) (by omega) (by omega)
     obtain⟨a,ha⟩:∃a,a=at16 V63 3:=⟨_,rfl⟩
     obtain⟨b,hb⟩:∃b,b=at16 V63 4:=⟨_,rfl⟩
     obtain⟨c,hc⟩:∃c,c=at16 V63 9:=⟨_,rfl⟩
     obtain⟨d,hd⟩:∃d,d=at16 V63 14:=⟨_,rfl⟩
     rw[←ha] at c0
     rw[←hb] at c1 d1
     rw[←hc] at c2 d2
     rw[←hd] at c3 d3
     obtain⟨q,hqq⟩:∃q,q=mixQ ⟨a,b,c,d⟩:=⟨_,rfl⟩
     have HM:Hid (∀W,Calls Tryz.prog 146 #[.int .u32 (a.toNat:Int),.int .u32 (b.toNat:Int),.int .u32 (c.toNat:Int),.int .u32 (d.toNat:Int)] W fun e w'=>e=.returned (.tuple #[.int .u32 (q.a.toNat:Int),.int .u32 (q.b.toNat:Int),.int .u32 (q.c.toNat:Int),.int .u32 (q.d.toNat:Int)])∧w'=W):=Lib.hid (fun W=>by rw[hqq];exact kMix_any ⟨a,b,c,d⟩ W)
     have HQ:=Lib.hid (hq q)
     have HE:Hid (put4 V63 3 4 9 14 q=quarter V63 3 4 9 14):=Lib.hid (by rw[hqq,ha,hb,hc,hd];rfl)
     clear hq ha hb hc hd hqq hr63
     go_upto_region 17 with (go_at_call 146;refine (HM.out _).mono ?_;rintro _ w7 ⟨rfl,hw7⟩;have hw7':=hw7.symm;subst hw7')
     have hQQ:=HQ.out
     rw[HE.out] at hQQ
     obtain⟨w64,hw64⟩:∃w',w'=(((w63.setCell ⟨w4.heap.size,3,none⟩ (.int .u32 (q.a.toNat:Int))).setCell ⟨w4.heap.size,4,none⟩ (.int .u32 (q.b.toNat:Int))).setCell ⟨w4.heap.size,9,none⟩ (.int .u32 (q.c.toNat:Int))).setCell ⟨w4.heap.size,14,none⟩ (.int .u32 (q.d.toNat:Int)):=⟨_,rfl⟩
     obtain⟨V64,hV64⟩:∃V',V'=quarter V63 3 4 9 14:=⟨_,rfl⟩
     rw[←hw64,←hV64] at hQQ
     rw[←hw64]
     have hr64:=hQQ.1
     have hg64:=hg63.trans hQQ.2
     have hl64:V64.length=16:=by rw[hV64,quarter_length,hl63]
     have HV64:=Lib.hid hV64
     clear hw64 hV64 hQQ HQ HE HM c0 c1 c2 c3 f0 f1 f2 f3 d1 d2 d3 hg63
     have HR:Hid (V64=roundsY (n+1) X):=Lib.hid (by rw[HV64.out,HV63.out,HV62.out,HV61.out,HV60.out,HY.out];rfl)
     clear hw60 HV60 HV61 HV62 HV63 HV64 hl60 hl61 hl62 hl63 HY
     go_wp2_with fail
     go_roundw
     case rel=>exact⟨n+1,by go_num,by omega,by rw[←HR.out];exact hr64,hg64⟩
     case measure=>first|(simp[intOf];done)|(simp[intOf];omega)
  ·have hn:n=10:=by omega
   subst hn
   obtain⟨R,hR⟩:∃R,R=roundsY 10 X:=⟨_,rfl⟩
   rw[←hR] at hrow
   have hRl:R.length=16:=by rw[hR,roundsY_length,hlX]
   obtain⟨S,hS⟩:∃S,S=strmB key nonce count:=⟨_,rfl⟩
   have HSat:Hid (∀i k,i<16→k<4→S[4*i+k]? = some (shr8 k (at16 R i+at16 X i)).toUInt8):=Lib.hid (fun i k hi hk=>by rw[hS,hR,HXX.out];exact strm_at key nonce count i k hi hk)
   have hSl:S.length=64:=by rw[hS];exact strmB_length _ _ _
   rw[←hS] at HCO
   have rX6:wr.heap[w.heap.size+1+1+1]? = some (rowW 230 X):=(hg.block _ (by omega) (fun e=>by injection e with e;omega)).trans rX5
   have rO6:wr.heap[w.heap.size+1+1]? = some (rowT 215 (dgA (List.replicate 64 0))):=(hg.block _ (by omega) (fun e=>by injection e with e;omega)).trans rO5
   have b6:Below w.heap.size w wr:=below_grown b5 hg (by omega) (fun g e=>by injection e with e;omega)
   have z6:=hg.size
   generalize wr=w6 at hrow rX6 rO6 b6 z6 ⊢
   clear hg hR hS HXX rX5 rO5 rY5 hlt hn10 hk hn b5
   go_upto_region 19 with fail
   have rU:(w6.alloc (rowT 215 (dgA (List.replicate 64 0)))).heap[w6.heap.size]? = some (rowT 215 (dgA (List.replicate 64 0))):=heap_alloc_new w6 _
   have rX7:(w6.alloc (rowT 215 (dgA (List.replicate 64 0)))).heap[w.heap.size+1+1+1]? = some (rowW 230 X):=(heap_alloc_old _ _ (by omega)).trans rX6
   have rO7:(w6.alloc (rowT 215 (dgA (List.replicate 64 0)))).heap[w.heap.size+1+1]? = some (rowT 215 (dgA (List.replicate 64 0))):=(heap_alloc_old _ _ (by omega)).trans rO6
   have rE7:(w6.alloc (rowT 215 (dgA (List.replicate 64 0)))).heap[w4.heap.size]? = some (rowW 230 R):=(heap_alloc_old _ _ (by omega)).trans hrow
   have b7:Below w.heap.size w (w6.alloc (rowT 215 (dgA (List.replicate 64 0)))):=balloc b6 _
   have z7:(w6.alloc (rowT 215 (dgA (List.replicate 64 0)))).heap.size=w6.heap.size+1:=by simp
   obtain⟨w7,hw7⟩:∃w7,w7=w6.alloc (rowT 215 (dgA (List.replicate 64 0))):=⟨_,rfl⟩
   rw[←hw7] at rU rX7 rO7 rE7 b7 z7
   generalize hWW:World.alloc _ _=w7'
   have e7:w7=w7':=hw7.trans hWW
   subst e7
   clear hw7 hWW rX6 rO6 hrow b6
   have rU0:w7.heap[w6.heap.size]? = some (rowT 215 (dgA (upTo 64 S (4*0)))):=by rw[upTo_0];exact rU
   clear rU
   go_wp2_with fail
   go_loopw [135] (fun i wr=>∃n:Nat,i=.int .i64 n∧n≤16∧wr.heap[w6.heap.size]? = some (rowT 215 (dgA (upTo 64 S (4*n))))∧w7.grownBy wr (some w6.heap.size)) (fun i _=>16-(intOf i).toNat)
   case atStart=>exact⟨0,rfl,by omega,rU0,⟨rfl,rfl,rfl,Nat.le_refl _,fun _ _ _=>rfl⟩⟩
   case round =>
    obtain⟨n,rfl,hn16,hrn,hgn⟩:=hrel
    have rE8:wr.heap[w4.heap.size]? = some (rowW 230 R):=(hgn.block _ (by omega) (fun e=>by injection e with e;omega)).trans rE7
    have rX8:wr.heap[w.heap.size+1+1+1]? = some (rowW 230 X):=(hgn.block _ (by omega) (fun e=>by injection e with e;omega)).trans rX7
    by_cases hlt:n<16
    ·have hn16':(n:Int)<16:=by omega
     obtain⟨cE,_,_⟩:=w_cell rE8 (k:=n) (by omega)
     obtain⟨cX,_,_⟩:=w_cell rX8 (k:=n) (by omega)
     rw[←at16_get (by omega)] at cE cX
     have hz:∀k,k<4→S[4*n+k]? = some (shr8 k (at16 R n+at16 X n)).toUInt8:=fun k hk=>HSat.out n k hlt hk
     obtain⟨a,ha⟩:∃a,a=at16 R n:=⟨_,rfl⟩
     obtain⟨b,hb⟩:∃b,b=at16 X n:=⟨_,rfl⟩
     rw[←ha] at cE hz
     rw[←hb] at cX hz
     obtain⟨z,hzz⟩:∃z,z=a+b:=⟨_,rfl⟩
     rw[←hzz] at hz
     have ga:((a.toNat:Int)+(b.toNat:Int))%4294967296=(z.toNat:Int):=by rw[hzz];exact w_add _ _
     have gaw:IntKind.u32.wrap ((a.toNat:Int)+(b.toNat:Int))=(z.toNat:Int):=by rw[IntKind.wrap_u32'];exact ga
     have HZ:=Lib.hid hz
     clear hz ha hb hzz rE8 rX8
     go_upto_region 22 with fail
     go_quiet (fail)
     have hrn':(wr.drewN nq).heap[w6.heap.size]? = some (rowT 215 (dgA (upTo 64 S (4*n)))):=hrn
     have hgn':w7.grownBy (wr.drewN nq) (some w6.heap.size):=⟨hgn.os,hgn.tape,hgn.output,hgn.size,hgn.block⟩
     generalize World.drewN wr nq=w8 at hrn' hgn' ⊢
     clear cE cX ga gaw hrn hgn
     go_wp2_with fail
     go_loopw [12,145] (fun zv i wr=>∃k:Nat,i=.int .i64 k∧k≤4∧zv=.int .u32 ((shr8 k z).toNat:Int)∧wr.heap[w6.heap.size]? = some (rowT 215 (dgA (upTo 64 S (4*n+k))))∧w7.grownBy wr (some w6.heap.size)) (fun _ i _=>4-(intOf i).toNat)
     case atStart=>exact⟨0,rfl,by omega,rfl,hrn',hgn'⟩
     case round =>
      obtain⟨k,rfl,hk4,rfl,hrk,hgk⟩:=hrel
      by_cases hltk:k<4
      ·have hk4':(k:Int)<4:=by omega
       obtain⟨m4,hm4⟩:∃m4,m4=4*n:=⟨_,rfl⟩
       obtain⟨t,ht⟩:∃t,t=m4+k:=⟨_,rfl⟩
       have g1:IntKind.i64.wrap (4*(n:Int))=(m4:Int):=by rw[IntKind.wrap_i64];omega
       have g2:IntKind.i64.wrap ((m4:Int)+(k:Int))=(t:Int):=by rw[IntKind.wrap_i64];omega
       have ht64:(t:Int)<64:=by omega
       have hSk:=HZ.out k hltk
       rw[←hm4,←ht] at hrk hSk
       have hul:(upTo 64 S t).length=64:=upTo_len hSl (by omega)
       obtain⟨c0,f0,hset⟩:=rowT_cell hrk (k:=t) (by rw[hul];omega)
       obtain⟨y,hy⟩:∃y,y=shr8 k z:=⟨_,rfl⟩
       rw[←hy] at hSk
       have hst:=upTo_step hSl (by omega) hSk
       obtain⟨x,hx⟩:∃x,x=y.toUInt8:=⟨_,rfl⟩
       rw[←hx] at hst
       have h2:=hset x
       rw[hst] at h2
       obtain⟨y2,hy2⟩:∃y2,y2=y >>> 8:=⟨_,rfl⟩
       have g3:(y.toNat:Int)%256=(x.toNat:Int):=by rw[hx,UInt32.toNat_toUInt8];omega
       have g4:(y.toNat:Int)/256=(y2.toNat:Int):=by rw[hy2];exact w_shr y 8 (by omega) 256 rfl
       have H2:=Lib.hid h2
       have HN:Hid (shr8 (k+1) z=y2∧t+1=4*n+(k+1)):=Lib.hid ⟨by rw[hy2,hy];rfl,by omega⟩
       rw[←hy]
       generalize (upTo 64 S t)[t]=old at c0
       clear hset hst h2 hSk hx hy hy2 ht hm4 hul hrk
       go_wp2_with fail
       go_roundw
       case rel =>
        have hgg:=hgk.trans (grown_set (p:=⟨w6.heap.size,t,none⟩) wr rfl (u8v x))
        exact⟨k+1,by go_num,by omega,by rw[HN.out.1],by rw[←HN.out.2];exact H2.out,hgg⟩
       case measure=>first|(simp[intOf];done)|(simp[intOf];omega)
      ·have hk:k=4:=by omega
       subst hk
       go_wp2_with fail
       go_roundw
       case rel=>exact⟨n+1,by go_num,by omega,hrk,hgk⟩
       case measure=>first|(simp[intOf];done)|(simp[intOf];omega)
    ·have hn:n=16:=by omega
     subst hn
     rw[show 4*16=64 from rfl,upTo_n hSl] at hrn
     have rO8:wr.heap[w.heap.size+1+1]? = some (rowT 215 (dgA (List.replicate 64 0))):=(hgn.block _ (by omega) (fun e=>by injection e with e;omega)).trans rO7
     have b8:Below w.heap.size w wr:=below_grown b7 hgn (by omega) (fun g e=>by injection e with e;omega)
     have hco:=HCO.out
     rw[hco] at hrn
     have hcn:co.size=64:=by rw[←hco,dgA_size,hSl]
     have hc1:∀v∈co.toList,v.oneCell'=true:=by rw[←hco];exact dgA_one S
     have HF:Hid ((wr.setRow (w.heap.size+1+1) co).heap[w.heap.size+1+1]? = some (rowT 215 co)∧Below w.heap.size w (wr.setRow (w.heap.size+1+1) co)):=Lib.hid ⟨setRow_heap _ _ _ _ _ _ rO8,below_setRow b8 (by omega) _⟩
     clear rE7 rX7 rU0 hgn rE8 rX8 hco HCO b8
     go_wp2_with (first|(refine wl_loadT 215 (n:=64) Tryz.underlying215 (by kernel_rfl) rfl (.tmp 10) rfl _ rfl co hrn hcn ?_)|(refine wl_storeT 215 (n:=64) (by kernel_rfl) rfl (.tmp 6) (.tmp 159) rfl _ rfl _ co rfl rO8 (by rw[dgA_size];rfl) hcn hc1 ?_))
     exact bodyPost_ret (v:=.agg co) (res_64 Tryz.results129 _ _ _ co rfl HF.out.1 hcn) rfl ⟨rfl,HF.out.2⟩
end Go.Proofs.YtchjknbideoieaaGreatDoor
