/- What is proved here: what words of package stream comes to, at this seat's numbers. Conditions: enough bytes, below the words' block; the words are 0. -/
import Derived.Test.YtchjknbideoieaaGreatDoorK39
import Derived.Test.YtchjknbideoieaaGreatDoorK05
import Derived.Deep.DeepCutAuto
namespace Go.Proofs.YtchjknbideoieaaGreatDoor
set_option maxRecDepth 100000
set_option maxHeartbeats 8000000
open Go.RowKit
abbrev u32v (x:UInt32):Value:=.int .u32 (x.toNat:Int)
abbrev rowW (T:TypeId) (l:List UInt32):Obj:=.cells (l.map u32v).toArray T (0,0)
theorem w_cell {w:World} {D:Nat} {T:TypeId} {l:List UInt32} (h:w.heap[D]? = some (rowW T l)) {k:Nat} (hk:k<l.length) :
  w.cell? ⟨D,k,none⟩=some (u32v l[k])∧w.frozen? ⟨D,k,none⟩=false∧∀x:UInt32,(w.setCell ⟨D,k,none⟩ (u32v x)).heap[D]? = some (rowW T (l.set k x)):=by
 refine⟨?_,by simp[World.frozen?,h],fun b=>?_⟩
 ·rw[cell_of_row _ _ k _ _ _ h]
  simp[hk]
 ·simp only[World.setCell,Array.getElem?_modify,h]
  simp[List.map_set]
theorem kWords_any (D o n cap:Nat) (X:List UInt32) (T:TypeId) (v:Value) (b:List UInt8) (w:World) (h:w.heap[D]? = some (rowW T X)) (hon:o+n≤X.length) (hX:X.length≤1000) (hz:∀t,o≤t→t<o+n→X[t]? = some 0) (hc:n≤cap) (_hc2:cap≤1000) (hv:SB w D v b) (hb:4*n≤b.length) :
  Calls Tryz.prog 145 #[.slice (some ⟨D,o,none⟩) n cap,v] w fun e w'=>e=.returned (.tuple #[])∧w'.heap[D]? = some (rowW T (upW X o b n))∧w.grownBy w' (some D):=by
 obtain⟨A,c,rfl,hlc,hcm,hr⟩:=hv
 have hcm':c≤9223372036854775807:=by unfold maxLen at hcm;omega
 have hDlt:D<w.heap.size:=(Array.getElem?_eq_some_iff.1 h).1
 have HZ:=Lib.hid hz
 clear hz hcm
 go_enter Tryz.func145,Tryz.ntmps145
 go_wp2_with fail
 go_loopw [8] (fun i wr=>∃k:Nat,i=.int .i64 k∧k≤n∧wr.heap[D]? = some (rowW T (upW X o b k))∧w.grownBy wr (some D)) (fun i _=>n-(intOf i).toNat)
 case atStart=>exact⟨0,rfl,Nat.zero_le _,h,⟨rfl,rfl,rfl,Nat.le_refl _,fun _ _ _=>rfl⟩⟩
 case round =>
  obtain⟨k,rfl,hk,hrow,hg⟩:=hrel
  by_cases hlt:k<n
  ·go_wp2_with fail
   have hok:o+k<X.length:=by omega
   have hgz:(upW X o b k)[o+k]? = some 0:=by rw[upW_get X o b (o+k) k (by omega)];exact HZ.out (o+k) (by omega) (by omega)
   have hset0:(upW X o b k).set (o+k) (wPart b k 0)=upW X o b k:=by
    have hl:o+k<(upW X o b k).length:=by rw[upW_length];exact hok
    have h0:(upW X o b k)[o+k]=0:=by rw[List.getElem?_eq_getElem hl] at hgz;injection hgz
    rw[wPart,←h0,List.set_getElem_self]
   go_loopw [5] (fun s5 wz=>∃j:Nat,s5=.int .i64 (3-(j:Int))∧j≤4∧wz.heap[D]? = some (rowW T ((upW X o b k).set (o+k) (wPart b k j)))∧w.grownBy wz (some D)) (fun s5 _=>(intOf s5+1).toNat)
   case atStart=>exact⟨0,rfl,Nat.zero_le _,by rw[hset0];exact hrow,hg⟩
   case round =>
    obtain⟨j,rfl,hj,hrj,hgj⟩:=hrel
    by_cases hj4:j<4
    ·obtain⟨r,hr3⟩:∃r:Nat,r=3-j:=⟨_,rfl⟩
     have er:(3:Int)-(j:Int)=(r:Int):=by omega
     rw[er]
     obtain⟨m4,hm4⟩:∃m4:Nat,m4=4*k:=⟨_,rfl⟩
     obtain⟨t,ht⟩:∃t:Nat,t=m4+r:=⟨_,rfl⟩
     have g1:IntKind.i64.wrap (4*(k:Int))=(m4:Int):=by rw[IntKind.wrap_i64];omega
     have g2:IntKind.i64.wrap ((m4:Int)+(r:Int))=(t:Int):=by rw[IntKind.wrap_i64];omega
     have g6:IntKind.i64.wrap ((r:Int)-1)=(r:Int)-1:=IntWalk.i64_in _ (by omega)
     have htl:t<b.length:=by omega
     have hkn:(k:Int)<(n:Int):=by omega
     have hnc:(n:Int)≤1000:=by omega
     have htl2:(t:Int)<(b.length:Int):=by omega
     obtain⟨b0,ob,rfl,hb0,hcell⟩:=hr.at_ (by omega)
     have cb:(⟨b0,ob+t,none⟩:Addr).block<D:=hb0
     have d0:=(World.cell?_of_block (a:=⟨b0,ob+t,none⟩) (hgj.block b0 (by omega) (fun e=>by injection e with e;omega))).trans (hcell t _ (bv_get b t htl))
     have hyl:o+k<((upW X o b k).set (o+k) (wPart b k j)).length:=by rw[List.length_set,upW_length];exact hok
     obtain⟨c0,f0,hset⟩:=w_cell hrj hyl
     rw[List.getElem_set_self] at c0
     have hnext:wPart b k (j+1)=(wPart b k j <<< 8) ||| (b[t]).toUInt32:=by
      rw[wPart,show 4*k+(3-j)=t from by omega,List.getD_eq_getElem?_getD,List.getElem?_eq_getElem htl]
      rfl
     obtain⟨x,hx⟩:∃x,x=b[t]:=⟨_,rfl⟩
     obtain⟨y,hy⟩:∃y,y=wPart b k j:=⟨_,rfl⟩
     rw[←hx] at d0 hnext
     rw[←hy] at c0 hnext
     obtain⟨y8,hy8⟩:∃y8,y8=y <<< 8:=⟨_,rfl⟩
     obtain⟨z,hzz⟩:∃z,z=y8 ||| x.toUInt32:=⟨_,rfl⟩
     have g3:(y.toNat:Int)*256%4294967296=(y8.toNat:Int):=by rw[hy8];exact w_shl y 8 (by omega) 256 rfl
     have g3k:IntKind.u32.wrap ((y.toNat:Int)*256)=(y8.toNat:Int):=by rw[IntKind.wrap_u32'];exact g3
     have g4:bits .or .u32 (y8.toNat:Int) (x.toNat:Int)=(z.toNat:Int):=by rw[hzz];exact w_or y8 x.toUInt32
     have g5:IntKind.u32.wrap (x.toNat:Int)=(x.toNat:Int):=by have:=u8_lt x;rw[IntKind.wrap_u32'];omega
     have HN:Hid (wPart b k (j+1)=z):=Lib.hid (by rw[hnext,hzz,hy8])
     have HSET:=Lib.hid hset
     have HE:=Lib.hid (And.intro hr3 er)
     clear hr3 er hm4 ht hx hy hy8 hzz hset hcell hnext hset0 hgz
     go_upto_region 6 with fail
     refine wp_region_noPanic ?_
     refine wp_region_held_drew (S:=fun w'=>True∧w'.cell? ⟨b0,ob+t,none⟩=some (u8v x)) (by kernel_rfl) ⟨trivial,d0⟩ (fun hHeld=>?_)
     refine rtk 0 ?_
     refine rtk 1 ?_
     refine rtk 2 ?_
     refine rtk 3 ?_
     refine rtk 4 ?_
     refine rtk 7 ?_
     refine rtk 8 ?_
     refine rtk 9 ?_
     refine rtk 10 ?_
     refine rtk 11 ?_
     refine rtk 12 ?_
     refine rtk 13 ?_
     refine rtk 14 ?_
     refine ro 5 (fun K hK=>?_)
     (go_simp)
     refine hK.out _ _ ?_ (fun hHeld=>?_)
     ·exact⟨trivial,d0⟩
     clear hK K
     try simp only[Act.put,q1,q2,q3]
     refine rtk 6 ?_
     refine rtk 15 ?_
     refine rtk 16 ?_
     refine ro 17 (fun K hK=>?_)
     (go_simp)
     refine hK.out _ _ ?_ (fun hHeld=>?_)
     ·exact⟨trivial,(World.cell?_setCell_other _ _ _ _ (by first|(simp;done)|(simp;omega))).trans d0⟩
     clear hK K
     try simp only[Act.put,q1,q2,q3]
     refine rdn ?_
     go_wp2_with fail
     go_roundw
     case rel =>
      have hgg:=hgj.trans (grown_set (p:=⟨D,o+k,none⟩) wr rfl (u32v z))
      refine⟨j+1,?_,by omega,?_,⟨hgg.os,hgg.tape,hgg.output,hgg.size,hgg.block⟩⟩
      ·have e1:=HE.out.2
       congr 1
       omega
      ·have e:=HSET.out z
       rw[List.set_set] at e
       rw[HN.out]
       exact e
     case measure=>first|(simp[intOf];done)|(simp[intOf];omega)
    ·have hj4':j=4:=by omega
     subst hj4'
     go_wp2_with fail
     go_roundw
     case rel=>exact⟨k+1,by go_num,by omega,hrj,hgj⟩
     case measure=>first|(simp[intOf];done)|(simp[intOf];omega)
  ·have hkl:k=n:=by omega
   subst hkl
   go_wp2_with fail
   go_end0
   exact⟨rfl,hrow,hg⟩
end Go.Proofs.YtchjknbideoieaaGreatDoor
