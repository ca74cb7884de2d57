/- What is proved here: what Make of package bloom comes to, at this seat's numbers. Conditions: so many keys, of so many bits each. -/
import Derived.Test.YtchjknbideoieaaGreatDoorK14
import Derived.Test.YtchjknbideoieaaGreatDoorK22
namespace Go.Proofs.YtchjknbideoieaaGreatDoor
set_option maxRecDepth 100000
set_option maxHeartbeats 8000000
open Go.RowKit Go.Lib Go.Sort
theorem OB.ofRow {w:World} {g m c base:Nat} {L pad:List UInt8} (h:w.heap[g]? = some (rowQ (L++pad))) (hm:m=L.length) (hc:c=L.length+pad.length) (hcm:c≤maxLen) (hb:base≤g):OB w base (.slice (some ⟨g,0,none⟩) m c) L:=by
 subst hm
 refine⟨by rw[bv_length,Nat.mul_one],.inr ⟨g,c,_,rfl,hb,h,by omega,hcm,?_,?_⟩⟩
 ·simp[bv_length];omega
 ·rw[Nat.mul_one,bv_append,←bv_length L]
  simp
theorem mkB (w:World) (l c:Nat) (hlc:l≤c) (hc:c≤140737488355328):∃w',(Instr.makeSlice 56 (.int .i64 (l:Int)) (.int .i64 (c:Int))).run Tryz.prog w=.ok (.slice (some ⟨w.heap.size,0,none⟩) l c) w'∧w'.heap[w.heap.size]? = some (rowQ (List.replicate l 0++List.replicate (c-l) 0))∧w.grownBy w' none∧w'.heap.size=w.heap.size+1:=by
 obtain⟨i0,hi0,hz0,hz1,hz2⟩:=info_parts infoB
 have hh:=run_make (P:=Tryz.prog) w 56 5 i0 _ Tryz.underlying56 hi0 hz0 .i64 .i64 (l:Int) (c:Int) (by omega) (by omega) (by rw[hz2];omega) (by omega)
 refine⟨_,hh,?_,World.grownBy_alloc w _ _,by simp⟩
 rw[heap_alloc_new]
 rw[hz1,Int.toNat_natCast,Nat.mul_one]
 congr 2
 apply Array.toList_inj.1
 rw[show (Value.int .u8 0).cells=#[.int .u8 0] from rfl,toList_madeCells_one,List.replicate_append_replicate,show l+(c-l)=c by omega]
 simp[bv,u8v]
def probesOf (pk:Nat):Nat:=max 1 (min (pk*69/100) 30)
def sizeOf' (n pk:Nat):Nat:=(max 64 (n*pk)+7)/8
def filtB (ks:List (List UInt8)) (pk:Nat):List UInt8:=fillB (probesOf pk) ks (List.replicate (sizeOf' ks.length pk) 0)++[UInt8.ofNat (probesOf pk)]
theorem filtB_length (ks:List (List UInt8)) (pk:Nat):(filtB ks pk).length=sizeOf' ks.length pk+1:=by
 unfold filtB
 rw[List.length_append,fillB_length,List.length_replicate]
 rfl
theorem fillB_snoc (p:Nat) (ks:List (List UInt8)) (k:List UInt8) (b:List UInt8):fillB p (ks++[k]) b=setKey p (fillB p ks b) k:=by
 unfold fillB
 rw[List.foldl_append]
 rfl
theorem kMake_any (v:Value) (ks:List (List UInt8)) (pk:Nat) (w:World) (hv:ST w w.heap.size v ks) (hn:ks.length≤10000) (h1:1≤pk) (h2:pk≤64) (hk:∀k∈ks,k.length≤1048576) :
  Calls Tryz.prog 57 #[v,.int .i64 (pk:Int)] w fun e w'=>∃r,e=.returned r∧OB w' w.heap.size r (filtB ks pk)∧Below w.heap.size w w':=by
 obtain⟨A,c,rfl,hlc,hcm,hr⟩:=hv
 have hcm':c≤9223372036854775807:=by unfold maxLen at hcm;omega
 clear hcm
 have hpk2:ks.length*pk≤10000*64:=Nat.mul_le_mul hn h2
 obtain⟨n,hn'⟩:∃n,n=ks.length:=⟨_,rfl⟩
 obtain⟨np,hnp⟩:∃np,np=n*pk:=⟨_,rfl⟩
 obtain⟨p,hp⟩:∃p,p=probesOf pk:=⟨_,rfl⟩
 obtain⟨m,hm⟩:∃m,m=sizeOf' n pk:=⟨_,rfl⟩
 obtain⟨cc,hcc⟩:∃cc,cc=np/8+10:=⟨_,rfl⟩
 have hnp2:np≤640000:=by rw[hnp,hn'];omega
 have hp2:p≤30:=by rw[hp];unfold probesOf;omega
 have hp3:1≤p:=by rw[hp];unfold probesOf;omega
 have hm2:m≤cc∧8≤m∧m≤1048576∧m+1≤cc:=by rw[hm,hcc];unfold sizeOf';rw[←hnp];omega
 have g1:max (1:Int) (min (pk:Int) 64)=(pk:Int):=by omega
 have g2:max (1:Int) (min ((pk:Int)*69/100) 30)=(p:Int):=by rw[hp];unfold probesOf;omega
 have g3:(ks.length:Int)*(pk:Int)=(np:Int):=by rw[hnp,hn',←Int.natCast_mul]
 have g4:(max (64:Int) (np:Int)+7)/8=(m:Int):=by rw[hm];unfold sizeOf';rw[←hnp];omega
 have g5:(np:Int)/8+10=(cc:Int):=by rw[hcc];omega
 have g6:(p:Int)%256=(p:Int):=by omega
 have g7:IntKind.u8.wrap (p:Int)=(p:Int):=by rw[IntKind.wrap_u8'];omega
 obtain⟨w1,hmk,hrow,hg1,hz1⟩:=mkB w m cc hm2.1 (by omega)
 have HX:=Lib.hid (And.intro hn' (And.intro hnp (And.intro hp (And.intro hm hcc))))
 have b1:Below w.heap.size w w1:=below_grown (bself w) hg1 (Nat.le_refl _) (fun g e=>by cases e)
 have hr1:=Lib.hid (hr.below b1)
 have HK:=Lib.hid hk
 have hmc:=hm2.1
 have hm8:=hm2.2.1
 have hm16:=hm2.2.2.1
 have hmc1:=hm2.2.2.2
 have hccb:cc≤100000:=by omega
 clear hnp hp hm hcc hn' hg1 hm2 hr hk
 go_enter Tryz.func57,Tryz.ntmps57
 go_wp2_with fail
 clear g1 g2 g3 g4 g5 hmk
 go_loopw [33] (fun i wr=>∃k:Nat,i=.int .i64 k∧k≤ks.length∧wr.heap[w.heap.size]? = some (rowQ (fillB p (ks.take k) (List.replicate m 0)++List.replicate (cc-m) 0))∧w1.grownBy wr (some w.heap.size)) (fun i _=>ks.length-(RowKit.intOf i).toNat)
 case atStart=>exact⟨0,rfl,Nat.zero_le _,hrow,⟨rfl,rfl,rfl,Nat.le_refl _,fun _ _ _=>rfl⟩⟩
 case round =>
  obtain⟨k,rfl,hkn,hrk,hgr⟩:=hrel
  have hbr:Below w.heap.size w wr:=below_grown b1 hgr b1.size (fun g e=>by injection e with e;omega)
  by_cases hlt:k<ks.length
  ·obtain⟨b,o,rfl,hb,hcell⟩:=(hr1.out).at_ (by omega)
   have c0:=(World.cell?_of_block (a:=⟨b,o+k,none⟩) (hgr.block b (by omega) (fun e=>by injection e with e;omega))).trans (hcell k (encStr ks[k]) (by simp[hlt]))
   have hkl:=HK.out _ (List.getElem_mem hlt)
   have hsnoc:fillB p (ks.take (k+1)) (List.replicate m 0)=setKey p (fillB p (ks.take k) (List.replicate m 0)) ks[k]:=by rw[List.take_succ_eq_append_getElem hlt,fillB_snoc]
   obtain⟨x,hx⟩:∃x,x=ks[k]:=⟨_,rfl⟩
   rw[←hx] at c0 hkl hsnoc
   have hC:=kSet_any w.heap.size m cc (fillB p (ks.take k) (List.replicate m 0)) (List.replicate (cc-m) 0) ⟨x.toArray⟩ p wr hrk (by rw[fillB_length,List.length_replicate]) (by omega) hm16 hmc (by omega) hp2 (by show x.toArray.size≤_;simp;omega)
   have HC:=Lib.hid hC
   have HS:=Lib.hid hsnoc
   clear hC hsnoc hx
   go_wp2_with fail
   refine HC.out.mono ?_
   rintro _ w3 ⟨rfl,hrow3,hg3⟩
   go_wp2_with fail
   go_roundw
   case rel=>exact⟨k+1,by go_num,by omega,by rw[HS.out];exact hrow3,hgr.trans hg3⟩
   case measure=>first|(simp[RowKit.intOf];done)|(simp[RowKit.intOf];omega)
  ·have hkl:k=ks.length:=by omega
   subst hkl
   rw[List.take_length] at hrk
   have hown:OB wr w.heap.size (.slice (some ⟨w.heap.size,0,none⟩) m cc) (fillB p ks (List.replicate m 0)):=OB.ofRow hrk (by rw[fillB_length,List.length_replicate]) (by rw[fillB_length,List.length_replicate,List.length_replicate];omega) (by simp only[maxLen];omega) (Nat.le_refl _)
   have hrs:wr.heap.size=w.heap.size+1∨w.heap.size+1≤wr.heap.size:=by have:=hgr.size;omega
   have hsz:w.heap.size≤wr.heap.size:=by omega
   have hfl:(fillB p ks (List.replicate m 0)).length=m:=by rw[fillB_length,List.length_replicate]
   clear hr1 HK hrow hrk
   have hpv:Value.int .u8 (p:Int)=u8v (UInt8.ofNat p):=by
    have:(UInt8.ofNat p).toNat=p:=by rw[UInt8.toNat_ofNat'];omega
    simp only[u8v,this]
   go_wp2_with (at_builtin;go_loud (refine wl_app1 rfl (.tmp 42) (.tmp 45) rfl w.heap.size _ _ rfl hown _ (UInt8.ofNat p) rfl (g:=wr.heap.size) rfl rfl (by rw[hfl];omega) hsz ?_);intro v4 w4 hown4 hg4 ho4 hb4)
   go_ret
   have HXo:=HX.out
   refine⟨_,rfl,?_,hbr.trans hb4⟩
   unfold filtB
   rw[←HXo.1,←HXo.2.2.1,←HXo.2.2.2.1]
   exact hown4
end Go.Proofs.YtchjknbideoieaaGreatDoor
