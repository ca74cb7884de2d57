/- What is proved here: what text of package block comes to, at this seat's numbers. Condition: so many bytes are there. what take of package block comes to, at this seat's numbers. Conditions: the texts' lengths. what slices.Equal and Read of package block come to, at this seat's numbers. Conditions: the bytes' number. what Read of package block comes to, at this seat's .. -/
import Derived.Test.YtchjknbideoieaaGreatDoorK26
import Derived.Laws.OwnMore
import Derived.Test.YtchjknbideoieaaGreatDoorK20
import Derived.Deep.DeepCutAuto
import Derived.Test.YtchjknbideoieaaGreatDoorK19
namespace Go.Proofs.YtchjknbideoieaaGreatDoor
set_option maxRecDepth 100000
set_option maxHeartbeats 8000000
open Go.RowKit
def txUp (l:List UInt8) (n k:Nat):List UInt8:=l.take k++List.replicate (n-k) 0
theorem txUp_len {l:List UInt8} {n k:Nat} (hn:n≤l.length) (hk:k≤n):(txUp l n k).length=n:=by unfold txUp;simp;omega
theorem txUp_0 (l:List UInt8) (n:Nat):txUp l n 0=List.replicate n 0:=by simp[txUp]
theorem txUp_n (l:List UInt8) (n:Nat):txUp l n n=l.take n:=by simp[txUp]
theorem txUp_step {l:List UInt8} {n k:Nat} (hn:n≤l.length) (hk:k<n):(txUp l n k).set k (l[k]'(by omega))=txUp l n (k+1):=by
 have ht:l.take (k+1)=l.take k++[l[k]'(by omega)]:=by rw[List.take_succ_eq_append_getElem (by omega)]
 unfold txUp
 rw[ht,List.set_append_right _ _ (by rw[List.length_take];omega),List.length_take,Nat.min_eq_left (by omega),Nat.sub_self,show n-k=(n-(k+1))+1 from by omega,List.replicate_succ,List.set_cons_zero,List.append_assoc]
 rfl
theorem sFix_1 (l:List UInt8) (k:Nat) (hk:k<l.length):sFix 1 (l.drop k,0)=((l[k]).toNat,l.drop (k+1),0):=by
 unfold sFix
 rw[if_neg (by simp),if_neg (by omega),if_neg (by simp only[List.length_drop];omega)]
 show (leN ((l.drop k).take 1),(l.drop k).drop 1,0)=_
 rw[List.drop_drop,List.drop_eq_getElem_cons hk,List.take_succ_cons,List.take_zero,leN,leN]
 simp
abbrev rowU (l:List UInt8):Obj:=.cells (bv l).toArray 5 (0,0)
theorem bu_cell {w:World} {D:Nat} {l:List UInt8} (h:w.heap[D]? = some (rowU l)) {k:Nat} (hk:k<l.length) :
  w.cell? ⟨D,k,none⟩=some (u8v l[k])∧w.frozen? ⟨D,k,none⟩=false∧∀b:UInt8,(w.setCell ⟨D,k,none⟩ (u8v b)).heap[D]? = some (rowU (l.set k b)):=by
 refine⟨?_,by simp[World.frozen?,h],fun b=>?_⟩
 ·rw[cell_of_row _ _ k _ _ _ h]
  have:=bv_get l k hk
  simpa using this
 ·simp only[World.setCell,Array.getElem?_modify,h]
  simp[bv,List.map_set]
theorem sb_row {w:World} {g n B:Nat} {l:List UInt8} (h:w.heap[g]? = some (rowU l)) (hB:g<B) (hn:l.length=n) (hm:n≤maxLen):SB w B (.slice (some ⟨g,0,none⟩) n n) l:=by
 subst hn
 refine⟨_,_,rfl,Nat.le_refl _,hm,by rw[bv_length,Nat.mul_one],(fun h=>by cases h),fun ad e _=>?_⟩
 injection e with e
 subst e
 refine⟨rfl,hB,fun j u hu=>?_⟩
 have h2:=cell_of_row w g (0+j) _ _ _ h
 rw[h2,Nat.zero_add]
 simpa using hu
theorem grown_beside {w w2:World} {R M k:Nat} {u:Value} (h:w.grownBy w2 (some R)) (hM:w.heap.size≤M):w.grownBy (w2.setCell ⟨M,k,none⟩ u) (some R) :=
 ⟨h.os,h.tape,h.output,by simpa using h.size,fun x hx hne=>(Below.heap_setCell _ _ _ _ (by show x≠M;omega)).trans (h.block x hx hne)⟩
theorem mk_text (w:World) (n:Nat) (hn:n≤140737488355328):∃w',(Instr.makeSlice 56 (.int .u64 (n:Int)) (.int .u64 (n:Int))).run Tryz.prog w=.ok (.slice (some ⟨w.heap.size,0,none⟩) n n) w'∧w'.heap[w.heap.size]? = some (rowU (List.replicate n 0))∧w.grownBy w' none:=by
 obtain⟨i0,hi0,hz0,hz1,hz2⟩:=info_parts infoB
 obtain⟨w',h1,h2,h3⟩:=run_make_full (P:=Tryz.prog) w w.heap.size 56 5 i0 _ 1 Tryz.underlying56 hi0 hz0 hz1 .u64 .u64 n (by rw[hz2];omega) (by simp only[maxLen];omega) (Nat.le_refl _)
 refine⟨w',h1,?_,h3⟩
 rw[show (Value.int .u8 0).cells=#[.int .u8 0] from rfl,toList_madeCells_one,Nat.mul_one] at h2
 have hh:=run_make (P:=Tryz.prog) w 56 5 i0 _ Tryz.underlying56 hi0 hz0 .u64 .u64 (n:Int) (n:Int) (by omega) (Int.le_refl _) (by rw[hz2];omega) (by omega)
 rw[h1] at hh
 injection hh with _ hw
 rw[hw,heap_alloc_new]
 rw[hz1,Int.toNat_natCast,Nat.mul_one]
 congr 2
 apply Array.toList_inj.1
 rw[show (Value.int .u8 0).cells=#[.int .u8 0] from rfl,toList_madeCells_one]
 simp[bv,u8v]
theorem kText_any (R:Nat) (rest:List UInt8) (n:Nat) (w:World) (h:RdrAt w R rest 0) (hn:n≤rest.length) (hl:rest.length≤140737488355328) :
  Calls Tryz.prog 123 #[.pointer (some ⟨R,0,none⟩),.int .u64 (n:Int)] w fun e w'=>e=.returned (.string ⟨(rest.take n).toArray⟩)∧RdrAt w' R (rest.drop n) 0∧w.grownBy w' (some R):=by
 obtain⟨w1,hm1,hr1,hg1⟩:=mk_text w n (by omega)
 have hRlt:=h.lt
 have h1:RdrAt w1 R rest 0:=h.far hg1 (fun g e=>by cases e)
 have z1:w.heap.size<w1.heap.size:=(Array.getElem?_eq_some_iff.1 hr1).1
 have HM:=Lib.hid (fun W k (hk:k<rest.length) (hr:RdrAt W R (rest.drop k) 0)=>(show Calls Tryz.prog 74 #[.pointer (some ⟨R,0,none⟩),.int .i64 1] W fun e w'=>e=.returned (.int .u64 ((rest[k]).toNat:Int))∧RdrAt w' R (rest.drop (k+1)) 0∧W.grownBy w' (some R) from by
  have h:=mFix_any R _ 0 1 W hr (by omega) (by omega)
  rw[sFix_1 rest k hk] at h
  exact h))
 go_enter Tryz.func123,Tryz.ntmps123
 go_wp2
 clear hm1
 go_loopw [6,11] (fun _ i wr=>∃k:Nat,i=.int .i64 k∧k≤n∧Hid (wr.heap[w.heap.size]? = some (rowU (txUp rest n k))∧RdrAt wr R (rest.drop k) 0∧w.grownBy wr (some R))) (fun _ i _=>n-(intOf i).toNat)
 case atStart=>exact⟨0,rfl,Nat.zero_le _,Lib.hid ⟨by rw[txUp_0];exact hr1,h1,⟨hg1.os,hg1.tape,hg1.output,hg1.size,fun k hk _=>hg1.block k hk (by simp)⟩⟩⟩
 case round =>
  obtain⟨k,rfl,hk,hH⟩:=hrel
  by_cases hlt:k<n
  ·have hk2:k<rest.length:=by omega
   have hc:=HM.out wr k hk2 hH.out.2.1
   obtain⟨x,hx⟩:∃x,x=rest[k]:=⟨_,rfl⟩
   rw[←hx] at hc
   have HX:=Lib.hid hx
   have HC:=Lib.hid hc
   have hzr:w.heap.size<wr.heap.size:=(Array.getElem?_eq_some_iff.1 hH.out.1).1
   have HA:Hid (∀w2,RdrAt w2 R (rest.drop (k+1)) 0→wr.grownBy w2 (some R)→((∃u,w2.cell? ⟨w.heap.size,k,none⟩=some (u8v u))∧w2.frozen? ⟨w.heap.size,k,none⟩=false)∧((w2.setCell ⟨w.heap.size,k,none⟩ (.int .u8 (x.toNat:Int))).heap[w.heap.size]? = some (rowU (txUp rest n (k+1)))∧RdrAt (w2.setCell ⟨w.heap.size,k,none⟩ (.int .u8 (x.toNat:Int))) R (rest.drop (k+1)) 0∧w.grownBy (w2.setCell ⟨w.heap.size,k,none⟩ (.int .u8 (x.toNat:Int))) (some R))):=Lib.hid (fun w2 hr2 hg2=>by
    have hM2:w2.heap[w.heap.size]? = some (rowU (txUp rest n k)):=(hg2.block _ hzr (fun e=>by injection e with e;omega)).trans hH.out.1
    obtain⟨c0,f0,hset⟩:=bu_cell hM2 (k:=k) (by rw[txUp_len hn (by omega)];exact hlt)
    refine⟨⟨⟨_,c0⟩,f0⟩,?_,hr2.far (grown_set (p:=⟨w.heap.size,k,none⟩) w2 rfl _) (fun g e=>by have e2:w.heap.size=g:=(by injection e);omega),grown_beside (hH.out.2.2.trans hg2) (Nat.le_refl _)⟩
    rw[←txUp_step hn hlt,←HX.out]
    exact hset x)
   have gx:(x.toNat:Int)%256=(x.toNat:Int):=by have:=u8_lt x;omega
   clear hc hx hH HM
   go_wp2_with (go_at_call 74;refine HC.out.mono ?_;rintro _ w2 ⟨rfl,hr2,hg2⟩;obtain⟨⟨⟨u0,c0⟩,f0⟩,h9⟩:=HA.out w2 hr2 hg2)
   go_roundw
   case rel=>exact⟨k+1,by go_num,by omega,Lib.hid h9⟩
   case measure=>simp[intOf];omega
  ·have hkn:k=n:=by omega
   subst hkn
   obtain⟨hM,hrd,hg⟩:=hH.out
   rw[txUp_n] at hM
   have hs:SB wr wr.heap.size (.slice (some ⟨w.heap.size,0,none⟩) k k) (rest.take k):=sb_row hM (Array.getElem?_eq_some_iff.1 hM).1 (by rw[List.length_take];omega) (by simp only[maxLen];omega)
   go_wp2_with (refine wl_b2s (o:=⟨some 22,_,_,_,_,_⟩) rfl (.tmp 21) rfl _ rfl _ _ hs ?_)
   go_ret
   exact⟨rfl,hrd,hg⟩
end Go.Proofs.YtchjknbideoieaaGreatDoor
namespace Go.Proofs.YtchjknbideoieaaGreatDoor
set_option maxRecDepth 100000
set_option maxHeartbeats 8000000
open Go.RowKit
theorem sNum_len (s:Rs):(sNum s).2.1.length≤s.1.length:=by
 unfold sNum
 split
 ·simp
 ·exact Nat.le_refl _
theorem below_g {w w':World} (b:Below w.heap.size w w') (R:Nat):w.grownBy w' (some R):=⟨b.os,b.tape,b.output,b.size,fun x hx _=>b.block x hx⟩
theorem RdrAt.set {w:World} {R:Nat} {rest:List UInt8} {bad:Nat} (h:RdrAt w R rest bad) {M k:Nat} (hp:R<M) (u:Value):RdrAt (w.setCell ⟨M,k,none⟩ u) R rest bad :=
 h.far (grown_set (p:=⟨M,k,none⟩) w rfl u) (fun g e=>by have e2:M=g:=(by injection e);omega)
theorem iTake_any (s:ByteArray) (w:World) (hm:s.size≤140737488355328) :
  Calls Tryz.prog 124 #[.string s] w fun en w'=>en=.returned (takeV s.data.toList)∧Below w.heap.size w w':=by
 by_cases h:s.size<8
 ·exact iTake_short s w h
 ·exact iTake_long s w (by omega) hm
theorem key_of (last:ByteArray) (t:List UInt8) (n:Nat):(last.extract 0 n++(⟨t.toArray⟩:ByteArray)).data.toList=last.data.toList.take n++t:=by
 simp[]
def withV (e:Ent) (l:List UInt8):Ent:=⟨e.user,e.seq,e.kind,⟨l.toArray⟩⟩
theorem takeB1_of {s last:List UInt8} {n1 n2 n3 b1 b2 b3:Nat} {s1 s2 s3:List UInt8} (e1:sNum (s,0)=(n1,s1,b1)) (e2:sNum (s1,b1)=(n2,s2,b2)) (e3:sNum (s2,b2)=(n3,s3,b3)) :
  takeB1 (s,0) last=if b3≠0∨last.length<n1∨s3.length<n2∨s3.length-n2<n3 then none
   else if isKey (last.take n1++s3.take n2) then some (withV (takeE (last.take n1++s3.take n2)) ((s3.drop n2).take n3),last.take n1++s3.take n2,s3.drop (n2+n3)) else none:=by
 unfold takeB1
 simp only[e1,e2,e3]
 rfl
theorem kTake_any (R:Nat) (s:List UInt8) (last:ByteArray) (w:World) (h:RdrAt w R s 0) (hs:s.length≤1099511627776) (hl:last.size≤1099511627776) :
  Calls Tryz.prog 104 #[.pointer (some ⟨R,0,none⟩),.string last] w fun en w'=>∃e kv ok r,en=.returned (.tuple #[entV e,.string kv,.bool ok])∧w.grownBy w' (some R) ∧
   Hid (takeB1 (s,0) last.data.toList=(if ok=true then some (e,kv.data.toList,r) else none)∧(ok=true→RdrAt w' R r 0)):=by
 have hRlt:=h.lt
 obtain⟨n1,s1,b1,e1⟩:∃n1 s1 b1,sNum (s,0)=(n1,s1,b1):=⟨_,_,_,rfl⟩
 obtain⟨n2,s2,b2,e2⟩:∃n2 s2 b2,sNum (s1,b1)=(n2,s2,b2):=⟨_,_,_,rfl⟩
 obtain⟨n3,s3,b3,e3⟩:∃n3 s3 b3,sNum (s2,b2)=(n3,s3,b3):=⟨_,_,_,rfl⟩
 have hT:=takeB1_of (last:=last.data.toList) e1 e2 e3
 have l1:=sNum_len (s,0)
 have l2:=sNum_len (s1,b1)
 have l3:=sNum_len (s2,b2)
 have m1:=sNum_lt (s,0)
 have m2:=sNum_lt (s1,b1)
 have m3:=sNum_lt (s2,b2)
 rw[e1] at l1 m1
 rw[e2] at l2 m2
 rw[e3] at l3 m3
 dsimp only at l1 l2 l3 m1 m2 m3
 have hs3:s3.length≤1099511627776:=by omega
 rw[toList_size] at hT
 have HT:=Lib.hid hT
 have C1:=Lib.hid (fun W (hr:RdrAt W R s 0)=>mNum_any R s 0 W hr)
 have C2:=Lib.hid (fun W (hr:RdrAt W R s1 b1)=>mNum_any R s1 b1 W hr)
 have C3:=Lib.hid (fun W (hr:RdrAt W R s2 b2)=>mNum_any R s2 b2 W hr)
 rw[e1] at C1
 rw[e2] at C2
 rw[e3] at C3
 clear l1 l2 l3 e1 e2 e3 hT
 go_enter Tryz.func104,Tryz.ntmps104
 go_wp2_with fail
 have h0:=h.on (balloc (bself w) (.cells #[.string .empty,.int .u64 0,.int .u8 0,.string .empty] 29)) (Nat.le_refl _)
 refine (C1.out _ h0).mono ?_
 rintro _ w1 ⟨rfl,hr1,hg1⟩
 try dsimp only at hr1
 go_wp2_with fail
 refine (C2.out _ hr1).mono ?_
 rintro _ w2 ⟨rfl,hr2,hg2⟩
 try dsimp only at hr2
 go_wp2_with fail
 refine (C3.out _ hr2).mono ?_
 rintro _ w3 ⟨rfl,hr3,hg3⟩
 try dsimp only at hr3
 have hz3:w3.heap[w.heap.size]? = some (.cells #[.string ⟨#[]⟩,.int .u64 0,.int .u8 0,.string ⟨#[]⟩] 29 (0,0)) :=
  (((hg1.trans hg2).trans hg3).block _ (by simp) (fun e=>by injection e with e;omega)).trans (heap_alloc_new w _)
 have g3:w.grownBy w3 (some R):=(below_g (balloc (bself w) _) R).trans ((hg1.trans hg2).trans hg3)
 have gw:IntKind.u64.wrap (s3.length:Int)=(s3.length:Int):=by rw[IntKind.wrap_u64];omega
 have gl:IntKind.u64.wrap (last.size:Int)=(last.size:Int):=by rw[IntKind.wrap_u64];omega
 clear C1 C2 C3 hg1 hg2 hg3 hr1 hr2 h0 h
 go_upto_region 3 with (go_at_call 102;refine (mLeft_any R s3 b3 _ hr3).mono ?_;rintro _ w3 ⟨rfl,rfl⟩)
 have HF:=Lib.hid (mFault_any R s3 b3 w3 hr3)
 obtain⟨⟨x0,x1,x2,x3⟩,y0,y1,y2,y3⟩:=cells4 hz3
 by_cases hb:b3=0
 case neg =>
  have hb':(((b3:Int))==0)=false:=by rw[beq_eq_false_iff_ne];omega
  go_wp2_with (go_at_call 77;refine HF.out.mono ?_;rintro _ w3 ⟨rfl,rfl⟩)
  exact bodyPost_ret (v:=.tuple #[.agg #[.string .empty,.int .u64 0,.int .u8 0,.string .empty],.string .empty,.bool false]) (by simp[results,Tryz.results104,go_sem,x0,x1,x2,x3] <;> rfl) rfl ⟨⟨.empty,0,0,.empty⟩,.empty,false,[],rfl,grown_beside (grown_beside (grown_beside (grown_beside g3 (Nat.le_refl _)) (Nat.le_refl _)) (Nat.le_refl _)) (Nat.le_refl _),Lib.hid ⟨by rw[HT.out,if_pos (.inl hb)];rfl,fun h=>by cases h⟩⟩
 subst hb
 by_cases k1:last.size<n1
 ·have k1':decide ((last.size:Int)<(n1:Int))=true:=by simp;omega
  go_wp2_with (go_at_call 77;refine HF.out.mono ?_;rintro _ w3 ⟨rfl,rfl⟩)
  exact bodyPost_ret (v:=.tuple #[.agg #[.string .empty,.int .u64 0,.int .u8 0,.string .empty],.string .empty,.bool false]) (by simp[results,Tryz.results104,go_sem,x0,x1,x2,x3] <;> rfl) rfl ⟨⟨.empty,0,0,.empty⟩,.empty,false,[],rfl,grown_beside (grown_beside (grown_beside (grown_beside g3 (Nat.le_refl _)) (Nat.le_refl _)) (Nat.le_refl _)) (Nat.le_refl _),Lib.hid ⟨by rw[HT.out,if_pos (.inr (.inl k1))];rfl,fun h=>by cases h⟩⟩
 have k1':decide ((last.size:Int)<(n1:Int))=false:=by simp;omega
 by_cases k2:s3.length<n2
 ·have k2':decide ((s3.length:Int)<(n2:Int))=true:=by simp;omega
  go_wp2_with (go_at_call 77;refine HF.out.mono ?_;rintro _ w3 ⟨rfl,rfl⟩)
  exact bodyPost_ret (v:=.tuple #[.agg #[.string .empty,.int .u64 0,.int .u8 0,.string .empty],.string .empty,.bool false]) (by simp[results,Tryz.results104,go_sem,x0,x1,x2,x3] <;> rfl) rfl ⟨⟨.empty,0,0,.empty⟩,.empty,false,[],rfl,grown_beside (grown_beside (grown_beside (grown_beside g3 (Nat.le_refl _)) (Nat.le_refl _)) (Nat.le_refl _)) (Nat.le_refl _),Lib.hid ⟨by rw[HT.out,if_pos (.inr (.inr (.inl k2)))];rfl,fun h=>by cases h⟩⟩
 have k2':decide ((s3.length:Int)<(n2:Int))=false:=by simp;omega
 have gs:IntKind.u64.wrap ((s3.length:Int)-(n2:Int))=(s3.length:Int)-(n2:Int):=by rw[IntKind.wrap_u64];omega
 by_cases k3:s3.length-n2<n3
 ·have k3':decide ((s3.length:Int)-(n2:Int)<(n3:Int))=true:=by simp;omega
  go_wp2_with (go_at_call 77;refine HF.out.mono ?_;rintro _ w3 ⟨rfl,rfl⟩)
  exact bodyPost_ret (v:=.tuple #[.agg #[.string .empty,.int .u64 0,.int .u8 0,.string .empty],.string .empty,.bool false]) (by simp[results,Tryz.results104,go_sem,x0,x1,x2,x3] <;> rfl) rfl ⟨⟨.empty,0,0,.empty⟩,.empty,false,[],rfl,grown_beside (grown_beside (grown_beside (grown_beside g3 (Nat.le_refl _)) (Nat.le_refl _)) (Nat.le_refl _)) (Nat.le_refl _),Lib.hid ⟨by rw[HT.out,if_pos (.inr (.inr (.inr k3)))];rfl,fun h=>by cases h⟩⟩
 have k3':decide ((s3.length:Int)-(n2:Int)<(n3:Int))=false:=by simp;omega
 go_upto_region 5 with (go_at_call 77;refine HF.out.mono ?_;rintro _ w3 ⟨rfl,rfl⟩)
 clear k1' k2' k3' gs gl gw HF x0 x1 x2 x3 y0 y1 y2 y3
 have HTe:Hid (takeB1 (s,0) last.data.toList=if isKey (last.data.toList.take n1++s3.take n2) then some (withV (takeE (last.data.toList.take n1++s3.take n2)) ((s3.drop n2).take n3),last.data.toList.take n1++s3.take n2,s3.drop (n2+n3)) else none):=Lib.hid (by rw[HT.out,if_neg (by omega)])
 have hko:=key_of last (s3.take n2) n1
 obtain⟨kb,hkb⟩:∃kb,kb=last.extract 0 n1++(⟨(s3.take n2).toArray⟩:ByteArray):=⟨_,rfl⟩
 have q1:=hkb.symm
 rw[q1] at hko
 rw[←hko] at HTe
 have hks:kb.size≤140737488355328:=by
  rw[←toList_size,hko,List.length_append,List.length_take,List.length_take,toList_size]
  omega
 have HKO:=Lib.hid hko
 clear hkb hko HT
 have kn1:(n1:Int)≤(last.size:Int):=by omega
 have kn2:min n2 s3.length=n2:=by omega
 have f1:¬9223372036854775807<min n1 last.size+n2:=by omega
 have HX:=Lib.hid (kText_any R s3 n2 w3.drew (hr3.drewN 1) (by omega) (by omega))
 refine wp_region_noPanic ?_
 refine wp_region_held_drew (S:=fun _=>True) (by kernel_rfl) trivial (fun hHeld=>?_)
 refine rtk 0 ?_
 refine rtk 1 ?_
 refine rtk 2 ?_
 refine rtk 3 ?_
 refine rtk 4 ?_
 refine ro 5 (fun K hK=>?_)
 (go_simp;go_at_call 123;refine HX.out.mono ?_;rintro _ w4 ⟨rfl,hr4,hg4⟩;go_wp2_with fail)
 refine hK.out _ _ ?_ (fun hHeld=>?_)
 ·exact trivial
 clear hK K
 try simp only[Act.put,q1,q2,q3]
 refine rtk 6 ?_
 refine rtk 7 ?_
 refine rdn ?_
 have hgd:w3.grownBy w4 (some R):=⟨hg4.os,hg4.tape,hg4.output,hg4.size,hg4.block⟩
 have hzlt:w.heap.size<w3.heap.size:=(Array.getElem?_eq_some_iff.1 hz3).1
 have hz4:=(hgd.block _ hzlt (fun e=>by injection e with e;omega)).trans hz3
 have g4:=g3.trans hgd
 clear hHeld HX q1 HKO hg4 hgd hz3 hzlt hr3 g3 f1 kn2 kn1
 have HI:=Lib.hid (iTake_any kb w4 hks)
 have hrl:(s3.drop n2).length=s3.length-n2:=List.length_drop
 have hn3:n3≤(s3.drop n2).length:=by omega
 have hd2:s3.drop (n2+n3)=(s3.drop n2).drop n3:=by rw[List.drop_drop]
 rw[hd2] at HTe
 obtain⟨t,ht⟩:∃t,t=s3.drop n2:=⟨_,rfl⟩
 rw[←ht] at hr4 HTe hn3
 have htl:t.length≤140737488355328:=by rw[ht];omega
 clear ht hrl hd2 hs3 k2 k3
 cases hik:isKey kb.data.toList with
 | true =>
  have htv:takeV kb.data.toList=.tuple #[entV (takeE kb.data.toList),.int .i64 0]:=by unfold takeV;rw[if_pos hik]
  rw[htv] at HI
  rw[hik,if_pos rfl] at HTe
  obtain⟨q,hq⟩:∃q,q=takeE kb.data.toList:=⟨_,rfl⟩
  rw[←hq] at HI HTe
  clear hq htv hik
  go_wp2_with fail
  refine HI.out.mono ?_
  rintro _ w5 ⟨rfl,hb5⟩
  have hz4l:w.heap.size<w4.heap.size:=(Array.getElem?_eq_some_iff.1 hz4).1
  have hz5:=(hb5.block _ hz4l).trans hz4
  have hr5:=(hr4.on hb5 (Nat.le_refl _)).on (balloc (bself w5) (.cells #[.string q.user,.int .u64 (q.seq.toNat:Int),.int .u8 (q.kind.toNat:Int),.string q.value] 29)) (Nat.le_refl _)
  have hz5b:=(hr5.lt)
  have HX:=Lib.hid (kText_any R t n3 _ hr5 hn3 htl)
  have hz5l:=hb5.size
  have hq5:=heap_alloc_new w5 (.cells #[.string q.user,.int .u64 (q.seq.toNat:Int),.int .u8 (q.kind.toNat:Int),.string q.value] 29)
  have hz5':(w5.alloc (.cells #[.string q.user,.int .u64 (q.seq.toNat:Int),.int .u8 (q.kind.toNat:Int),.string q.value] 29)).heap[w.heap.size]? = some (.cells #[.string ⟨#[]⟩,.int .u64 0,.int .u8 0,.string ⟨#[]⟩] 29 (0,0)):=((balloc (bself w5) _).block _ (by omega)).trans hz5
  have g5:=(g4.trans (below_g hb5 R)).trans (below_g (balloc (bself w5) (.cells #[.string q.user,.int .u64 (q.seq.toNat:Int),.int .u8 (q.kind.toNat:Int),.string q.value] 29)) R)
  have hRl5:R<w5.heap.size:=Nat.lt_of_lt_of_le hr4.lt hz5l
  clear HI hr4 hr5 hz4 hz5 hb5 hn3 htl hz5b g4
  go_wp2_with fail
  refine HX.out.mono ?_
  rintro _ w6 ⟨rfl,hr6,hg6⟩
  have hz6:=(hg6.block _ (by simp;omega) (fun e=>by injection e with e;omega)).trans hz5'
  have hq6:=(hg6.block _ (by simp) (fun e=>by injection e with e;omega)).trans hq5
  have g6:=g5.trans hg6
  clear HX hz5' hq5 g5 hg6
  obtain⟨⟨x0,x1,x2,x3⟩,y0,y1,y2,y3⟩:=cells4 hz6
  obtain⟨⟨z0,z1,z2,z3⟩,v0,v1,v2,v3⟩:=cells4 hq6
  have hrl:=((((hr6.set hRl5 (k:=3) (.string ⟨(t.take n3).toArray⟩)).set hRlt (k:=0) (.string q.user)).set hRlt (k:=1) (.int .u64 (q.seq.toNat:Int))).set hRlt (k:=2) (.int .u8 (q.kind.toNat:Int))).set hRlt (k:=3) (.string ⟨(t.take n3).toArray⟩)
  go_wp2_with fail
  exact bodyPost_ret (v:=.tuple #[.agg #[.string q.user,.int .u64 (q.seq.toNat:Int),.int .u8 (q.kind.toNat:Int),.string ⟨(t.take n3).toArray⟩],.string kb,.bool true]) (by simp[results,Tryz.results104,go_sem,x0,x1,x2,x3] <;> rfl) rfl ⟨withV q (t.take n3),kb,true,t.drop n3,rfl,grown_beside (grown_beside (grown_beside (grown_beside (grown_beside g6 (by omega)) (Nat.le_refl _)) (Nat.le_refl _)) (Nat.le_refl _)) (Nat.le_refl _),Lib.hid ⟨HTe.out,(fun _=>hrl)⟩⟩
 | false =>
  have htv:takeV kb.data.toList=.tuple #[.agg #[.string .empty,.int .u64 0,.int .u8 0,.string .empty],.int .i64 80]:=by unfold takeV;rw[hik];rfl
  rw[htv] at HI
  rw[hik,if_neg (by decide)] at HTe
  clear htv hik
  go_wp2_with fail
  refine HI.out.mono ?_
  rintro _ w5 ⟨rfl,hb5⟩
  have hz4l:w.heap.size<w4.heap.size:=(Array.getElem?_eq_some_iff.1 hz4).1
  have hz5:=(hb5.block _ hz4l).trans hz4
  have hr5:=(hr4.on hb5 (Nat.le_refl _)).on (balloc (bself w5) (.cells #[.string (⟨#[]⟩:ByteArray),.int .u64 0,.int .u8 0,.string (⟨#[]⟩:ByteArray)] 29)) (Nat.le_refl _)
  have hz5b:=(hr5.lt)
  have HX:=Lib.hid (kText_any R t n3 _ hr5 hn3 htl)
  have hz5l:=hb5.size
  have hq5:=heap_alloc_new w5 (.cells #[.string (⟨#[]⟩:ByteArray),.int .u64 0,.int .u8 0,.string (⟨#[]⟩:ByteArray)] 29)
  have hz5':(w5.alloc (.cells #[.string (⟨#[]⟩:ByteArray),.int .u64 0,.int .u8 0,.string (⟨#[]⟩:ByteArray)] 29)).heap[w.heap.size]? = some (.cells #[.string ⟨#[]⟩,.int .u64 0,.int .u8 0,.string ⟨#[]⟩] 29 (0,0)):=((balloc (bself w5) _).block _ (by omega)).trans hz5
  have g5:=(g4.trans (below_g hb5 R)).trans (below_g (balloc (bself w5) (.cells #[.string (⟨#[]⟩:ByteArray),.int .u64 0,.int .u8 0,.string (⟨#[]⟩:ByteArray)] 29)) R)
  have hRl5:R<w5.heap.size:=Nat.lt_of_lt_of_le hr4.lt hz5l
  clear HI hr4 hr5 hz4 hz5 hb5 hn3 htl hz5b g4
  go_wp2_with fail
  refine HX.out.mono ?_
  rintro _ w6 ⟨rfl,hr6,hg6⟩
  have hz6:=(hg6.block _ (by simp;omega) (fun e=>by injection e with e;omega)).trans hz5'
  have hq6:=(hg6.block _ (by simp) (fun e=>by injection e with e;omega)).trans hq5
  have g6:=g5.trans hg6
  clear HX hz5' hq5 g5 hg6
  obtain⟨⟨x0,x1,x2,x3⟩,y0,y1,y2,y3⟩:=cells4 hz6
  obtain⟨⟨z0,z1,z2,z3⟩,v0,v1,v2,v3⟩:=cells4 hq6
  have hrl:=((((hr6.set hRl5 (k:=3) (.string ⟨(t.take n3).toArray⟩)).set hRlt (k:=0) (.string (⟨#[]⟩:ByteArray))).set hRlt (k:=1) (.int .u64 0)).set hRlt (k:=2) (.int .u8 0)).set hRlt (k:=3) (.string ⟨(t.take n3).toArray⟩)
  go_wp2_with fail
  exact bodyPost_ret (v:=.tuple #[.agg #[.string (⟨#[]⟩:ByteArray),.int .u64 0,.int .u8 0,.string ⟨(t.take n3).toArray⟩],.string kb,.bool false]) (by simp[results,Tryz.results104,go_sem,x0,x1,x2,x3] <;> rfl) rfl ⟨withV ⟨⟨#[]⟩,0,0,⟨#[]⟩⟩ (t.take n3),kb,false,[],rfl,grown_beside (grown_beside (grown_beside (grown_beside (grown_beside g6 (by omega)) (Nat.le_refl _)) (Nat.le_refl _)) (Nat.le_refl _)) (Nat.le_refl _),Lib.hid ⟨HTe.out,(fun h=>by cases h)⟩⟩
end Go.Proofs.YtchjknbideoieaaGreatDoor
namespace Go.Proofs.YtchjknbideoieaaGreatDoor
set_option maxRecDepth 100000
set_option maxHeartbeats 8000000
open Go.RowKit
theorem same_at {a b:List UInt8} {k:Nat} (h1:k<a.length) (h2:k<b.length) (h:a.take k=b.take k) (he:a[k]=b[k]):a.take (k+1)=b.take (k+1):=by
 rw[List.take_succ_eq_append_getElem h1,List.take_succ_eq_append_getElem h2,h,he]
theorem kEqual_any (u v:Value) (a b:List UInt8) (w:World) (hu:SB w w.heap.size u a) (hv:SB w w.heap.size v b) :
  Calls Tryz.prog 105 #[u,v] w fun e w'=>e=.returned (.bool (decide (a=b)))∧Below w.heap.size w w':=by
 obtain⟨A,c,rfl,hlc,hcm,hr⟩:=hu
 obtain⟨A',c',rfl,hlc',hcm',hr'⟩:=hv
 have hcm2:c≤9223372036854775807:=by unfold maxLen at hcm;omega
 have hcm2':c'≤9223372036854775807:=by unfold maxLen at hcm';omega
 clear hcm hcm'
 by_cases hlen:a.length=b.length
 ·have HL:=Lib.hid hlen
  have hl1:((a.length:Int)==(b.length:Int))=true:=by simp[hlen]
  clear hlen
  go_enter Tryz.func105,Tryz.ntmps105
  go_wp2
  clear hl1
  go_loopw [5,13] (fun _ i wr=>∃k:Nat,i=.int .i64 k∧k≤a.length∧Hid (a.take k=b.take k)∧Below w.heap.size w wr) (fun _ i _=>a.length-(intOf i).toNat)
  case atStart=>exact⟨0,rfl,Nat.zero_le _,Lib.hid (by simp),Below.refl _ _⟩
  case round =>
   obtain⟨k,rfl,hk,hI,hb⟩:=hrel
   by_cases hlt:k<a.length
   ·have hlt2:k<b.length:=by have:=HL.out;omega
    obtain⟨b1,o1,rfl,hb1,hc1⟩:=hr.at_ (by omega)
    obtain⟨b2,o2,rfl,hb2,hc2⟩:=hr'.at_ (by omega)
    have d1:=(hb.cell (p:=⟨b1,o1+k,none⟩) hb1).trans (hc1 k _ (bv_get a k hlt))
    have d2:=(hb.cell (p:=⟨b2,o2+k,none⟩) hb2).trans (hc2 k _ (bv_get b k hlt2))
    clear hc1 hc2
    by_cases hx:a[k]=b[k]
    ·have HN:=Lib.hid (same_at hlt hlt2 hI.out hx)
     rw[←hx] at d2
     generalize a[k]=x at d1 d2
     go_upto_region 6 with fail
     go_quiet (fail)
     go_wp2_with fail
     go_roundw
     case rel=>exact⟨k+1,by go_num,by omega,HN,bdrewN hb _⟩
     case measure=>simp[intOf];omega
    ·have HN:Hid (decide (a=b)=false):=Lib.hid (by
      rw[decide_eq_false_iff_not]
      intro e
      exact hx (by simp only[e]))
     have hne:((a[k].toNat:Int)==(b[k].toNat:Int))=false:=by
      rw[beq_eq_false_iff_ne]
      intro e
      exact hx (UInt8.toNat_inj.1 (by omega))
     clear hx
     generalize a[k]=x at d1 hne
     generalize b[k]=y at d2 hne
     go_upto_region 6 with fail
     go_quiet (fail)
     go_wp2_with fail
     go_ret
     exact⟨by rw[HN.out];rfl,bdrewN hb _⟩
   ·have hka:k=a.length:=by omega
    subst hka
    have HN:Hid (decide (a=b)=true):=Lib.hid (by
     have h:=hI.out
     rw[List.take_length,HL.out,List.take_length] at h
     rw[decide_eq_true_eq]
     exact h)
    go_wp2_with fail
    go_ret
    exact⟨by rw[HN.out];rfl,hb⟩
 ·have HN:Hid (decide (a=b)=false):=Lib.hid (by rw[decide_eq_false_iff_not];intro e;exact hlen (by rw[e]))
  have hl1:((a.length:Int)==(b.length:Int))=false:=by rw[beq_eq_false_iff_ne];omega
  clear hlen
  go_enter Tryz.func105,Tryz.ntmps105
  go_wp2
  go_ret
  exact⟨by rw[HN.out];rfl,Below.refl _ _⟩
theorem key_le {s:List UInt8} (h:isKey s=true):s.length≤1032:=by
 unfold isKey at h
 rw[Bool.and_eq_true,decide_eq_true_eq] at h
 have h2:=(rightE_le h.2).1
 have h3:(takeE s).user.size=(s.take (s.length-8)).length:=by
  rw[←toList_size]
  rfl
 rw[h3,List.length_take] at h2
 omega
theorem sNum_bad {s t:List UInt8} {b n:Nat} (h:sNum (s,b)=(n,t,0)):b=0:=by
 unfold sNum at h
 split at h
 ·assumption
 ·injection h with _ h
  injection h
theorem sNum_less {s t:List UInt8} {n:Nat} (h:sNum (s,0)=(n,t,0)):t.length+1≤s.length:=by
 unfold sNum at h
 rw[if_pos rfl] at h
 injection h with h1 h
 injection h with h2 h3
 have hn:number s=((number s).1,(number s).2.1,0):=by rw[←h3]
 have h4:=(number_back _ _ _ hn).1
 have h5:=num_pos (number s).1
 have h6:=number_le s
 rw[←h2,List.length_drop]
 simp only
 omega
theorem takeB1_le {s last:List UInt8} {e:Ent} {key r:List UInt8} (h:takeB1 (s,0) last=some (e,key,r)):key.length≤1032∧e.user.size≤1024∧e.value.size≤s.length∧r.length+1≤s.length:=by
 obtain⟨n1,s1,b1,e1⟩:∃n1 s1 b1,sNum (s,0)=(n1,s1,b1):=⟨_,_,_,rfl⟩
 obtain⟨n2,s2,b2,e2⟩:∃n2 s2 b2,sNum (s1,b1)=(n2,s2,b2):=⟨_,_,_,rfl⟩
 obtain⟨n3,s3,b3,e3⟩:∃n3 s3 b3,sNum (s2,b2)=(n3,s3,b3):=⟨_,_,_,rfl⟩
 rw[takeB1_of e1 e2 e3] at h
 have l1:=sNum_len (s,0)
 have l2:=sNum_len (s1,b1)
 have l3:=sNum_len (s2,b2)
 rw[e1] at l1
 rw[e2] at l2
 rw[e3] at l3
 dsimp only at l1 l2 l3
 split at h
 ·cases h
 ·rename_i hc
  split at h
  ·rename_i hk
   injection h with h
   injection h with h4 h
   injection h with h5 h6
   subst h4 h5 h6
   have hkl:=key_le hk
   refine⟨hkl,?_,?_,?_⟩
   ·unfold isKey at hk
    rw[Bool.and_eq_true] at hk
    exact (rightE_le hk.2).1
   ·rw[←toList_size]
    simp only[withV,List.length_take,List.length_drop]
    omega
   ·have hb:b3=0:=by omega
    subst hb
    have z2:b2=0:=sNum_bad e3
    subst z2
    have z1:b1=0:=sNum_bad e2
    subst z1
    have q:=sNum_less e1
    rw[List.length_drop]
    omega
  ·cases h
end Go.Proofs.YtchjknbideoieaaGreatDoor
namespace Go.Proofs.YtchjknbideoieaaGreatDoor
set_option maxRecDepth 100000
set_option maxHeartbeats 8000000
open Go.RowKit
theorem RdrAt.lo {w w':World} {R B:Nat} {rest:List UInt8} {bad:Nat} (h:RdrAt w R rest bad) (hb:Below B w w') (hB:R<B):RdrAt w' R rest bad:=by
 obtain⟨A,c,h1,h2,h3,h4⟩:=h
 exact⟨A,c,(hb.block R hB).trans h1,h2,h3,h4.keep fun p hp=>hb.cell (by omega)⟩
theorem OE.rdr {w w':World} {base R:Nat} {v:Value} {l:List Ent} (h:OE w base v l) (hg:w.grownBy w' (some R)) (hR:R<base):OE w' base v l:=h.grown hg (by
 rcases hv:v.ownBlock with _|x
 ·exact .inl rfl
 ·right
  intro e2
  have h1:=(h.lt x hv).1
  have h2:x=R:=by injection e2
  omega)
def ReadPost (w:World) (r:List Ent × Nat) (en:Ending) (w':World):Prop:=∃v,en=.returned (.tuple #[v,.int .i64 (r.2:Int)])∧OE w' w.heap.size v r.1∧Below w.heap.size w w'
def readUp (n:Nat) (s0:List UInt8) (k:Nat) (acc:List Ent) (s last:List UInt8):Prop:=readL n s0 []=(readL k s last).map (acc++·)
theorem readUp_step {n k:Nat} {s0 s last key r:List UInt8} {acc:List Ent} {e:Ent} (h:readUp n s0 (k+1) acc s last) (ht:takeB1 (s,0) last=some (e,key,r)):readUp n s0 k (acc++[e]) r key:=by
 unfold readUp at h ⊢
 rw[h,readL,ht]
 simp only
 cases readL k r key with
 | none=>rfl
 | some l=>simp
theorem readUp_none {n k:Nat} {s0 s last:List UInt8} {acc:List Ent} (h:readUp n s0 (k+1) acc s last) (ht:takeB1 (s,0) last=none):readL n s0 []=none:=by
 unfold readUp at h
 rw[h,readL,ht]
 rfl
theorem readUp_end {n:Nat} {s0 s last:List UInt8} {acc:List Ent} (h:readUp n s0 0 acc s last):readL n s0 []=some acc:=by
 unfold readUp at h
 rw[h,readL]
 simp
section
variable {b s1 s2:List UInt8} {ev n b1 b2:Nat}
theorem readB_h (e1:sNum (b,0)=(ev,s1,b1)) (e2:sNum (s1,b1)=(n,s2,b2)) :
  readB b=if b2≠0∨1024<ev then ([],100) else match readL n s2 [] with|none=>([],100)|some l=>if buildB (ev:Nat) l=(b,0) then (l,0) else ([],100):=by
 unfold readB
 rw[e1]
 simp only[e2]
 rfl
end
theorem kRead_any (v:Value) (b:List UInt8) (w:World) (hv:SB w w.heap.size v b) (hl:b.length≤1073741824) :
  Calls Tryz.prog 83 #[v] w (ReadPost w (readB b)):=by
 obtain⟨ev,s1,b1,e1⟩:∃n1 s1 b1,sNum (b,0)=(n1,s1,b1):=⟨_,_,_,rfl⟩
 obtain⟨n,s2,b2,e2⟩:∃n2 s2 b2,sNum (s1,b1)=(n2,s2,b2):=⟨_,_,_,rfl⟩
 have hR:=readB_h e1 e2
 have l1:=sNum_len (b,0)
 have l2:=sNum_len (s1,b1)
 have m1:=sNum_lt (b,0)
 have m2:=sNum_lt (s1,b1)
 rw[e1] at l1 m1
 rw[e2] at l2 m2
 dsimp only at l1 l2 m1 m2
 have HR:=Lib.hid hR
 have C1:=Lib.hid (fun W R (hr:RdrAt W R b 0)=>mNum_any R b 0 W hr)
 have C2:=Lib.hid (fun W R (hr:RdrAt W R s1 b1)=>mNum_any R s1 b1 W hr)
 rw[e1] at C1
 rw[e2] at C2
 have hsl2:s2.length≤b.length:=by omega
 clear l1 l2 e1 e2 hR
 go_enter Tryz.func83,Tryz.ntmps83
 go_wp2_with fail
 refine (cNew_any v b w hv (by omega)).mono ?_
 rintro _ w1 ⟨R,rfl,hRb,hrd,hb1⟩
 go_wp2_with fail
 refine (C1.out _ R hrd.at_).mono ?_
 rintro _ w2 ⟨rfl,hr2,hg2⟩
 try dsimp only at hr2
 go_wp2_with fail
 refine (C2.out _ R hr2).mono ?_
 rintro _ w3 ⟨rfl,hr3,hg3⟩
 try dsimp only at hr3
 have b3:Below w.heap.size w w3:=hb1.trans (gbelow (hg2.trans hg3) (Nat.le_of_lt hrd.at_.lt) hRb)
 have HF:=Lib.hid (mFault_any R s2 b2 w3 hr3)
 clear C1 C2 hg2 hg3 hr2 hrd hb1
 go_upto_region 3 with fail
 by_cases hb:b2=0
 case neg =>
  have hb':(((b2:Int))==0)=false:=by rw[beq_eq_false_iff_ne];omega
  have HB:Hid (readB b=([],100)):=Lib.hid (by rw[HR.out,if_pos (.inl hb)])
  go_wp2_with (go_at_call 77;refine HF.out.mono ?_;rintro _ w3 ⟨rfl,rfl⟩)
  exact bodyPost_ret (v:=.tuple #[.slice none 0 0,.int .i64 100]) (by simp[results,Tryz.results83,go_sem] <;> rfl) rfl ⟨_,by rw[HB.out];rfl,by rw[HB.out];exact OE.nil_ _ _,b3⟩
 subst hb
 by_cases hev:1024<ev
 ·have hev':decide ((1024:Int)<(ev:Int))=true:=by simp;omega
  have HB:Hid (readB b=([],100)):=Lib.hid (by rw[HR.out,if_pos (.inr hev)])
  go_wp2_with (go_at_call 77;refine HF.out.mono ?_;rintro _ w3 ⟨rfl,rfl⟩)
  exact bodyPost_ret (v:=.tuple #[.slice none 0 0,.int .i64 100]) (by simp[results,Tryz.results83,go_sem] <;> rfl) rfl ⟨_,by rw[HB.out];rfl,by rw[HB.out];exact OE.nil_ _ _,b3⟩
 have hev':decide ((1024:Int)<(ev:Int))=false:=by simp;omega
 have HR2:Hid (readB b=match readL n s2 [] with|none=>([],100)|some l=>if buildB (ev:Nat) l=(b,0) then (l,0) else ([],100)):=Lib.hid (by rw[HR.out,if_neg (by omega)])
 clear HR
 have hR3:=hr3.lt
 go_wp2_with (go_at_call 77;refine HF.out.mono ?_;rintro _ w3 ⟨rfl,rfl⟩)
 clear HF
 have hbs:w.heap.size≤w3.heap.size:=b3.size
 go_loopw [6,7,8] (fun nv lv sv wr=>∃(k:Nat) (acc:List Ent) (last:ByteArray) (s:List UInt8),nv=.int .u64 k∧k<18446744073709551616∧sv=.string last∧last.size≤1032∧OE wr w3.heap.size lv acc∧RdrAt wr R s 0∧acc.length+s.length≤b.length∧Below w.heap.size w wr∧w3.heap.size≤wr.heap.size∧Hid (readUp n s2 k acc s last.data.toList∧∀e∈acc,e.user.size≤1024∧e.value.size≤1073741824)) (fun nv _ _ _=>(intOf nv).toNat)
 case atStart=>exact⟨n,[],⟨#[]⟩,s2,rfl,m2,rfl,by decide,OE.nil_ _ _,hr3,by simpa using hsl2,b3,Nat.le_refl _,Lib.hid ⟨by simp[readUp],fun e he=>by cases he⟩⟩
 case round =>
  obtain⟨k,acc,last,s,rfl,hk,rfl,hls,hown,hrd,hlen,hbw,hsz,HU⟩:=hrel
  by_cases hk0:k=0
  ·subst hk0
   have HB3:Hid (readB b=if buildB (ev:Nat) acc=(b,0) then (acc,0) else ([],100)):=Lib.hid (by rw[HR2.out,readUp_end HU.out.1])
   have hal:acc.length≤1073741824:=by omega
   have HK:=Lib.hid (kBuild_any _ acc (ev:Int) wr hown.se (by omega) (fun e he=>by have:=HU.out.2 e he;omega) (by omega) (by omega))
   obtain⟨bs,f,hbf⟩:∃bs f,buildB (ev:Int) acc=(bs,f):=⟨_,_,rfl⟩
   rw[hbf] at HK HB3
   have gev:IntKind.i64.wrap (ev:Int)=(ev:Int):=by rw[IntKind.wrap_i64];omega
   have hvr:=hv.on hbw
   clear HR2 HU hbf hev' hlen hls hrd hk hv
   go_wp2_with fail
   refine HK.out.mono ?_
   rintro _ w6 ⟨x,rfl,hox,hb6⟩
   have b6:=bstep hbw hb6
   clear HK
   by_cases hf:f=0
   ·subst hf
    have HQ:=Lib.hid (kEqual_any x v bs b w6 hox.sb (hvr.on hb6))
    by_cases hbb:bs=b
    ·have hd:decide (bs=b)=true:=by simp[hbb]
     rw[hd] at HQ
     have HB4:Hid (readB b=(acc,0)):=Lib.hid (by rw[HB3.out,hbb,if_pos rfl])
     clear HB3 hbb hd
     go_wp2_with (go_at_call 105;refine HQ.out.mono ?_;rintro _ w7 ⟨rfl,hb7⟩)
     exact bodyPost_ret (by simp[results,Tryz.results83,go_sem] <;> rfl) rfl ⟨_,by rw[HB4.out];rfl,by rw[HB4.out];exact ((hown.below hb6 (Nat.le_refl _)).below hb7 (Nat.le_refl _)).rebase hbs,bstep b6 hb7⟩
    ·have hd:decide (bs=b)=false:=by simp[hbb]
     rw[hd] at HQ
     have HB4:Hid (readB b=([],100)):=Lib.hid (by rw[HB3.out,if_neg (fun e=>hbb (congrArg Prod.fst e))])
     clear HB3 hbb hd
     go_wp2_with (go_at_call 105;refine HQ.out.mono ?_;rintro _ w7 ⟨rfl,hb7⟩)
     exact bodyPost_ret (v:=.tuple #[.slice none 0 0,.int .i64 100]) (by simp[results,Tryz.results83,go_sem] <;> rfl) rfl ⟨_,by rw[HB4.out];rfl,by rw[HB4.out];exact OE.nil_ _ _,bstep b6 hb7⟩
   ·have hf':(((f:Int))==0)=false:=by rw[beq_eq_false_iff_ne];omega
    have HB4:Hid (readB b=([],100)):=Lib.hid (by rw[HB3.out,if_neg (fun e=>hf (congrArg Prod.snd e))])
    clear HB3
    go_wp2_with fail
    exact bodyPost_ret (v:=.tuple #[.slice none 0 0,.int .i64 100]) (by simp[results,Tryz.results83,go_sem] <;> rfl) rfl ⟨_,by rw[HB4.out];rfl,by rw[HB4.out];exact OE.nil_ _ _,b6⟩
  ·have hk1:decide ((0:Int)<(k:Int))=true:=by simp;omega
   have gk:IntKind.u64.wrap ((k:Int)-1)=((k-1:Nat):Int):=by rw[IntKind.wrap_u64];omega
   have HT:=Lib.hid (kTake_any R s last wr hrd (by omega) (by omega))
   have hRl:=hrd.lt
   go_wp2_with fail
   refine HT.out.mono ?_
   rintro _ w5 ⟨e,kv,ok,r,rfl,hg5,HT5⟩
   clear HT
   have b5:Below w.heap.size w w5:=hbw.trans (gbelow hg5 (Nat.le_of_lt hRl) hRb)
   have hown5:=hown.rdr hg5 hR3
   cases ok with
   | false =>
    have HB:Hid (readB b=([],100)):=Lib.hid (by
     have h1:=HT5.out.1
     rw[if_neg (by decide)] at h1
     have h2:=HU.out.1
     rw[show k=(k-1)+1 from by omega] at h2
     rw[HR2.out,readUp_none h2 h1])
    go_wp2_with fail
    exact bodyPost_ret (v:=.tuple #[.slice none 0 0,.int .i64 100]) (by simp[results,Tryz.results83,go_sem] <;> rfl) rfl ⟨_,by rw[HB.out];rfl,by rw[HB.out];exact OE.nil_ _ _,balloc b5 _⟩
   | true =>
    have HS:Hid (readUp n s2 (k-1) (acc++[e]) r kv.data.toList∧(∀x∈acc++[e],x.user.size≤1024∧x.value.size≤1073741824)∧kv.size≤1032∧r.length+1≤s.length∧RdrAt w5 R r 0):=Lib.hid (by
     have h1:=HT5.out.1
     rw[if_pos rfl] at h1
     have h2:=HU.out.1
     rw[show k=(k-1)+1 from by omega] at h2
     obtain⟨q1,q2,q3,q4⟩:=takeB1_le h1
     refine⟨readUp_step h2 h1,fun x hx=>?_,by rw[←toList_size];exact q1,q4,HT5.out.2 rfl⟩
     rcases List.mem_append.1 hx with hx|hx
     ·exact HU.out.2 x hx
     ·rw[List.mem_singleton] at hx
      subst hx
      omega)
    have hs5:w3.heap.size≤w5.heap.size:=Nat.le_trans hsz hg5.size
    have hal:acc.length≤1073741824:=by omega
    have hown6:=hown5.alloc (.cells #[.string e.user,.int .u64 (e.seq.toNat:Int),.int .u8 (e.kind.toNat:Int),.string e.value] 29)
    clear HT5 HU hg5
    go_wp2_with (at_builtin;(refine wl_appE rfl (.tmp 40) (.tmp 42) rfl w3.heap.size _ acc rfl hown6 e (g:=w5.heap.size+1) (by simp) rfl (by simp only[maxLen];omega) (Fits.one _ _ (by omega)) (by simp;omega) ?_);intro v7 w7 hown7 _ hb7)
    go_roundw
    case rel =>
     obtain⟨h1,h2,h3,h4,h5⟩:=HS.out
     have b6:=balloc b5 (.cells #[.string e.user,.int .u64 (e.seq.toNat:Int),.int .u8 (e.kind.toNat:Int),.string e.value] 29)
     exact⟨k-1,acc++[e],kv,r,by go_num,by omega,rfl,h3,hown7,(h5.on (balloc (bself w5) _) (Nat.le_refl _)).lo hb7 hR3,by rw[List.length_append,List.length_singleton];omega,b6.trans (hb7.mono hbs),Nat.le_trans (by simp;omega) hb7.size,Lib.hid ⟨h1,h2⟩⟩
    case measure=>simp[intOf];omega
end Go.Proofs.YtchjknbideoieaaGreatDoor
