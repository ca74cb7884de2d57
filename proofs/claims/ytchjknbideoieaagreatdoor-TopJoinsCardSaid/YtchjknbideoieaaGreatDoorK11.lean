/- What is proved here: what State.block of package sha comes to, at this seat's numbers. Condition: the block's length. what State.put of package sha comes to, at this seat's numbers. Conditions: the bytes' length. what begin, New, Write and Len of package sha come to, at this seat's numbers. what mac.Equal and the reference's Equal come to, at this seat's numbers. No condition. -/
import Derived.Test.YtchjknbideoieaaGreatDoorK10
import Derived.Test.YtchjknbideoieaaGreatDoorK05
import Derived.Lib.Hide
import Derived.OwnWalk
import Derived.RangeFuncBox
import Derived.BigRegion
import Derived.Deep.RegionLaw
import Derived.Deep.DeepCutAuto
import Derived.Deep.CutBlock
import Derived.BigQuiet
namespace Go.Proofs.YtchjknbideoieaaGreatDoor
set_option maxRecDepth 100000
set_option maxHeartbeats 8000000
open Go.RowKit
def Ww (w:World) (B n:Nat) (f:Nat→UInt32):Prop:=∀j,j<n→w.cell? ⟨B,j,none⟩=some (.int .u32 ((f j).toNat:Int))∧w.frozen? ⟨B,j,none⟩=false
theorem Ww.set {w:World} {B n:Nat} {f:Nat→UInt32} (h:Ww w B n f) (k:Nat) (v:UInt32) (hk:k<n):Ww (w.setCell ⟨B,k,none⟩ (.int .u32 (v.toNat:Int))) B n (fun j=>if j=k then v else f j):=by
 intro j hj
 refine⟨?_,by rw[World.frozen?_setCell];exact (h j hj).2⟩
 by_cases e:j=k
 ·subst e
  rw[World.cell?_setCell_same' _ _ _ (by rw[(h j hj).1];rfl)]
  simp
 ·rw[World.cell?_setCell_other w _ _ _ (fun e2=>e (by injection e2 with _ e3;exact e3.symm)),(h j hj).1]
  simp[e]
theorem Ww.below {w w':World} {B n:Nat} {f:Nat→UInt32} (h:Ww w B n f) (hb:Below w.heap.size w w') (hB:B<w.heap.size):Ww w' B n f:=fun j hj=>⟨(hb.cell hB).trans (h j hj).1,(World.frozen?_of_block (hb.block B hB)).trans (h j hj).2⟩
theorem Ww.other {w:World} {B n:Nat} {f:Nat→UInt32} (h:Ww w B n f) {p:Addr} (hp:p.block≠B) (v:Value):Ww (w.setCell p v) B n f:=by
 intro j hj
 refine⟨?_,by rw[World.frozen?_setCell];exact (h j hj).2⟩
 rw[World.cell?_setCell_other w _ _ _ (fun e2=>hp (by rw[e2])),(h j hj).1]
theorem Ww.congr {w:World} {B n:Nat} {f g:Nat→UInt32} (h:Ww w B n f) (e:∀j,j<n→f j=g j):Ww w B n g:=fun j hj=>by rw[←e j hj];exact h j hj
def joinB (acc:UInt32) (b:UInt8):UInt32:=orW (shlW acc 8) (ofB b)
def partW (p:List UInt8) (i:Nat):Nat→UInt32
 | 0=>0
 | j+1=>joinB (partW p i j) (p[4*i+j]?.getD 0)
theorem u8_lt256 (b:UInt8):b.toNat<256:=b.toNat_lt
theorem shl_or (x y:UInt32) (k:UInt32):(x ||| y) <<< k=(x <<< k) ||| (y <<< k):=by
 apply UInt32.eq_of_toBitVec_eq
 simp only[UInt32.toBitVec_or,UInt32.toBitVec_shiftLeft]
 apply BitVec.eq_of_getLsbD_eq
 intro i hi
 simp only[BitVec.shiftLeft_eq',BitVec.getLsbD_shiftLeft,BitVec.getLsbD_or]
 cases decide (i<32) <;> simp[Bool.and_or_distrib_left]
theorem shl_nat (x:UInt32) (k:Nat) (hk:k<32):(x <<< UInt32.ofNat k).toNat=x.toNat*2 ^ k%4294967296:=by
 rw[UInt32.toNat_shiftLeft,UInt32.toNat_ofNat_of_lt' (by show k<4294967296;omega),Nat.mod_eq_of_lt hk,Nat.shiftLeft_eq]
theorem shl_shl (x:UInt32) (j k m:Nat) (h:j+k=m) (hm:m<32):(x <<< UInt32.ofNat j) <<< UInt32.ofNat k=x <<< UInt32.ofNat m:=by
 apply UInt32.toNat_inj.1
 rw[shl_nat _ k (by omega),shl_nat _ j (by omega),shl_nat _ m hm,Nat.mod_mul_mod,Nat.mul_assoc,←Nat.pow_add,h]
theorem be4_join (a b c d:UInt8):joinB (joinB (joinB (joinB 0 a) b) c) d=be4 a b c d:=by
 unfold joinB orW shlW ofB be4
 rw[show (0:UInt32) <<< UInt32.ofNat 8=0 from by decide,UInt32.zero_or,shl_or,shl_or,shl_or,shl_shl _ 8 8 16 rfl (by omega),shl_shl _ 8 16 24 rfl (by omega),shl_shl _ 8 8 16 rfl (by omega)]
 rfl
theorem part4 (p:List UInt8) (i:Nat):partW p i 4=word0 p i:=by
 unfold word0
 rw[←be4_join]
 rfl
theorem word0_take (bs:List UInt8) (i:Nat) (hi:i<16):word0 (bs.take 64) i=word0 bs i:=by
 unfold word0
 have h:∀k,k<64→(bs.take 64)[k]? = bs[k]?:=fun k hk=>by rw[List.getElem?_take,if_pos hk]
 rw[h _ (by omega),h _ (by omega),h _ (by omega),h _ (by omega)]
abbrev stObj (S:St) (pv:Value) (n:Int):Obj:=.cells #[.int .u32 (S.a.toNat:Int),.int .u32 (S.b.toNat:Int),.int .u32 (S.c.toNat:Int),.int .u32 (S.d.toNat:Int),.int .u32 (S.e.toNat:Int),.int .u32 (S.f.toNat:Int),.int .u32 (S.g.toNat:Int),.int .u32 (S.h.toNat:Int),pv,.int .i64 n] 203 (0,0)
theorem stCells {w:World} {P:Nat} {S:St} {pv:Value} {n:Int} (h:w.heap[P]? = some (stObj S pv n)) :
  w.cell? ⟨P,0,none⟩=some (.int .u32 (S.a.toNat:Int))∧w.cell? ⟨P,1,none⟩=some (.int .u32 (S.b.toNat:Int))∧w.cell? ⟨P,2,none⟩=some (.int .u32 (S.c.toNat:Int))∧w.cell? ⟨P,3,none⟩=some (.int .u32 (S.d.toNat:Int))∧w.cell? ⟨P,4,none⟩=some (.int .u32 (S.e.toNat:Int))∧w.cell? ⟨P,5,none⟩=some (.int .u32 (S.f.toNat:Int))∧w.cell? ⟨P,6,none⟩=some (.int .u32 (S.g.toNat:Int))∧w.cell? ⟨P,7,none⟩=some (.int .u32 (S.h.toNat:Int))∧w.cell? ⟨P,8,none⟩=some pv∧w.cell? ⟨P,9,none⟩=some (.int .i64 n):=by
 refine⟨?_,?_,?_,?_,?_,?_,?_,?_,?_,?_⟩ <;> simp[World.cell?,h]
def KTab (w:World) (g:Nat):Prop:=∀i,i<64→w.cell? ⟨g,i,none⟩=some (.int .u32 ((kAt i).toNat:Int))
theorem Ww.new (w:World) (T:TypeId) (n:Nat) (l:List Value) (hl:l=List.replicate n (.int .u32 0)):Ww (w.alloc (.cells l.toArray T)) w.heap.size n (fun _=>0):=by
 subst hl
 intro j hj
 have hb:=heap_alloc_new w (.cells (List.replicate n (.int .u32 0)).toArray T)
 refine⟨?_,by simp only[World.frozen?,hb];simp⟩
 rw[cell_of_row _ _ j _ _ _ hb]
 simp[hj]
def blkC (X:St) (k:Nat):UInt32:=[X.a,X.b,X.c,X.d,X.e,X.f,X.g,X.h][k]?.getD 0
def mixS (S X:St) (k:Nat):St:=⟨if 0<k then S.a+X.a else S.a,if 1<k then S.b+X.b else S.b,if 2<k then S.c+X.c else S.c,if 3<k then S.d+X.d else S.d,if 4<k then S.e+X.e else S.e,if 5<k then S.f+X.f else S.f,if 6<k then S.g+X.g else S.g,if 7<k then S.h+X.h else S.h⟩
theorem mix8 (S:St) (p:List UInt8):mixS S (rounds p S 64) 8=blockS S p:=rfl
theorem run_idx8 (X:St) (k:Nat) (hk:k<8) (w:World):(Instr.index 201 (.agg #[.int .u32 (X.a.toNat:Int),.int .u32 (X.b.toNat:Int),.int .u32 (X.c.toNat:Int),.int .u32 (X.d.toNat:Int),.int .u32 (X.e.toNat:Int),.int .u32 (X.f.toNat:Int),.int .u32 (X.g.toNat:Int),.int .u32 (X.h.toNat:Int)]) (.int .i64 (k:Int))).run Tryz.prog w=.ok (.int .u32 ((blkC X k).toNat:Int)) w:=by
 rcases k with _|_|_|_|_|_|_|_|k
 all_goals first|omega|kernel_rfl
theorem mix_cell {w:World} {P:Nat} {S X:St} {pv:Value} {n:Int} {k:Nat} (h:w.heap[P]? = some (stObj (mixS S X k) pv n)) (hk:k<8) :
  w.cell? ⟨P,k,none⟩=some (.int .u32 ((blkC S k).toNat:Int))∧w.frozen? ⟨P,k,none⟩=false∧(w.setCell ⟨P,k,none⟩ (.int .u32 ((blkC S k+blkC X k).toNat:Int))).heap[P]? = some (stObj (mixS S X (k+1)) pv n):=by
 refine⟨?_,by simp[World.frozen?,h],?_⟩
 ·rcases k with _|_|_|_|_|_|_|_|k
  all_goals first|omega|(simp[World.cell?,h,mixS,blkC];done)
 ·rcases k with _|_|_|_|_|_|_|_|k
  all_goals first|omega|(simp[World.setCell,Array.getElem?_modify,h,mixS,blkC];done)
theorem kBlock_any (P:Nat) (S:St) (pv:Value) (nn:Int) (v:Value) (bs:List UInt8) (w:World) (hP:w.heap[P]? = some (stObj S pv nn)) (hv:SB w w.heap.size v bs) (h64:64≤bs.length) (hbl:bs.length≤9223372036854775807) (hk:KTab w 0) (_hP1:P≠0) (h1:0<w.heap.size) :
  Calls Tryz.prog 130 #[.pointer (some ⟨P,0,none⟩),v] w fun e w'=>e=.returned (.tuple #[])∧w'.heap[P]? = some (stObj (blockS S (bs.take 64)) pv nn)∧w.grownBy w' (some P):=by
 obtain⟨A,c,rfl,hlc,hcm,hr⟩:=hv
 have hcm2:c≤9223372036854775807:=by unfold maxLen at hcm;omega
 clear hcm
 have hPl:P<w.heap.size:=(Array.getElem?_eq_some_iff.1 hP).1
 go_enter Tryz.func130,Tryz.ntmps130
 go_upto_region 1 with fail
 generalize hWW:w.alloc _=W
 have hW0:Ww W w.heap.size 64 (fun _=>0):=by rw[←hWW];exact Ww.new w _ 64 _ (by kernel_rfl)
 have hbW:Below w.heap.size w W:=by rw[←hWW];exact balloc (bself w) _
 have hWs:W.heap.size=w.heap.size+1:=by rw[←hWW];simp
 clear hWW
 have x2:∀x:UInt32,(x.toNat:Int)*(256:Int)%(4294967296:Int)=((shlW x 8).toNat:Int):=fun x=>W_shl x 8 (by omega) 256 rfl
 go_wp2_with fail
 go_loopw [24] (fun iv wr=>∃(i:Nat) (f:Nat→UInt32),iv=.int .i64 i∧i≤16∧Ww wr w.heap.size 64 f∧(∀j,j<64→f j=if j<i then word0 bs j else 0)∧Below w.heap.size w wr) (fun iv _=>16-(intOf iv).toNat)
 case atStart=>exact⟨0,_,rfl,Nat.zero_le _,hW0,fun j _=>by simp,hbW⟩
 case round =>
  obtain⟨i,f,rfl,hi,hf,hfi,hbr⟩:=hrel
  clear hW0
  have hzr:=hbr.size
  by_cases hlt:i<16
  ·obtain⟨b,o,rfl,hb,hc⟩:=hr.at_ (by omega)
   have hcb:∀j (hj:j<bs.length),w.cell? ⟨b,o+j,none⟩=some (.int .u8 ((bs[j].toNat:Nat):Int)):=fun j hj=>hc j _ (bv_get bs j hj)
   have HCB:=Lib.hid hcb
   have HFI:=Lib.hid hfi
   clear hc hcb hfi
   go_wp2_with fail
   have hbw0:Below w.heap.size w wr:=hbr
   go_loopw [35] (fun jv wy=>∃(j:Nat) (g:Nat→UInt32),jv=.int .i64 j∧j≤4∧Ww wy w.heap.size 64 g∧Hid (g i=partW bs i j∧∀k,k<64→k≠i→g k=f k)∧Below w.heap.size w wy) (fun jv _=>4-(intOf jv).toNat)
   case atStart=>exact⟨0,f,rfl,by omega,hf,Lib.hid ⟨by rw[HFI.out i (by omega)];simp[partW],fun _ _ _=>rfl⟩,hbw0⟩
   case round =>
    obtain⟨j,g,rfl,hj,hg,HG,hby⟩:=hrel
    clear hf
    by_cases hj4:j<4
    ·have hix:4*i+j<bs.length:=by omega
     have cb:=(hby.cell (p:=⟨b,o+(4*i+j),none⟩) (by simp;omega)).trans (HCB.out (4*i+j) hix)
     rw[←Nat.add_assoc] at cb
     have HB:Hid (bs[4*i+j]?.getD 0=bs[4*i+j]):=Lib.hid (by rw[List.getElem?_eq_getElem hix];rfl)
     generalize hbb:bs[4*i+j]=bb at cb HB
     clear hbb
     obtain⟨cw,fw⟩:=hg i (by omega)
     have x3:∀a:UInt32,bits .or .u32 (a.toNat:Int) ((bb.toNat:Int)%(4294967296:Int))=((orW a (ofB bb)).toNat:Int):=fun a=>by
      have hlt:=u8_lt256 bb
      rw[←W_or,Int.emod_eq_of_lt (by omega) (by omega)];rfl
     have hgs:=hg.set i (joinB (g i) bb) (by omega)
     unfold joinB at hgs
     have hbs:∀v,Below w.heap.size w (wr.setCell ⟨w.heap.size,i,none⟩ v):=fun v=>hby.setCell (Nat.le_refl _) v
     go_wp2_with fail
     go_roundw
     case rel=>exact⟨j+1,_,by go_num,by omega,hgs,Lib.hid ⟨by simp only[if_true,partW,joinB,HB.out,HG.out.1],fun k hk hne=>by simp only[if_neg hne];exact HG.out.2 k hk hne⟩,hbs _⟩
     case measure=>simp[intOf];omega
    ·have hj5:j=4:=by omega
     subst hj5
     go_wp2_with fail
     go_roundw
     case rel=>exact⟨i+1,g,by go_num,by omega,hg,fun k hk=>by
      by_cases hki:k=i
      ·subst hki;rw[HG.out.1,if_pos (by omega),part4]
      ·rw[HG.out.2 k hk hki,HFI.out k hk]
       by_cases h1:k<i
       ·rw[if_pos h1,if_pos (by omega)]
       ·rw[if_neg h1,if_neg (by omega)],hby⟩
     case measure=>simp[intOf];omega
  ·have hi16:i=16:=by omega
   subst hi16
   have HFI:=Lib.hid hfi
   clear hfi
   go_wp2_with fail
   have hbw0:Below w.heap.size w wr:=hbr
   go_loopw [8] (fun iv wy=>∃(n:Nat) (g:Nat→UInt32),iv=.int .i64 ((n:Int)+16)∧n≤48∧Ww wy w.heap.size 64 g∧Hid (∀j,j<n+16→g j=wordAt (bs.take 64) j)∧Below w.heap.size w wy) (fun iv _=>64-(intOf iv).toNat)
   case atStart=>exact⟨0,f,rfl,by omega,hf,Lib.hid (fun j hj=>by rw[HFI.out j (by omega),if_pos (by omega),wordAt_first _ _ (by omega),word0_take bs j (by omega)]),hbw0⟩
   case round =>
    obtain⟨n,g,rfl,hn,hg,HG,hby⟩:=hrel
    clear hf HFI
    have hzy:=hby.size
    by_cases hlt:n<48
    ·obtain⟨c1,_⟩:=hg (n+1) (by omega)
     obtain⟨c2,_⟩:=hg (n+14) (by omega)
     go_wp2_with fail
     go_quiet (fail)
     go_upto_region 14 with fail
     clear c1 c2
     have x1:=W_or
     have x4:=W_xor
     have x5:∀a b:UInt32,IntKind.u32.wrap ((a.toNat:Int)+(b.toNat:Int))=((addW a b).toNat:Int):=W_addk
     have x6:∀x:UInt32,(x.toNat:Int)/(8:Int)=((shrW x 3).toNat:Int):=fun x=>W_shr x 3 (by omega) 8 rfl
     have x7:∀x:UInt32,(x.toNat:Int)/(1024:Int)=((shrW x 10).toNat:Int):=fun x=>W_shr x 10 (by omega) 1024 rfl
     have hgd:Ww (wr.drewN nq).drew w.heap.size 64 g:=hg
     have hyd:Below w.heap.size w (wr.drewN nq).drew:=bdrew (bdrewN hby nq)
     have y1:IntKind.i64.wrap (n:Int)=(n:Int):=IntWalk.i64_in _ (by omega)
     have y2:IntKind.i64.wrap ((n:Int)+16-7)=((n+9:Nat):Int):=(IntWalk.i64_in _ (by omega)).trans (by omega)
     have y3:IntKind.i64.wrap ((n:Int)+16)=((n+16:Nat):Int):=(IntWalk.i64_in _ (by omega)).trans (by omega)
     have y4:(n:Int)<64:=by omega
     have y5:((n+9:Nat):Int)<64:=by omega
     have y6:((n+16:Nat):Int)<64:=by omega
     have y7:(n:Int)+9<64:=by omega
     have y8:(n:Int)+16<64:=by omega
     have y9:(0:Int)≤(n:Int)+9:=by omega
     have y11:((n:Int)+9).toNat=n+9:=by omega
     have y12:((n:Int)+16).toNat=n+16:=by omega
     have y10:(0:Int)≤(n:Int)+16:=by omega
     obtain⟨c0,_⟩:=hgd n (by omega)
     obtain⟨c9,_⟩:=hgd (n+9) (by omega)
     obtain⟨cs,fs⟩:=hgd (n+16) (by omega)
     have HS:=Lib.hid (And.intro c0 c9)
     have HT:=Lib.hid (And.intro cs fs)
     clear c0 c9 cs fs
     refine wp_region_noPanic ?_
     refine wp_region_held_drew (S:=fun w'=>w'.cell? ⟨w.heap.size,n,none⟩=some (.int .u32 ((g n).toNat:Int))∧w'.cell? ⟨w.heap.size,n+9,none⟩=some (.int .u32 ((g (n+9)).toNat:Int))) (by kernel_rfl) HS.out (fun hHeld=>?_)
     refine rtk 0 ?_
     refine rtk 1 ?_
     refine rtk 2 ?_
     refine rtk 3 ?_
     refine rtk 4 ?_
     refine rtk 5 ?_
     refine rtk 6 ?_
     refine rtk 7 ?_
     refine rtk 8 ?_
     refine rtk 9 ?_
     refine rtk 10 ?_
     refine rtk 12 ?_
     refine rtk 15 ?_
     refine rtk 16 ?_
     refine rtk 19 ?_
     refine rtk 21 ?_
     refine rtk 24 ?_
     refine rtk 25 ?_
     refine ro 11 (fun K hK=>?_)
     (go_simp;go_at_call 147;refine (kRight7 _ _).mono ?_;rintro e1 w5 ⟨rfl,rfl⟩;go_wp2_with fail)
     refine hK.out _ _ ?_ (fun hHeld=>?_)
     ·exact HS.out
     clear hK K
     try simp only[Act.put,q1,q2,q3]
     refine ro 13 (fun K hK=>?_)
     (go_simp;go_at_call 147;refine (kRight18 _ _).mono ?_;rintro e1 w5 ⟨rfl,rfl⟩;go_wp2_with fail)
     refine hK.out _ _ ?_ (fun hHeld=>?_)
     ·exact HS.out
     clear hK K
     try simp only[Act.put,q1,q2,q3]
     refine rtk 14 ?_
     refine rtk 17 ?_
     refine rtk 18 ?_
     refine ro 20 (fun K hK=>?_)
     (go_simp;go_at_call 147;refine (kRight17 _ _).mono ?_;rintro e1 w5 ⟨rfl,rfl⟩;go_wp2_with fail)
     refine hK.out _ _ ?_ (fun hHeld=>?_)
     ·exact HS.out
     clear hK K
     try simp only[Act.put,q1,q2,q3]
     refine ro 22 (fun K hK=>?_)
     (go_simp;go_at_call 147;refine (kRight19 _ _).mono ?_;rintro e1 w5 ⟨rfl,rfl⟩;go_wp2_with fail)
     refine hK.out _ _ ?_ (fun hHeld=>?_)
     ·exact HS.out
     clear hK K
     try simp only[Act.put,q1,q2,q3]
     refine rtk 23 ?_
     refine rtk 26 ?_
     refine rtk 27 ?_
     refine rtk 28 ?_
     have cs:(wr.drewN (nq+1)).cell? ⟨w.heap.size,n+16,none⟩=some (.int .u32 ((g (n+16)).toNat:Int)):=HT.out.1
     have fs:(wr.drewN (nq+1)).frozen? ⟨w.heap.size,n+16,none⟩=false:=HT.out.2
     obtain⟨V,hV⟩:∃V,V=addW (addW (addW (g n) (g (n+9))) (xorW (xorW (rotr (g (n+1)) 7) (rotr (g (n+1)) 18)) (shrW (g (n+1)) 3))) (xorW (xorW (rotr (g (n+14)) 17) (rotr (g (n+14)) 19)) (shrW (g (n+14)) 10)):=⟨_,rfl⟩
     have hgd2:Ww (wr.drewN (nq+1)) w.heap.size 64 g:=hg
     have hyd2:Below w.heap.size w (wr.drewN (nq+1)):=bdrewN hby (nq+1)
     have hgs:=hgd2.set (n+16) V (by omega)
     have hys:Below w.heap.size w ((wr.drewN (nq+1)).setCell ⟨w.heap.size,n+16,none⟩ (.int .u32 (V.toNat:Int))):=hyd2.setCell (Nat.le_refl _) _
     have HS2:Hid (((wr.drewN (nq+1)).setCell ⟨w.heap.size,n+16,none⟩ (.int .u32 (V.toNat:Int))).cell? ⟨w.heap.size,n,none⟩=some (.int .u32 ((g n).toNat:Int))∧((wr.drewN (nq+1)).setCell ⟨w.heap.size,n+16,none⟩ (.int .u32 (V.toNat:Int))).cell? ⟨w.heap.size,n+9,none⟩=some (.int .u32 ((g (n+9)).toNat:Int))):=Lib.hid (by
      refine⟨(hgs n (by omega)).1.trans ?_,(hgs (n+9) (by omega)).1.trans ?_⟩
      ·show some (Value.int .u32 (((if n=n+16 then V else g n).toNat:Nat):Int))=_
       rw[if_neg (by omega)]
      ·show some (Value.int .u32 (((if n+9=n+16 then V else g (n+9)).toNat:Nat):Int))=_
       rw[if_neg (by omega)])
     have HVV:Hid (V=wordAt (bs.take 64) (n+16)):=Lib.hid (by
      rw[hV,HG.out n (by omega),HG.out (n+9) (by omega),HG.out (n+1) (by omega),HG.out (n+14) (by omega),Nat.add_comm n 16,wordAt_next _ n hlt]
      rfl)
     refine ro 29 (fun K hK=>?_)
     (go_simp;rw[←hV])
     refine hK.out _ _ ?_ (fun hHeld=>?_)
     ·exact HS2.out
     clear hK K
     try simp only[Act.put,q1,q2,q3]
     refine rdn ?_
     go_wp2_with fail
     go_roundw
     case rel =>
      have hr2:∃(m:Nat) (g2:Nat→UInt32),Value.int .i64 ((n:Int)+16+1)=.int .i64 ((m:Int)+16)∧m≤48∧Ww ((wr.drewN (nq+1)).setCell ⟨w.heap.size,n+16,none⟩ (.int .u32 (V.toNat:Int))) w.heap.size 64 g2∧Hid (∀j,j<m+16→g2 j=wordAt (bs.take 64) j)∧Below w.heap.size w ((wr.drewN (nq+1)).setCell ⟨w.heap.size,n+16,none⟩ (.int .u32 (V.toNat:Int))):=by
       refine⟨n+1,_,by congr 1,by omega,hgs,Lib.hid (fun j hj=>?_),hys⟩
       show (if j=n+16 then V else g j)=_
       by_cases e:j=n+16
       ·rw[if_pos e,HVV.out,e]
       ·rw[if_neg e,HG.out j (by omega)]
      rw[hV] at hr2
      (repeat apply Exists.intro)
      exact⟨hr2,rfl⟩
     case measure=>simp[intOf];omega
    ·have hn48:n=48:=by omega
     subst hn48
     go_upto_region 15 with fail
     have rP:wr.heap[P]? = some (stObj S pv nn):=(hby.block P hPl).trans hP
     obtain⟨p0,p1,p2,p3,p4,p5,p6,p7,_⟩:=stCells rP
     go_quiet (fail)
     clear p0 p1 p2 p3 p4 p5 p6 p7
     have hgq:Ww (wr.drewN nq) w.heap.size 64 g:=hg
     have hyq:Below w.heap.size w (wr.drewN nq):=bdrewN hby nq
     generalize wr.drewN nq=wq at hgq hyq
     go_wp2_with fail
     go_loopw [11,12,13,14,15,16,17,18,131] (fun va vb vc vd ve vf vg vh iv wy=>∃(m:Nat) (X:St),iv=.int .i64 m∧m≤64∧Hid (X=rounds (bs.take 64) S m)∧va=.int .u32 (X.a.toNat:Int)∧vb=.int .u32 (X.b.toNat:Int)∧vc=.int .u32 (X.c.toNat:Int)∧vd=.int .u32 (X.d.toNat:Int)∧ve=.int .u32 (X.e.toNat:Int)∧vf=.int .u32 (X.f.toNat:Int)∧vg=.int .u32 (X.g.toNat:Int)∧vh=.int .u32 (X.h.toNat:Int)∧Ww wy w.heap.size 64 g∧Below w.heap.size w wy) (fun _ _ _ _ _ _ _ _ iv _=>64-(intOf iv).toNat)
     case atStart=>exact⟨0,S,rfl,by omega,Lib.hid rfl,rfl,rfl,rfl,rfl,rfl,rfl,rfl,rfl,hgq,hyq⟩
     case round =>
      obtain⟨m,X,rfl,hm,HX,rfl,rfl,rfl,rfl,rfl,rfl,rfl,rfl,hgm,hbm⟩:=hrel
      clear hg hgq
      by_cases hlt:m<64
      ·obtain⟨c1,_⟩:=hgm m hlt
       have c2:=(hbm.cell (p:=⟨0,m,none⟩) (show 0<w.heap.size by omega)).trans (hk m hlt)
       have HW:Hid (g m=wordAt (bs.take 64) m):=Lib.hid (HG.out m (by omega))
       obtain⟨Xa,Xb,Xc,Xd,Xe,Xf,Xg,Xh⟩:=X
       generalize g m=gw at c1 HW
       generalize hkm:kAt m=km at c2
       have HKM:=Lib.hid hkm
       clear hkm
       have x1:=W_or
       have x3:=W_and
       have x4:=W_xor
       have x5:∀a b:UInt32,IntKind.u32.wrap ((a.toNat:Int)+(b.toNat:Int))=((addW a b).toNat:Int):=W_addk
       have x6:∀a b:UInt32,((a.toNat:Int)+(b.toNat:Int))%(4294967296:Int)=((addW a b).toNat:Int):=W_add
       go_upto_region 19 with fail
       go_quiet (first|with_reducible exact kRightq6 _ _ _|with_reducible exact kRightq11 _ _ _|with_reducible exact kRightq25 _ _ _)
       have HR:Hid (round1 ⟨Xa,Xb,Xc,Xd,Xe,Xf,Xg,Xh⟩ km gw=rounds (bs.take 64) S (m+1)):=Lib.hid (by
        rw[rounds,←HX.out,HKM.out,HW.out])
       go_wp2_with fail
       refine (kRight2 _ _).mono ?_
       rintro en w5 ⟨rfl,rfl⟩
       go_wp2_with fail
       refine (kRight13 _ _).mono ?_
       rintro en w5 ⟨rfl,rfl⟩
       go_wp2_with fail
       refine (kRight22 _ _).mono ?_
       rintro en w5 ⟨rfl,rfl⟩
       go_wp2_with fail
       go_roundw
       case rel =>
        (repeat apply Exists.intro)
        exact⟨⟨m+1,round1 ⟨Xa,Xb,Xc,Xd,Xe,Xf,Xg,Xh⟩ km gw,by congr 1,by omega,HR,rfl,rfl,rfl,rfl,rfl,rfl,rfl,rfl,hgm,bdrewN hbm _⟩,rfl⟩
       case measure=>simp[intOf];omega
      ·have hm64:m=64:=by omega
       subst hm64
       have hix:=fun (k:Nat) (hk8:k<8) (w5:World)=>run_idx8 X k hk8 w5
       obtain⟨Xa,Xb,Xc,Xd,Xe,Xf,Xg,Xh⟩:=X
       have rP2:wr.heap[P]? = some (stObj S pv nn):=(hbm.block P hPl).trans hP
       have hG0:w.grownBy wr (some P):=⟨hbm.os,hbm.tape,hbm.output,hbm.size,fun j hj _=>hbm.block j hj⟩
       have HIX:=Lib.hid hix
       clear hix
       go_wp2_with fail
       go_loopw [200] (fun iv wy=>∃k:Nat,iv=.int .i64 k∧k≤8∧wy.heap[P]? = some (stObj (mixS S ⟨Xa,Xb,Xc,Xd,Xe,Xf,Xg,Xh⟩ k) pv nn)∧w.grownBy wy (some P)) (fun iv _=>8-(intOf iv).toNat)
       case atStart=>exact⟨0,rfl,by omega,rP2,hG0⟩
       case round =>
        obtain⟨k,rfl,hk8,hPk,hGk⟩:=hrel
        clear rP2 hG0
        by_cases hlt8:k<8
        ·have hi8:=HIX.out k hlt8
         obtain⟨cP,fP,hnext⟩:=mix_cell hPk hlt8
         have x5:∀a b:UInt32,IntKind.u32.wrap ((a.toNat:Int)+(b.toNat:Int))=((addW a b).toNat:Int):=W_addk
         have x6:∀a b:UInt32,((a.toNat:Int)+(b.toNat:Int))%(4294967296:Int)=((addW a b).toNat:Int):=W_add
         have y1:(k:Int)<8:=by omega
         have bW:Hid (∀v,w.grownBy ((wr.drew).setCell ⟨P,k,none⟩ v) (some P)):=Lib.hid (fun v=>⟨hGk.os,hGk.tape,hGk.output,by rw[World.size_setCell];exact hGk.size,fun j hj hne=>(Below.heap_setCell _ _ _ _ (fun e2=>hne (by rw[e2]))).trans (hGk.block j hj hne)⟩)
         have HNX:=Lib.hid hnext
         clear hnext
         go_upto_region 26 with fail
         go_region
         all_goals go_wp2_with fail
         all_goals
          go_roundw
          case rel=>exact⟨k+1,by go_num,by omega,HNX.out,bW.out _⟩
          case measure=>simp[intOf];omega
        ·have hk88:k=8:=by omega
         subst hk88
         have HM:Hid (mixS S ⟨Xa,Xb,Xc,Xd,Xe,Xf,Xg,Xh⟩ 8=blockS S (bs.take 64)):=Lib.hid (by rw[HX.out];exact mix8 S _)
         go_wp2_with fail
         exact bodyPost_end (v:=.tuple #[]) (by simp[results,Tryz.results130,go_sem]) rfl ⟨rfl,by rw[←HM.out];exact hPk,hGk⟩
end Go.Proofs.YtchjknbideoieaaGreatDoor
namespace Go.Proofs.YtchjknbideoieaaGreatDoor
set_option maxRecDepth 100000
set_option maxHeartbeats 8000000
open Go.RowKit
def rowP (w:World) (P:Nat):Option Nat:=(w.cell? ⟨P,8,none⟩).bind Value.ownBlock
def Off (w w':World) (P:Nat):Prop:=∀k,k<w.heap.size→k≠P→rowP w P≠some k→w'.heap[k]? = w.heap[k]?
def StAt (w:World) (base P:Nat) (bs:List UInt8):Prop:=∃pv,w.heap[P]? = some (stObj (wordsOf bs) pv (bs.length:Int))∧OB w base pv (partOf bs)∧pv.ownBlock≠some P∧base≤P
def VS (w:World) (P:Nat) (v:Value) (x:List UInt8):Prop:=∀w',Off w w' P→SB w' w.heap.size v x
theorem Off.refl (w:World) (P:Nat):Off w w P:=fun _ _ _ _=>rfl
theorem Off.below {w w' w'':World} {P:Nat} (h:Off w w' P) (hs:w.heap.size≤w'.heap.size) (hb:Below w'.heap.size w' w''):Off w w'' P:=fun k hk h1 h2=>(hb.block k (by omega)).trans (h k hk h1 h2)
theorem Off.set {w w':World} {P:Nat} (h:Off w w' P) {p:Addr} (hp:p.block=P) (u:Value):Off w (w'.setCell p u) P:=fun k hk h1 h2=>(Below.heap_setCell _ _ _ _ (by rw[hp];exact h1)).trans (h k hk h1 h2)
theorem Off.grown {w w' w'':World} {P:Nat} (h:Off w w' P) (hs:w.heap.size≤w'.heap.size) {row:Option Nat} (hg:w'.grownBy w'' row) (hr:∀k,row=some k→k<w.heap.size→k=P∨rowP w P=some k):Off w w'' P:=fun k hk h1 h2=>(hg.block k (by omega) (fun e=>by rcases hr k e.symm hk with h3|h3;exact h1 h3;exact h2 h3)).trans (h k hk h1 h2)
theorem VS.cut {w:World} {P:Nat} {A:Option Addr} {n c:Nat} {x:List UInt8} (h:VS w P (.slice A n c) x) (hn:n=x.length) {k:Nat} (hk:k≤x.length):VS w P (.slice (if c=k then A else A.map (·.add k)) (x.length-k) (c-k)) (x.drop k):=by
 subst hn
 intro w' hw
 have h1:=Sl.cut (h w' hw) hk rfl
 rw[Nat.mul_one] at h1
 unfold SB
 rw[List.length_drop]
 have h2:bv (x.drop k)=(bv x).drop k:=by unfold bv;rw[List.map_drop]
 rw[h2]
 exact h1
theorem VS.take {w:World} {P:Nat} {A:Option Addr} {n c:Nat} {x:List UInt8} (h:VS w P (.slice A n c) x) (hn:n=x.length) {k:Nat} (hk:k≤x.length):VS w P (.slice A k c) (x.take k):=by
 subst hn
 intro w' hw
 have h1:=Sl.take (h w' hw) hk rfl
 rw[Nat.mul_one] at h1
 unfold SB
 rw[List.length_take,Nat.min_eq_left hk]
 have h2:bv (x.take k)=(bv x).take k:=by unfold bv;rw[List.map_take]
 rw[h2]
 exact h1
theorem rowP_of {w:World} {P:Nat} {S:St} {pv:Value} {n:Int} (h:w.heap[P]? = some (stObj S pv n)):rowP w P=pv.ownBlock:=by
 unfold rowP
 rw[(stCells h).2.2.2.2.2.2.2.2.1]
 rfl
theorem st_set9 {w:World} {P:Nat} {S:St} {pv:Value} {n m:Int} (h:w.heap[P]? = some (stObj S pv n)):(w.setCell ⟨P,9,none⟩ (.int .i64 m)).heap[P]? = some (stObj S pv m):=by
 simp[World.setCell,Array.getElem?_modify,h]
theorem st_set8 {w:World} {P:Nat} {S:St} {pv u:Value} {n:Int} (h:w.heap[P]? = some (stObj S pv n)):(w.setCell ⟨P,8,none⟩ u).heap[P]? = some (stObj S u n):=by
 simp[World.setCell,Array.getElem?_modify,h]
def MidAt (w wr:World) (base P:Nat) (S:St) (L:List UInt8) (pv:Value) (N:Int):Prop :=
 wr.heap[P]? = some (stObj S pv N)∧OB wr base pv L∧pv.ownBlock≠some P∧Off w wr P∧(pv.ownBlock=rowP w P∨∀g,pv.ownBlock=some g→w.heap.size≤g)∧Below base w wr
theorem MidAt.below {w wr w':World} {base P:Nat} {S:St} {L:List UInt8} {pv:Value} {N:Int} (h:MidAt w wr base P S L pv N) (hb:Below wr.heap.size wr w') (hbase:base≤w.heap.size):MidAt w w' base P S L pv N:=by
 obtain⟨h1,h2,h3,h4,h5,h6⟩:=h
 have hz:=h6.size
 exact⟨(hb.block P (Array.getElem?_eq_some_iff.1 h1).1).trans h1,h2.below hb (Nat.le_refl _),h3,h4.below hz hb,h5,h6.trans (hb.mono (by omega))⟩
theorem MidAt.app {w wr w':World} {base P:Nat} {S:St} {L L2:List UInt8} {pv v2:Value} {N:Int} (h:MidAt w wr base P S L pv N) (hPl:P<w.heap.size) (_hbase:base≤w.heap.size) (hbP:base≤P) (ho:OB w' base v2 L2) (hg:wr.grownBy w' pv.ownBlock) (hv:v2.ownBlock=pv.ownBlock∨v2.ownBlock=some wr.heap.size) (hb:Below base wr w') :
  (∃A c,v2=.slice A L2.length c)∧w'.cell? ⟨P,8,none⟩=some pv∧w'.frozen? ⟨P,8,none⟩=false∧MidAt w (w'.setCell ⟨P,8,none⟩ v2) base P S L2 v2 N:=by
 obtain⟨h1,h2,h3,h4,h5,h6⟩:=h
 have hz:=h6.size
 have h7:=(hg.block P (by omega) (fun e=>h3 e.symm)).trans h1
 obtain⟨A,c,hf,_,_,_⟩:=ho.sb
 refine⟨⟨A,c,hf⟩,(stCells h7).2.2.2.2.2.2.2.2.1,by simp[World.frozen?,h7],st_set8 h7,?_,?_,?_,?_,(h6.trans hb).setCell hbP _⟩
 ·refine ho.setCell ?_ _
  rcases hv with h|h
  ·rw[h];exact h3
  ·rw[h];intro e;injection e with e;have e':wr.heap.size=P:=e;omega
 ·rcases hv with h|h
  ·rw[h];exact h3
  ·rw[h];intro e;injection e with e;omega
 ·refine (h4.grown hz hg (fun k hk hkl=>?_)).set rfl _
  rcases h5 with h|h
  ·exact .inr (by rw[←h];exact hk)
  ·have:=h k hk;omega
 ·rcases hv with h|h
  ·rw[h];exact h5
  ·right;intro g hg2;rw[h] at hg2;injection hg2 with hg2;omega
theorem MidAt.fin {w wr:World} {base P:Nat} {S:St} {L cur:List UInt8} {pv:Value} {N:Int} (h:MidAt w wr base P S L pv N) (hS:S=wordsOf cur) (hL:L=partOf cur) (hN:N=(cur.length:Int)) (hbP:base≤P) :
  StAt wr base P cur∧Off w wr P∧(rowP wr P=rowP w P∨∀g,rowP wr P=some g→w.heap.size≤g)∧Below base w wr:=by
 subst hS;subst hL;subst hN
 obtain⟨h1,h2,h3,h4,h5,h6⟩:=h
 exact⟨⟨pv,h1,h2,h3,hbP⟩,h4,by rw[rowP_of h1];exact h5,h6⟩
theorem MidAt.block {w wr w':World} {base P:Nat} {S S':St} {L:List UInt8} {pv:Value} {N:Int} (h:MidAt w wr base P S L pv N) (hPl:P<w.heap.size) (_hbase:base≤w.heap.size) (hbP:base≤P) (hP:w'.heap[P]? = some (stObj S' pv N)) (hg:wr.grownBy w' (some P)):MidAt w w' base P S' L pv N:=by
 obtain⟨h1,h2,h3,h4,h5,h6⟩:=h
 have hz:=h6.size
 exact⟨hP,h2.grown hg (.inr h3),h3,h4.grown hz hg (fun k hk _=>.inl (by injection hk with hk;exact hk.symm)),h5,h6.grown hg (by omega) (fun k hk=>by injection hk with hk;omega)⟩
theorem MidAt.nil {w wr:World} {base P:Nat} {S:St} {L:List UInt8} {pv:Value} {N:Int} (h:MidAt w wr base P S L pv N) (hbP:base≤P):MidAt w (wr.setCell ⟨P,8,none⟩ (.slice none 0 0)) base P S [] (.slice none 0 0) N:=by
 obtain⟨h1,h2,h3,h4,h5,h6⟩:=h
 exact⟨st_set8 h1,OB.nil_ _ _,by simp[Value.ownBlock],h4.set rfl _,.inr (fun g hg=>by simp[Value.ownBlock] at hg),h6.setCell hbP _⟩
theorem KTab.on {w w':World} {base:Nat} (h:KTab w 0) (hb:Below base w w') (h1:0<base):KTab w' 0:=fun i hi=>(hb.cell (p:=⟨0,i,none⟩) (show 0<base by omega)).trans (h i hi)
theorem put_fill2 (bs x:List UInt8) (K:Nat) (hK:bs.length%64+K=64) (hx:K≤x.length) (_h0:0<K):wordsOf (bs++x.take K)=blockS (wordsOf bs) ((partOf bs++x.take K).take 64)∧(bs++x.take K).length%64=0:=by
 have hl:(x.take K).length=K:=by rw[List.length_take];omega
 have h1:=(put_fill bs (x.take K) (by omega) (by omega)).1
 refine⟨?_,by rw[List.length_append,hl];omega⟩
 have e:(partOf bs++x.take K).take 64=partOf bs++x.take K:=List.take_of_length_le (by rw[List.length_append,partOf_length,hl];omega)
 rw[h1,e]
theorem MidAt.fresh {w wr w':World} {base P:Nat} {S:St} {L L2:List UInt8} {pv v2:Value} {N:Int} (h:MidAt w wr base P S L pv N) (hPl:P<w.heap.size) (hbase:base≤w.heap.size) (hbP:base≤P) (ho:OB w' base v2 L2) (hv:∀g,v2.ownBlock=some g→wr.heap.size≤g) (hb:Below wr.heap.size wr w') :
  w'.cell? ⟨P,8,none⟩=some pv∧w'.frozen? ⟨P,8,none⟩=false∧MidAt w (w'.setCell ⟨P,8,none⟩ v2) base P S L2 v2 N:=by
 have hb':=h.below hb hbase
 obtain⟨h1,h2,h3,h4,h5,h6⟩:=h
 have hz:=h6.size
 obtain⟨k1,k2,k3,k4,k5,k6⟩:=hb'
 have hne:v2.ownBlock≠some P:=fun e=>by have:=hv P e;omega
 exact⟨(stCells k1).2.2.2.2.2.2.2.2.1,by simp[World.frozen?,k1],st_set8 k1,ho.setCell hne _,hne,k4.set rfl _,.inr (fun g hg=>by have:=hv g hg;omega),k6.setCell hbP _⟩
def sliceLen:Value→Nat
 | .slice _ n _=>n
 | _=>0
theorem put_last (cur rest:List UInt8) (h:cur.length%64=0) (hr:rest.length<64):wordsOf (cur++rest)=wordsOf cur∧partOf (cur++rest)=rest:=by
 have h1:=put_few cur rest (by omega)
 have h2:partOf cur=[]:=List.eq_nil_of_length_eq_zero (by rw[partOf_length];exact h)
 refine⟨h1.1,by rw[h1.2,h2];rfl⟩
theorem kPut_any (base P:Nat) (bs x:List UInt8) (v:Value) (w:World) (h:StAt w base P bs) (hv:VS w P v x) (hl:bs.length+x.length≤1152921504606846976) (hk:KTab w 0) (hb1:0<base) (hbase:base≤w.heap.size) :
  Calls Tryz.prog 119 #[.pointer (some ⟨P,0,none⟩),v] w fun e w'=>e=.returned (.tuple #[])∧StAt w' base P (bs++x)∧Off w w' P∧(rowP w' P=rowP w P∨∀g,rowP w' P=some g→w.heap.size≤g)∧Below base w w':=by
 obtain⟨pv,hP,hown,hne,hbP⟩:=h
 have hPl:P<w.heap.size:=(Array.getElem?_eq_some_iff.1 hP).1
 obtain⟨Av,cv,rfl,hlv,hcv,hrv⟩:=hv w (Off.refl w P)
 have hcv2:cv≤9223372036854775807:=by unfold maxLen at hcv;omega
 obtain⟨Ap,cp,hpv,hlp,hcp,hrp⟩:=hown.sb
 have hcp2:cp≤9223372036854775807:=by unfold maxLen at hcp;omega
 have hpl:(partOf bs).length=bs.length%64:=partOf_length bs
 obtain⟨_,_,_,_,_,_,_,_,p8,p9⟩:=stCells hP
 have f9:w.frozen? ⟨P,9,none⟩=false:=by simp[World.frozen?,hP]
 go_enter Tryz.func119,Tryz.ntmps119
 go_upto_region 1 with fail
 have HM:Hid (MidAt w (w.setCell ⟨P,9,none⟩ (.int .i64 ((bs.length:Int)+(x.length:Int)))) base P (wordsOf bs) (partOf bs) pv ((bs.length:Int)+(x.length:Int))):=Lib.hid
  ⟨st_set9 hP,hown.setCell hne _,hne,(Off.refl w P).set rfl _,.inl (rowP_of hP).symm,(Below.refl base w).setCell hbP _⟩
 obtain⟨N,hN⟩:∃N:Int,N=(bs.length:Int)+(x.length:Int):=⟨_,rfl⟩
 rw[←hN] at HM ⊢
 have HN:=Lib.hid hN
 clear hN
 generalize w.setCell ⟨P,9,none⟩ (.int .i64 N)=W1 at HM ⊢
 clear p8 p9 f9 hown hne
 by_cases hr0:0<bs.length%64
 ·obtain⟨m1,m2,m3,m4,m5,m6⟩:=HM.out
  obtain⟨_,_,_,_,_,_,_,_,p8,p9⟩:=stCells m1
  have f8:W1.frozen? ⟨P,8,none⟩=false:=by simp[World.frozen?,m1]
  obtain⟨r,hr⟩:∃r,r=bs.length%64:=⟨_,rfl⟩
  have HPL:Hid ((partOf bs).length=r):=Lib.hid (by rw[hpl,hr])
  rw[HPL.out] at hpv hlp
  rw[←hr] at hr0
  have hr64:r<64:=by omega
  clear hpl
  subst hpv
  by_cases hfew:r+x.length<64
  ·have HR:=Lib.hid hr
   clear hr
   obtain⟨L2,hL2⟩:∃L2,L2=partOf bs++x:=⟨_,rfl⟩
   have hL2n:L2.length<64:=by rw[hL2,List.length_append,HPL.out];omega
   have HL2:=Lib.hid hL2
   have m2d:OB W1.drew base (.slice Ap r cp) (partOf bs):=m2
   have hsrc:SB W1.drew w.heap.size (.slice Av x.length cv) x:=hv W1.drew m4
   have hz1:=m6.size
   have HMd:MidAt w W1.drew base P (wordsOf bs) (partOf bs) (.slice Ap r cp) N:=⟨m1,m2,m3,m4,m5,m6.drew⟩
   have HA:Hid (∀v2 w4,OB w4 base v2 (partOf bs++x)→W1.drew.grownBy w4 (Value.slice Ap r cp).ownBlock→(v2.ownBlock=(Value.slice Ap r cp).ownBlock∨v2.ownBlock=some W1.drew.heap.size)→Below base W1.drew w4→(∃A c,v2=.slice A L2.length c)∧w4.cell? ⟨P,8,none⟩=some (.slice Ap r cp)∧w4.frozen? ⟨P,8,none⟩=false∧MidAt w (w4.setCell ⟨P,8,none⟩ v2) base P (wordsOf bs) L2 v2 N):=Lib.hid (fun v2 w4 h1 h2 h3 h4=>MidAt.app HMd hPl hbase hbP (by rw[HL2.out];exact h1) h2 h3 h4)
   clear hL2
   have hpn:(partOf bs).length+x.length≤140737488355328:=by rw[HPL.out];omega
   have hbz:base≤W1.drew.heap.size:=Nat.le_trans hbase hz1
   go_upto_region 3 with fail
   go_region_law (first|(go_loud (refine st_appB rfl (.tmp 33) (.tmp 36) rfl base _ (partOf bs) rfl m2d w.heap.size _ x rfl hsrc hpn hbz ?_);intro v2 w4 hown4 hg4 ho4 hb4;obtain⟨⟨A2,c2,hv2⟩,k8,kf8,hmid⟩:=HA.out v2 w4 hown4 hg4 ho4 hb4;subst hv2))
   all_goals
    have hfin:=MidAt.fin (cur:=bs++x) hmid (put_few bs x (by rw[←HR.out];exact hfew)).1.symm (by rw[HL2.out,(put_few bs x (by rw[←HR.out];exact hfew)).2]) (by rw[HN.out,List.length_append];omega) hbP
    have HFIN:=Lib.hid hfin
    obtain⟨k1,_,_,_,_,_⟩:=hmid
    clear hfin k8 kf8 p8 p9 f8
    generalize w4.setCell _ _=W4 at k1 HFIN ⊢
    obtain⟨_,_,_,_,_,_,_,_,p8,p9⟩:=stCells k1
    go_wp2_with fail
    all_goals exact bodyPost_ret (v:=.tuple #[]) (by simp[results,Tryz.results119,go_sem]) rfl ⟨rfl,HFIN.out⟩
  ·have HR:=Lib.hid hr
   clear hr
   obtain⟨K,hK⟩:∃K:Nat,K=64-r:=⟨_,rfl⟩
   have hKi:(64:Int)-(r:Int)=(K:Int):=by omega
   have hKx:K≤x.length:=by omega
   have hK0:0<K:=by omega
   have hK1:K≤64:=by omega
   have hKc:K≤cv:=by omega
   have hKc2:(K:Int)≤(cv:Int):=by omega
   have HPF:=Lib.hid (put_fill2 bs x K (by rw[←HR.out];omega) hKx hK0)
   obtain⟨L2,hL2⟩:∃L2,L2=partOf bs++x.take K:=⟨_,rfl⟩
   have hxt:(x.take K).length=K:=by rw[List.length_take];omega
   have hL2n:L2.length=64:=by rw[hL2,List.length_append,HPL.out,hxt];omega
   have HL2:=Lib.hid (And.intro hL2 hL2n)
   have hz1:=m6.size
   have m2d:OB W1.drew base (.slice Ap r cp) (partOf bs):=m2
   have hsrc:SB W1.drew w.heap.size (.slice Av K cv) (x.take K):=VS.take hv rfl hKx W1.drew m4
   have HMd:MidAt w W1.drew base P (wordsOf bs) (partOf bs) (.slice Ap r cp) N:=⟨m1,m2,m3,m4,m5,m6.drew⟩
   have HA:Hid (∀v2 w4,OB w4 base v2 (partOf bs++x.take K)→W1.drew.grownBy w4 (Value.slice Ap r cp).ownBlock→(v2.ownBlock=(Value.slice Ap r cp).ownBlock∨v2.ownBlock=some W1.drew.heap.size)→Below base W1.drew w4→(∃A c,v2=.slice A 64 c)∧w4.cell? ⟨P,8,none⟩=some (.slice Ap r cp)∧w4.frozen? ⟨P,8,none⟩=false∧MidAt w (w4.setCell ⟨P,8,none⟩ v2) base P (wordsOf bs) L2 v2 N):=Lib.hid (fun v2 w4 h1 h2 h3 h4=>by
    have:=MidAt.app (L2:=L2) HMd hPl hbase hbP (by rw[HL2.out.1];exact h1) h2 h3 h4
    rw[HL2.out.2] at this
    exact this)
   have HVC:=Lib.hid (VS.cut hv rfl hKx)
   have hpn:(partOf bs).length+(x.take K).length≤140737488355328:=by rw[HPL.out,hxt];omega
   have hbz:base≤W1.drew.heap.size:=Nat.le_trans hbase hz1
   clear hL2 hL2n hxt hK
   go_upto_region 3 with fail
   go_region_law (first|(go_loud (refine st_appB rfl (.tmp 33) (.tmp 36) rfl base _ (partOf bs) rfl m2d w.heap.size _ (x.take K) rfl hsrc hpn hbz ?_);intro v2 w4 hown4 hg4 ho4 hb4;obtain⟨⟨A2,c2,hv2⟩,k8,kf8,hmid⟩:=HA.out v2 w4 hown4 hg4 ho4 hb4;subst hv2))
   all_goals
    clear k8 kf8 p8 p9 f8
    have HMID:=Lib.hid hmid
    obtain⟨k1,k2,_,_,_,k6⟩:=hmid
    generalize w4.setCell _ _=W4 at k1 k2 k6 HMID ⊢
    obtain⟨_,_,_,_,_,_,_,_,p8,p9⟩:=stCells k1
    have hL2s:SB W4 W4.heap.size (.slice A2 64 c2) L2:=k2.sb
    have hk4:=hk.on k6 hb1
    have hz4:=k6.size
    have hP1:P≠0:=by omega
    have h1W:0<W4.heap.size:=by omega
    have hL64:64≤L2.length:=by rw[HL2.out.2];exact Nat.le_refl _
    have hL63:L2.length≤9223372036854775807:=by rw[HL2.out.2];decide
    have HBLK:=Lib.hid (kBlock_any P (wordsOf bs) (.slice A2 64 c2) N _ L2 W4 k1 hL2s hL64 hL63 hk4 hP1 h1W)
    have HNEW:Hid (∀w5,w5.heap[P]? = some (stObj (blockS (wordsOf bs) (L2.take 64)) (.slice A2 64 c2) N)→W4.grownBy w5 (some P)→w5.cell? ⟨P,8,none⟩=some (.slice A2 64 c2)∧w5.frozen? ⟨P,8,none⟩=false∧MidAt w (w5.setCell ⟨P,8,none⟩ (.slice none 0 0)) base P (wordsOf (bs++x.take K)) [] (.slice none 0 0) N):=Lib.hid (fun w5 hP5 hg5=>by
     have h5:=(HMID.out.block hPl hbase hbP hP5 hg5).nil hbP
     rw[HPF.out.1,←HL2.out.1]
     exact⟨(stCells hP5).2.2.2.2.2.2.2.2.1,by simp[World.frozen?,hP5],h5⟩)
    clear hL64 hL63 hL2s
    by_cases hcK:cv=K
    ·have hVS:=HVC.out
     rw[if_pos hcK,hcK,Nat.sub_self] at hVS
     go_wp2_with fail
     refine HBLK.out.mono ?_
     rintro en w5 ⟨rfl,hP5,hg5⟩
     obtain⟨q8,qf8,hm7⟩:=HNEW.out w5 hP5 hg5
     go_wp2_with fail
     clear q8 qf8 p8 p9 k1 k2 hP5 hg5
     go_loopw [1] (fun bv wy=>∃(cur rest:List UInt8) (pz:Value) (A:Option Addr) (n c:Nat),bv=.slice A n c∧Hid (cur++rest=bs++x∧cur.length%64=0∧n=rest.length)∧VS w P (.slice A n c) rest∧MidAt w wy base P (wordsOf cur) [] pz N) (fun bv _=>sliceLen bv)
     case atStart=>exact⟨bs++x.take K,x.drop K,_,_,_,_,rfl,Lib.hid ⟨by rw[List.append_assoc,List.take_append_drop],HPF.out.2,by rw[List.length_drop]⟩,hVS,hm7⟩
     case round =>
      obtain⟨cur,rest,pz,A,n,c,rfl,HC,hvs,hm⟩:=hrel
      clear hm7 hVS
      have HMM:=Lib.hid hm
      obtain⟨k1,k2,k3,k4,k5,k6⟩:=hm
      have hzr:=k6.size
      have hsb:SB wr w.heap.size (.slice A n c) rest:=hvs wr k4
      obtain⟨A1,c1,he,hl1,hm1,hr1⟩:=id hsb
      injection he with he1 he2 he3
      subst he1;subst he3
      have hm2:c≤9223372036854775807:=by unfold maxLen at hm1;omega
      have hnc:n≤c:=by omega
      clear hm1 hl1 he2
      have HVS:=Lib.hid hvs
      by_cases h64:64≤n
      ·have hP1:P≠0:=by omega
       have h1r:0<wr.heap.size:=by omega
       have HBLK:=Lib.hid (kBlock_any P (wordsOf cur) pz N _ rest wr k1 (SB.more hsb hzr) (by have:=HC.out.2.2;omega) (by have:=HC.out.2.2;omega) (hk.on k6 hb1) hP1 h1r)
       have hcut:=VS.cut hvs HC.out.2.2 (k:=64) (by have:=HC.out.2.2;omega)
       have HNEXT:Hid ((cur++rest.take 64)++rest.drop 64=bs++x∧(cur++rest.take 64).length%64=0∧n-64=(rest.drop 64).length):=Lib.hid (by
        have h1:=HC.out
        refine⟨by rw[List.append_assoc,List.take_append_drop];exact h1.1,by rw[List.length_append,List.length_take];omega,by rw[List.length_drop];omega⟩)
       have HW:Hid (blockS (wordsOf cur) (rest.take 64)=wordsOf (cur++rest.take 64)):=Lib.hid (by
        have h1:=HC.out
        rw[put_block cur (rest.take 64) h1.2.1 (by rw[List.length_take];omega)])
       rw[←HC.out.2.2] at hcut
       clear hsb hvs hr1
       by_cases hc64:c=64
       ·subst hc64
        rw[if_pos rfl,show 64-64=0 from rfl,show n-64=0 from by omega] at hcut
        rw[show n-64=0 from by omega] at HNEXT
        go_wp2_with fail
        refine HBLK.out.mono ?_
        rintro en w5 ⟨rfl,hP5,hg5⟩
        have hm5:=HMM.out.block hPl hbase hbP hP5 hg5
        rw[HW.out] at hm5
        go_wp2_with fail
        go_roundw
        case rel=>exact⟨cur++rest.take 64,rest.drop 64,pz,_,_,_,rfl,HNEXT,hcut,hm5⟩
        case measure=>simp only[sliceLen];omega
       ·rw[if_neg hc64] at hcut
        go_wp2_with fail
        refine HBLK.out.mono ?_
        rintro en w5 ⟨rfl,hP5,hg5⟩
        have hm5:=HMM.out.block hPl hbase hbP hP5 hg5
        rw[HW.out] at hm5
        go_wp2_with fail
        go_roundw
        case rel=>exact⟨cur++rest.take 64,rest.drop 64,pz,_,_,_,rfl,HNEXT,hcut,hm5⟩
        case measure=>simp only[sliceLen];omega
      ·have hrl:rest.length<64:=by have:=HC.out.2.2;omega
       have own0:OB (wr.alloc (.cells #[] 5)) base (.slice (some ⟨wr.heap.size,0,none⟩) 0 0) []:=OB.lit0 wr (by omega)
       have hsrc:SB (wr.alloc (.cells #[] 5)) w.heap.size (.slice A n c) rest:=SB.alloc hsb hzr _
       have HA:Hid (∀v2 w4,OB w4 base v2 ([]++rest)→(wr.alloc (.cells #[] 5)).grownBy w4 (Value.slice (some ⟨wr.heap.size,0,none⟩) 0 0).ownBlock→(v2.ownBlock=(Value.slice (some ⟨wr.heap.size,0,none⟩) 0 0).ownBlock∨v2.ownBlock=some (wr.alloc (.cells #[] 5)).heap.size)→(∃A c m,v2=.slice A m c)∧w4.cell? ⟨P,8,none⟩=some pz∧w4.frozen? ⟨P,8,none⟩=false∧StAt (w4.setCell ⟨P,8,none⟩ v2) base P (bs++x)∧Off w (w4.setCell ⟨P,8,none⟩ v2) P∧(rowP (w4.setCell ⟨P,8,none⟩ v2) P=rowP w P∨∀g,rowP (w4.setCell ⟨P,8,none⟩ v2) P=some g→w.heap.size≤g)∧Below base w (w4.setCell ⟨P,8,none⟩ v2)):=Lib.hid (fun v2 w4 h1 h2 h3=>by
        rw[List.nil_append] at h1
        have hbl:Below wr.heap.size wr w4:=(balloc (bself wr) (.cells #[] 5)).grown h2 (by simp) (fun k hk=>by have hk':some wr.heap.size=some k:=hk;injection hk' with hk';omega)
        have hf:=HMM.out.fresh (L2:=rest) hPl hbase hbP h1 (fun g hg=>by
         rcases h3 with h|h
         ·rw[h] at hg;have hg':some wr.heap.size=some g:=hg
          injection hg' with hg'
          omega
         ·rw[h] at hg;injection hg with hg;simp at hg;omega) hbl
        obtain⟨A4,c4,e4,_,_,_⟩:=h1.sb
        have hlst:=put_last cur rest HC.out.2.1 hrl
        refine⟨⟨A4,c4,_,e4⟩,hf.1,hf.2.1,MidAt.fin hf.2.2 ?_ ?_ ?_ hbP⟩
        ·rw[←HC.out.1,hlst.1]
        ·rw[←HC.out.1,hlst.2]
        ·rw[HN.out,List.length_append];omega)
       have hlen:([]:List UInt8).length+rest.length≤140737488355328:=by simp only[List.length_nil];omega
       have hbz:base≤(wr.alloc (.cells #[] 5)).heap.size:=by simp;omega
       clear hsb hvs hr1
       go_wp2_with (at_builtin;go_loud (refine wl_appB rfl (.tmp 67) (.tmp 68) rfl base _ [] rfl own0 w.heap.size _ rest rfl hsrc hlen hbz ?_);intro v4 w4 hown4 hg4 ho4 hb4;obtain⟨⟨A4,c4,m4,hv4⟩,k8,kf8,hfin⟩:=HA.out v4 w4 hown4 hg4 ho4;subst hv4)
       exact bodyPost_end (v:=.tuple #[]) (by simp[results,Tryz.results119,go_sem]) rfl ⟨rfl,hfin⟩
    ·have hVS:=HVC.out
     rw[if_neg hcK] at hVS
     go_wp2_with fail
     refine HBLK.out.mono ?_
     rintro en w5 ⟨rfl,hP5,hg5⟩
     obtain⟨q8,qf8,hm7⟩:=HNEW.out w5 hP5 hg5
     go_wp2_with fail
     clear q8 qf8 p8 p9 k1 k2 hP5 hg5
     go_loopw [1] (fun bv wy=>∃(cur rest:List UInt8) (pz:Value) (A:Option Addr) (n c:Nat),bv=.slice A n c∧Hid (cur++rest=bs++x∧cur.length%64=0∧n=rest.length)∧VS w P (.slice A n c) rest∧MidAt w wy base P (wordsOf cur) [] pz N) (fun bv _=>sliceLen bv)
     case atStart=>exact⟨bs++x.take K,x.drop K,_,_,_,_,rfl,Lib.hid ⟨by rw[List.append_assoc,List.take_append_drop],HPF.out.2,by rw[List.length_drop]⟩,hVS,hm7⟩
     case round =>
      obtain⟨cur,rest,pz,A,n,c,rfl,HC,hvs,hm⟩:=hrel
      clear hm7 hVS
      have HMM:=Lib.hid hm
      obtain⟨k1,k2,k3,k4,k5,k6⟩:=hm
      have hzr:=k6.size
      have hsb:SB wr w.heap.size (.slice A n c) rest:=hvs wr k4
      obtain⟨A1,c1,he,hl1,hm1,hr1⟩:=id hsb
      injection he with he1 he2 he3
      subst he1;subst he3
      have hm2:c≤9223372036854775807:=by unfold maxLen at hm1;omega
      have hnc:n≤c:=by omega
      clear hm1 hl1 he2
      have HVS:=Lib.hid hvs
      by_cases h64:64≤n
      ·have hP1:P≠0:=by omega
       have h1r:0<wr.heap.size:=by omega
       have HBLK:=Lib.hid (kBlock_any P (wordsOf cur) pz N _ rest wr k1 (SB.more hsb hzr) (by have:=HC.out.2.2;omega) (by have:=HC.out.2.2;omega) (hk.on k6 hb1) hP1 h1r)
       have hcut:=VS.cut hvs HC.out.2.2 (k:=64) (by have:=HC.out.2.2;omega)
       have HNEXT:Hid ((cur++rest.take 64)++rest.drop 64=bs++x∧(cur++rest.take 64).length%64=0∧n-64=(rest.drop 64).length):=Lib.hid (by
        have h1:=HC.out
        refine⟨by rw[List.append_assoc,List.take_append_drop];exact h1.1,by rw[List.length_append,List.length_take];omega,by rw[List.length_drop];omega⟩)
       have HW:Hid (blockS (wordsOf cur) (rest.take 64)=wordsOf (cur++rest.take 64)):=Lib.hid (by
        have h1:=HC.out
        rw[put_block cur (rest.take 64) h1.2.1 (by rw[List.length_take];omega)])
       rw[←HC.out.2.2] at hcut
       clear hsb hvs hr1
       by_cases hc64:c=64
       ·subst hc64
        rw[if_pos rfl,show 64-64=0 from rfl,show n-64=0 from by omega] at hcut
        rw[show n-64=0 from by omega] at HNEXT
        go_wp2_with fail
        refine HBLK.out.mono ?_
        rintro en w5 ⟨rfl,hP5,hg5⟩
        have hm5:=HMM.out.block hPl hbase hbP hP5 hg5
        rw[HW.out] at hm5
        go_wp2_with fail
        go_roundw
        case rel=>exact⟨cur++rest.take 64,rest.drop 64,pz,_,_,_,rfl,HNEXT,hcut,hm5⟩
        case measure=>simp only[sliceLen];omega
       ·rw[if_neg hc64] at hcut
        go_wp2_with fail
        refine HBLK.out.mono ?_
        rintro en w5 ⟨rfl,hP5,hg5⟩
        have hm5:=HMM.out.block hPl hbase hbP hP5 hg5
        rw[HW.out] at hm5
        go_wp2_with fail
        go_roundw
        case rel=>exact⟨cur++rest.take 64,rest.drop 64,pz,_,_,_,rfl,HNEXT,hcut,hm5⟩
        case measure=>simp only[sliceLen];omega
      ·have hrl:rest.length<64:=by have:=HC.out.2.2;omega
       have own0:OB (wr.alloc (.cells #[] 5)) base (.slice (some ⟨wr.heap.size,0,none⟩) 0 0) []:=OB.lit0 wr (by omega)
       have hsrc:SB (wr.alloc (.cells #[] 5)) w.heap.size (.slice A n c) rest:=SB.alloc hsb hzr _
       have HA:Hid (∀v2 w4,OB w4 base v2 ([]++rest)→(wr.alloc (.cells #[] 5)).grownBy w4 (Value.slice (some ⟨wr.heap.size,0,none⟩) 0 0).ownBlock→(v2.ownBlock=(Value.slice (some ⟨wr.heap.size,0,none⟩) 0 0).ownBlock∨v2.ownBlock=some (wr.alloc (.cells #[] 5)).heap.size)→(∃A c m,v2=.slice A m c)∧w4.cell? ⟨P,8,none⟩=some pz∧w4.frozen? ⟨P,8,none⟩=false∧StAt (w4.setCell ⟨P,8,none⟩ v2) base P (bs++x)∧Off w (w4.setCell ⟨P,8,none⟩ v2) P∧(rowP (w4.setCell ⟨P,8,none⟩ v2) P=rowP w P∨∀g,rowP (w4.setCell ⟨P,8,none⟩ v2) P=some g→w.heap.size≤g)∧Below base w (w4.setCell ⟨P,8,none⟩ v2)):=Lib.hid (fun v2 w4 h1 h2 h3=>by
        rw[List.nil_append] at h1
        have hbl:Below wr.heap.size wr w4:=(balloc (bself wr) (.cells #[] 5)).grown h2 (by simp) (fun k hk=>by have hk':some wr.heap.size=some k:=hk;injection hk' with hk';omega)
        have hf:=HMM.out.fresh (L2:=rest) hPl hbase hbP h1 (fun g hg=>by
         rcases h3 with h|h
         ·rw[h] at hg;have hg':some wr.heap.size=some g:=hg
          injection hg' with hg'
          omega
         ·rw[h] at hg;injection hg with hg;simp at hg;omega) hbl
        obtain⟨A4,c4,e4,_,_,_⟩:=h1.sb
        have hlst:=put_last cur rest HC.out.2.1 hrl
        refine⟨⟨A4,c4,_,e4⟩,hf.1,hf.2.1,MidAt.fin hf.2.2 ?_ ?_ ?_ hbP⟩
        ·rw[←HC.out.1,hlst.1]
        ·rw[←HC.out.1,hlst.2]
        ·rw[HN.out,List.length_append];omega)
       have hlen:([]:List UInt8).length+rest.length≤140737488355328:=by simp only[List.length_nil];omega
       have hbz:base≤(wr.alloc (.cells #[] 5)).heap.size:=by simp;omega
       clear hsb hvs hr1
       go_wp2_with (at_builtin;go_loud (refine wl_appB rfl (.tmp 67) (.tmp 68) rfl base _ [] rfl own0 w.heap.size _ rest rfl hsrc hlen hbz ?_);intro v4 w4 hown4 hg4 ho4 hb4;obtain⟨⟨A4,c4,m4,hv4⟩,k8,kf8,hfin⟩:=HA.out v4 w4 hown4 hg4 ho4;subst hv4)
       exact bodyPost_end (v:=.tuple #[]) (by simp[results,Tryz.results119,go_sem]) rfl ⟨rfl,hfin⟩
 ·have hr00:bs.length%64=0:=by omega
  have hpn:partOf bs=[]:=List.eq_nil_of_length_eq_zero (by omega)
  have hm7:=HM.out
  rw[hpn] at hm7 hpv hlp hpl
  have hVS:=hv
  obtain⟨m1,_,_,_,_,_⟩:=id hm7
  obtain⟨_,_,_,_,_,_,_,_,p8,p9⟩:=stCells m1
  subst hpv
  have HR0:=Lib.hid hr00
  clear hr00 hr0 hpl hP m1
  go_wp2_with fail
  clear p8 p9
  go_loopw [1] (fun bv wy=>∃(cur rest:List UInt8) (pz:Value) (A:Option Addr) (n c:Nat),bv=.slice A n c∧Hid (cur++rest=bs++x∧cur.length%64=0∧n=rest.length)∧VS w P (.slice A n c) rest∧MidAt w wy base P (wordsOf cur) [] pz N) (fun bv _=>sliceLen bv)
  case atStart=>exact⟨bs,x,_,_,_,_,rfl,Lib.hid ⟨rfl,HR0.out,rfl⟩,hVS,hm7⟩
  case round =>
   obtain⟨cur,rest,pz,A,n,c,rfl,HC,hvs,hm⟩:=hrel
   clear hm7 hVS
   have HMM:=Lib.hid hm
   obtain⟨k1,k2,k3,k4,k5,k6⟩:=hm
   have hzr:=k6.size
   have hsb:SB wr w.heap.size (.slice A n c) rest:=hvs wr k4
   obtain⟨A1,c1,he,hl1,hm1,hr1⟩:=id hsb
   injection he with he1 he2 he3
   subst he1;subst he3
   have hm2:c≤9223372036854775807:=by unfold maxLen at hm1;omega
   have hnc:n≤c:=by omega
   clear hm1 hl1 he2
   have HVS:=Lib.hid hvs
   by_cases h64:64≤n
   ·have hP1:P≠0:=by omega
    have h1r:0<wr.heap.size:=by omega
    have HBLK:=Lib.hid (kBlock_any P (wordsOf cur) pz N _ rest wr k1 (SB.more hsb hzr) (by have:=HC.out.2.2;omega) (by have:=HC.out.2.2;omega) (hk.on k6 hb1) hP1 h1r)
    have hcut:=VS.cut hvs HC.out.2.2 (k:=64) (by have:=HC.out.2.2;omega)
    have HNEXT:Hid ((cur++rest.take 64)++rest.drop 64=bs++x∧(cur++rest.take 64).length%64=0∧n-64=(rest.drop 64).length):=Lib.hid (by
     have h1:=HC.out
     refine⟨by rw[List.append_assoc,List.take_append_drop];exact h1.1,by rw[List.length_append,List.length_take];omega,by rw[List.length_drop];omega⟩)
    have HW:Hid (blockS (wordsOf cur) (rest.take 64)=wordsOf (cur++rest.take 64)):=Lib.hid (by
     have h1:=HC.out
     rw[put_block cur (rest.take 64) h1.2.1 (by rw[List.length_take];omega)])
    rw[←HC.out.2.2] at hcut
    clear hsb hvs hr1
    by_cases hc64:c=64
    ·subst hc64
     rw[if_pos rfl,show 64-64=0 from rfl,show n-64=0 from by omega] at hcut
     rw[show n-64=0 from by omega] at HNEXT
     go_wp2_with fail
     refine HBLK.out.mono ?_
     rintro en w5 ⟨rfl,hP5,hg5⟩
     have hm5:=HMM.out.block hPl hbase hbP hP5 hg5
     rw[HW.out] at hm5
     go_wp2_with fail
     go_roundw
     case rel=>exact⟨cur++rest.take 64,rest.drop 64,pz,_,_,_,rfl,HNEXT,hcut,hm5⟩
     case measure=>simp only[sliceLen];omega
    ·rw[if_neg hc64] at hcut
     go_wp2_with fail
     refine HBLK.out.mono ?_
     rintro en w5 ⟨rfl,hP5,hg5⟩
     have hm5:=HMM.out.block hPl hbase hbP hP5 hg5
     rw[HW.out] at hm5
     go_wp2_with fail
     go_roundw
     case rel=>exact⟨cur++rest.take 64,rest.drop 64,pz,_,_,_,rfl,HNEXT,hcut,hm5⟩
     case measure=>simp only[sliceLen];omega
   ·have hrl:rest.length<64:=by have:=HC.out.2.2;omega
    have own0:OB (wr.alloc (.cells #[] 5)) base (.slice (some ⟨wr.heap.size,0,none⟩) 0 0) []:=OB.lit0 wr (by omega)
    have hsrc:SB (wr.alloc (.cells #[] 5)) w.heap.size (.slice A n c) rest:=SB.alloc hsb hzr _
    have HA:Hid (∀v2 w4,OB w4 base v2 ([]++rest)→(wr.alloc (.cells #[] 5)).grownBy w4 (Value.slice (some ⟨wr.heap.size,0,none⟩) 0 0).ownBlock→(v2.ownBlock=(Value.slice (some ⟨wr.heap.size,0,none⟩) 0 0).ownBlock∨v2.ownBlock=some (wr.alloc (.cells #[] 5)).heap.size)→(∃A c m,v2=.slice A m c)∧w4.cell? ⟨P,8,none⟩=some pz∧w4.frozen? ⟨P,8,none⟩=false∧StAt (w4.setCell ⟨P,8,none⟩ v2) base P (bs++x)∧Off w (w4.setCell ⟨P,8,none⟩ v2) P∧(rowP (w4.setCell ⟨P,8,none⟩ v2) P=rowP w P∨∀g,rowP (w4.setCell ⟨P,8,none⟩ v2) P=some g→w.heap.size≤g)∧Below base w (w4.setCell ⟨P,8,none⟩ v2)):=Lib.hid (fun v2 w4 h1 h2 h3=>by
     rw[List.nil_append] at h1
     have hbl:Below wr.heap.size wr w4:=(balloc (bself wr) (.cells #[] 5)).grown h2 (by simp) (fun k hk=>by have hk':some wr.heap.size=some k:=hk;injection hk' with hk';omega)
     have hf:=HMM.out.fresh (L2:=rest) hPl hbase hbP h1 (fun g hg=>by
      rcases h3 with h|h
      ·rw[h] at hg;have hg':some wr.heap.size=some g:=hg
       injection hg' with hg'
       omega
      ·rw[h] at hg;injection hg with hg;simp at hg;omega) hbl
     obtain⟨A4,c4,e4,_,_,_⟩:=h1.sb
     have hlst:=put_last cur rest HC.out.2.1 hrl
     refine⟨⟨A4,c4,_,e4⟩,hf.1,hf.2.1,MidAt.fin hf.2.2 ?_ ?_ ?_ hbP⟩
     ·rw[←HC.out.1,hlst.1]
     ·rw[←HC.out.1,hlst.2]
     ·rw[HN.out,List.length_append];omega)
    have hlen:([]:List UInt8).length+rest.length≤140737488355328:=by simp only[List.length_nil];omega
    have hbz:base≤(wr.alloc (.cells #[] 5)).heap.size:=by simp;omega
    clear hsb hvs hr1
    go_wp2_with (at_builtin;go_loud (refine wl_appB rfl (.tmp 67) (.tmp 68) rfl base _ [] rfl own0 w.heap.size _ rest rfl hsrc hlen hbz ?_);intro v4 w4 hown4 hg4 ho4 hb4;obtain⟨⟨A4,c4,m4,hv4⟩,k8,kf8,hfin⟩:=HA.out v4 w4 hown4 hg4 ho4;subst hv4)
    exact bodyPost_end (v:=.tuple #[]) (by simp[results,Tryz.results119,go_sem]) rfl ⟨rfl,hfin⟩
end Go.Proofs.YtchjknbideoieaaGreatDoor
namespace Go.Proofs.YtchjknbideoieaaGreatDoor
set_option maxRecDepth 100000
set_option maxHeartbeats 8000000
open Go.RowKit
theorem keepS {w W':World} {o:Obj} (h:Below (w.alloc o).heap.size (w.alloc o) W'):W'.heap[w.heap.size]? = some o:=(h.block _ (by simp)).trans (heap_alloc_new w o)
abbrev beginV:Value:=.agg #[.int .u32 1779033703,.int .u32 3144134277,.int .u32 1013904242,.int .u32 2773480762,.int .u32 1359893119,.int .u32 2600822924,.int .u32 528734635,.int .u32 1541459225,.slice none 0 0,.int .i64 0]
abbrev beginO:Obj:=.cells #[.int .u32 1779033703,.int .u32 3144134277,.int .u32 1013904242,.int .u32 2773480762,.int .u32 1359893119,.int .u32 2600822924,.int .u32 528734635,.int .u32 1541459225,.slice none 0 0,.int .i64 0] 203
theorem begin_row:beginO=stObj (wordsOf []) (.slice none 0 0) 0:=by kernel_rfl
theorem St0.at {w:World} {base P:Nat} (h:w.heap[P]? = some beginO) (hb:base≤P):StAt w base P []:=⟨_,by rw[h,begin_row];rfl,OB.nil_ _ _,by simp[Value.ownBlock],hb⟩
theorem kBegin_any (w:World):Calls Tryz.prog 118 #[] w fun e w'=>e=.returned beginV∧Below w.heap.size w w':=by
 go_enter Tryz.func118,Tryz.ntmps118
 go_wp2_with fail
 have hr:=heap_alloc_new w beginO
 have k:∀j,(w.alloc beginO).cell? ⟨w.heap.size,j,none⟩=_:=fun j=>cell_of_row _ _ j _ _ _ hr
 have k0:=k 0
 have k1:=k 1
 have k2:=k 2
 have k3:=k 3
 have k4:=k 4
 have k5:=k 5
 have k6:=k 6
 have k7:=k 7
 have k8:=k 8
 have k9:=k 9
 exact bodyPost_ret (v:=beginV) (by simp[results,Tryz.results118,go_sem,k0,k1,k2,k3,k4,k5,k6,k7,k8,k9]) rfl ⟨rfl,balloc (bself w) _⟩
theorem kNew_any (w:World):Calls Tryz.prog 143 #[] w fun e w'=>∃P,e=.returned (.pointer (some ⟨P,0,none⟩))∧StAt w' w.heap.size P []∧Below w.heap.size w w':=by
 go_enter Tryz.func143,Tryz.ntmps143
 go_wp2_with fail
 refine (kBegin_any _).mono ?_
 rintro e w1 ⟨rfl,hb1⟩
 have hz:=hb1.size
 go_wp2_with fail
 go_ret
 exact⟨_,rfl,St0.at (heap_alloc_new w1 _) hz,balloc hb1 _⟩
theorem kWrite_any (base P:Nat) (bs x:List UInt8) (v:Value) (w:World) (h:StAt w base P bs) (hv:VS w P v x) (hl:bs.length+x.length≤1152921504606846976) (hk:KTab w 0) (hb1:0<base) (hbase:base≤w.heap.size) :
  Calls Tryz.prog 144 #[.pointer (some ⟨P,0,none⟩),v] w fun e w'=>e=.returned (.tuple #[])∧StAt w' base P (bs++x)∧Off w w' P∧(rowP w' P=rowP w P∨∀g,rowP w' P=some g→w.heap.size≤g)∧Below base w w':=by
 go_enter Tryz.func144,Tryz.ntmps144
 go_wp2_with fail
 refine (kPut_any base P bs x v w h hv hl hk hb1 hbase).mono ?_
 rintro e w1 ⟨rfl,hpost⟩
 go_wp2_with fail
 exact bodyPost_end (v:=.tuple #[]) (by simp[results,Tryz.results144,go_sem]) rfl ⟨rfl,hpost⟩
end Go.Proofs.YtchjknbideoieaaGreatDoor
namespace Go.Proofs.YtchjknbideoieaaGreatDoor
set_option maxRecDepth 100000
set_option maxHeartbeats 8000000
open Go.RowKit
theorem bv_at {l:List UInt8} {i:Nat} (h:i<l.length):(bv l)[i]? = some (.int .u8 ((l[i].toNat:Nat):Int)):=bv_get l i h
end Go.Proofs.YtchjknbideoieaaGreatDoor
