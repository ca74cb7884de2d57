/- What is proved here: what the program's and the reference's Right (of a head) come to, at this seat's numbers. No condition. what the program's and the reference's Lay (of a head) come to, at this seat's numbers. No condition but the head's numbers. what Nonce of package name (and of the reference) comes to, at this seat's numbers. No condition. -/
import Derived.Test.YtchjknbideoieaaGreatDoorK02
import Derived.Test.YtchjknbideoieaaGreatDoorK06
import Derived.Lib.Hide
import Derived.BigQuiet
import Derived.Lib.SmallJoins
import Derived.Deep.DeepCutAuto
import Derived.Deep.CutBlock
import Derived.Laws.CopyOwn
namespace Go.Proofs.YtchjknbideoieaaGreatDoor
set_option maxRecDepth 100000
set_option maxHeartbeats 8000000
open Go.RowKit
theorem ret_bl {a b:Bool} (h:a=b):Ending.returned (.bool a)=Ending.returned (.bool b):=by rw[h]
abbrev hdV (h:Hd):Value:=.agg #[.int .u8 (h.k:Int),.int .u8 (h.lv:Int),.int .u64 (h.g:Int),.int .u64 (h.e:Int),.int .u64 (h.n:Int)]
theorem right_2 {h:Hd} (a:h.k=2):rightH h=decide (h.lv<5):=by unfold rightH;rw[if_pos a]
theorem right_13 {h:Hd} (a:h.k=1∨h.k=3):rightH h=(decide (h.lv=0)&&decide (h.g=0)):=by
 unfold rightH
 rw[if_neg (by omega)]
 by_cases b:h.lv=0 <;> by_cases c:h.g=0 <;> simp[a,b,c]
theorem right_no {h:Hd} (a:¬h.k=2) (b:¬(h.k=1∨h.k=3)):rightH h=false:=by
 unfold rightH
 rw[if_neg a,decide_eq_false (fun x=>b x.1)]
theorem kRight_any (h:Hd) (w:World) (ok:h.ok) :
  Calls Tryz.prog 48 #[hdV h] w fun e w'=>e=.returned (.bool (rightH h))∧Below w.heap.size w w':=by
 obtain⟨k,lv,g,e,n⟩:=h
 obtain⟨h1,h2,h3,h4,h5⟩:=ok
 simp only at h1 h2 h3 h4 h5
 by_cases a:k=2
 ·have HR:=Lib.hid (right_2 (h:=⟨k,lv,g,e,n⟩) a)
  subst a
  go_enter Tryz.func48,Tryz.ntmps48
  go_wp2
  go_ret
  refine⟨?_,(bself w).alloc (Nat.le_refl _) _⟩
  rw[HR.out]
  exact ret_bl (by rw[decide_eq_decide];omega)
 ·by_cases b:k=1∨k=3
  ·have HR:=Lib.hid (right_13 (h:=⟨k,lv,g,e,n⟩) b)
   rcases b with b|b
   all_goals
    subst b
    by_cases c:lv=0
    ·subst c
     go_enter Tryz.func48,Tryz.ntmps48
     go_wp2
     go_ret
     refine⟨?_,(bself w).alloc (Nat.le_refl _) _⟩
     rw[HR.out]
     exact ret_bl (by simp[Bool.beq_eq_decide_eq])
    ·have c':¬((lv:Int)=0):=by omega
     have HC:Hid (¬lv=0):=c
     clear c
     go_enter Tryz.func48,Tryz.ntmps48
     go_wp2
     go_ret
     refine⟨?_,(bself w).alloc (Nat.le_refl _) _⟩
     rw[HR.out]
     exact ret_bl (by simp[HC.out])
  ·have HR:=Lib.hid (right_no (h:=⟨k,lv,g,e,n⟩) a b)
   have a':¬((k:Int)=2):=by omega
   have b1:¬((k:Int)=1):=by omega
   have b3:¬((k:Int)=3):=by omega
   clear a b
   go_enter Tryz.func48,Tryz.ntmps48
   go_wp2
   go_ret
   refine⟨?_,(bself w).alloc (Nat.le_refl _) _⟩
   rw[HR.out]
   rfl
end Go.Proofs.YtchjknbideoieaaGreatDoor
namespace Go.Proofs.YtchjknbideoieaaGreatDoor
set_option maxRecDepth 100000
set_option maxHeartbeats 8000000
open Go.RowKit
theorem OB.litV {base:Nat} (W:World) (l:List UInt8) (cs:Array Value) (hu:cs=(bv l).toArray) {g n:Nat} (hg:g=W.heap.size) (hn:n=l.length) (hb:base≤W.heap.size) (hl:l.length≤maxLen):OB (W.alloc (.cells cs 5)) base (.slice (some ⟨g,0,none⟩) n n) l:=by
 subst hu;subst hg;subst hn
 exact OB.lit W l hb hl
theorem SB.litV {B:Nat} (W:World) (l:List UInt8) (cs:Array Value) (hu:cs=(bv l).toArray) {g n:Nat} (hg:g=W.heap.size) (hn:n=l.length) (hb:g<B) (hl:l.length≤maxLen):SB (W.alloc (.cells cs 5)) B (.slice (some ⟨g,0,none⟩) n n) l:=by
 have h:OB _ 0 _ _:=OB.litV W l cs hu hg hn (Nat.zero_le _) hl
 exact Sl.more h.sb (by simp;omega)
theorem two_b {k lv:Nat} (h1:k<256) (h2:lv<256):#[Value.int .u8 (k:Int),.int .u8 (lv:Int)]=(bv [UInt8.ofNat k,UInt8.ofNat lv]).toArray:=by
 simp[bv,u8v,UInt8.toNat_ofNat']
 omega
def layP (h:Hd):Nat→List UInt8
 | 0=>sTant++[UInt8.ofNat h.k,UInt8.ofNat h.lv]
 | 1=>sTant++[UInt8.ofNat h.k,UInt8.ofNat h.lv]++fix h.g 8
 | 2=>sTant++[UInt8.ofNat h.k,UInt8.ofNat h.lv]++fix h.g 8++fix h.e 8
 | _=>layH h
theorem layP_len (h:Hd) (i:Nat):(layP h i).length≤30:=by
 unfold layP
 split <;> simp[sTant,fix_length,layH_len]
theorem run_idx3 (a b c:Nat) (i:Nat) (hi:i<3) (w:World):(Instr.index 167 (.agg #[.int .u64 (a:Int),.int .u64 (b:Int),.int .u64 (c:Int)]) (.int .i64 (i:Int))).run Tryz.prog w=.ok (.int .u64 ((if i=0 then a else if i=1 then b else c:Nat):Int)) w:=by
 have h:=Tryz.underlying167
 have e:i=0∨i=1∨i=2:=by omega
 rcases e with rfl|rfl|rfl <;> simp[Instr.index,run_underlying h,asIntOf,go_sem]
section
variable {ops:Array Oper} {rest:List Oper} {o:Oper} {a:Act} {Q:Exit→Act→World→Prop} {w:World}
theorem wl_idx3 (hgd:Region.wanted o (yielded ops a.tmps)=true) (x y:Operand) (ho:o.op=.index 167 x y) (n0 n1 n2:Nat) (i:Nat) (hi:i<3) (hx:a.eval x=.agg #[.int .u64 (n0:Int),.int .u64 (n1:Int),.int .u64 (n2:Int)]) (hy:a.eval y=.int .i64 (i:Int))
  (h:wpList Tryz.prog ops Q rest (a.put o.dst (.int .u64 ((if i=0 then n0 else if i=1 then n1 else n2:Nat):Int))) w):wpList Tryz.prog ops Q (o::rest) a w:=by
 refine wl_of hgd fun K hK=>?_
 unfold Oper.wp execOp
 simp only[ho,hx,hy,Sem.run_bind,Sem.run_pure,Result.andThen_ok,run_idx3 n0 n1 n2 i hi]
 exact hK _ _ h
end
section
variable {ops:Array Oper} {rest:List Oper} {o:Oper} {a:Act} {Q:Exit→Act→World→Prop} {w:World}
theorem wl_appF (hgd:Region.wanted o (yielded ops a.tmps)=true) (s x:Operand)
  (ho:o.op=.call { callee:=.builtin .append,args:=#[s,x],argTypes:=#[56,56] })
  (l:List UInt8) {g n:Nat} (hs:a.eval s=.slice (some ⟨g,0,none⟩) n n) (hn:n=l.length) (hold:∀j u,(bv l)[j]? = some u→w.cell? ⟨g,0+j,none⟩=some u)
  (B:Nat) (u:Value) (m:List UInt8) (hx:a.eval x=u) (hr:SB w B u m) (hm:0<m.length) (hlen:l.length+m.length≤140737488355328)
  (h:∀v' w',OB w' w.heap.size v' (l++m)→Below w.heap.size w w'→wpList Tryz.prog ops Q rest (a.put o.dst v') w'):wpList Tryz.prog ops Q (o::rest) a w:=by
 subst hn
 obtain⟨i0,hi0,hz0,hz1,hz2⟩:=info_parts infoB
 obtain⟨A,c,rfl,hc1,hc2,hr⟩:=hr
 obtain⟨b,of,rfl,hb,hcell⟩:=hr.at_ hm
 have hrun:=run_append_grow (P:=Tryz.prog) w 56 o.type 5 i0 _ Tryz.underlying56 hi0 hz0 ⟨g,0,none⟩ l.length l.length (bv l) (by rw[bv_length,hz1,Nat.mul_one]) (fun j v hj=>by rw[add_lit0];exact hold j v hj)
  ⟨b,of,none⟩ m.length c (bv m) (by rw[bv_length,hz1,Nat.mul_one]) (fun j v hj=>by rw[add_lit0];exact hcell j v hj) (by omega) (by omega) (by rw[hz2];exact growslice_fits (by omega) (by omega))
 have hge:=grownCap_ge w (l.length+m.length) l.length 5
 have hcm:grownCap w (l.length+m.length) l.length 5≤maxLen:=grownCap_le_maxLen w (l.length+m.length) l.length 5 (by simp only[maxLen];omega)
 refine wl_of hgd fun K hK=>?_
 unfold Oper.wp execOp
 simp only[ho,resolve,invoke,builtin,Sem.run_bind,Sem.run_pure,Result.andThen_ok,List.map_toArray,List.map_cons,List.map_nil,hs,hx,hrun]
 refine hK _ _ (h _ _ ?_ ((Below.refl _ _).drew.alloc (Nat.le_refl _) _))
 unfold OB
 have hlen2:(bv (l++m)).length=(l++m).length*1:=by rw[bv_length,Nat.mul_one]
 refine⟨hlen2,.inr ⟨w.heap.size,_,_,by rw[List.length_append],Nat.le_refl _,heap_alloc_new w.drew _,?_,hcm,?_,?_⟩⟩
 ·rw[List.length_append];exact hge
 ·simp only[Array.size_append,List.size_toArray,size_zeroCells,bv_length,Nat.mul_one]
  rw[show (Value.int .u8 0).cells.size=1 from rfl]
  omega
 ·rw[bv_append,Array.toList_append,Array.toList_append,List.length_append,Nat.mul_one]
  exact List.take_left' (by simp[bv_length])
end
theorem kLay_any (h:Hd) (w:World) (ok:h.ok) :
  Calls Tryz.prog 51 #[hdV h] w fun e w'=>∃r,e=.returned r∧OB w' w.heap.size r (layH h)∧Below w.heap.size w w':=by
 obtain⟨k,lv,g,e,n⟩:=h
 have hP:=Lib.hid (layP_len ⟨k,lv,g,e,n⟩)
 obtain⟨h1,h2,h3,h4,h5⟩:=ok
 simp only at h1 h2 h3 h4 h5
 have htwo:=Lib.hid (two_b h1 h2)
 go_enter Tryz.func51,Tryz.ntmps51
 obtain⟨W1,hW1⟩:∃W1:World,W1=w.alloc (.cells #[.int .u8 (k:Int),.int .u8 (lv:Int),.int .u64 (g:Int),.int .u64 (e:Int),.int .u64 (n:Int)] 65):=⟨_,rfl⟩
 have b1:Below w.heap.size w W1:=by rw[hW1];exact balloc (bself w) _
 have z1:W1.heap.size=w.heap.size+1:=by rw[hW1];simp
 have x1:=Joins.run_convert_bytes_const_at (P:=Tryz.prog) W1 56 5 #[.int .u8 116,.int .u8 97,.int .u8 110,.int .u8 116] 4 4 (w.heap.size+1) z1.symm Tryz.underlying56 Tryz.underlying5
 rw[hW1] at x1
 have hA:Hid (∀(v:Value) (w2:World),OB w2 (((W1.alloc (.cells #[.int .u8 116,.int .u8 97,.int .u8 110,.int .u8 116] 5 (4,5))).alloc (.cells #[.int .u8 (k:Int),.int .u8 (lv:Int)] 5)).heap.size) v (sTant++[UInt8.ofNat k,UInt8.ofNat lv]) →
   Below (((W1.alloc (.cells #[.int .u8 116,.int .u8 97,.int .u8 110,.int .u8 116] 5 (4,5))).alloc (.cells #[.int .u8 (k:Int),.int .u8 (lv:Int)] 5)).heap.size) ((W1.alloc (.cells #[.int .u8 116,.int .u8 97,.int .u8 110,.int .u8 116] 5 (4,5))).alloc (.cells #[.int .u8 (k:Int),.int .u8 (lv:Int)] 5)) w2 →
   OB w2 w.heap.size v (sTant++[UInt8.ofNat k,UInt8.ofNat lv])∧Below w.heap.size w w2∧w2.cell? ⟨w.heap.size,2,none⟩=some (.int .u64 (g:Int))∧w2.cell? ⟨w.heap.size,3,none⟩=some (.int .u64 (e:Int))∧w2.cell? ⟨w.heap.size,4,none⟩=some (.int .u64 (n:Int))):=Lib.hid (fun v w2 ho hb=>by
  have hz:(((W1.alloc (.cells #[.int .u8 116,.int .u8 97,.int .u8 110,.int .u8 116] 5 (4,5))).alloc (.cells #[.int .u8 (k:Int),.int .u8 (lv:Int)] 5)).heap.size)=w.heap.size+3:=by simp[z1]
  have hh:w2.heap[w.heap.size]? = some (.cells #[.int .u8 (k:Int),.int .u8 (lv:Int),.int .u64 (g:Int),.int .u64 (e:Int),.int .u64 (n:Int)] 65 (0,0)):=by
   rw[hb.block _ (by omega),heap_alloc_old _ _ (by simp[z1];omega),heap_alloc_old _ _ (by omega),hW1]
   exact heap_alloc_new w _
  exact⟨ho.rebase (by omega),(balloc (balloc b1 _) _).trans (hb.mono (by omega)),cell_of_row w2 _ 2 _ _ _ hh,cell_of_row w2 _ 3 _ _ _ hh,cell_of_row w2 _ 4 _ _ _ hh⟩)
 have hOld:Hid (∀j u,(bv sTant)[j]? = some u→((W1.alloc (.cells #[.int .u8 116,.int .u8 97,.int .u8 110,.int .u8 116] 5 (4,5))).alloc (.cells #[.int .u8 (k:Int),.int .u8 (lv:Int)] 5)).cell? ⟨w.heap.size+1,0+j,none⟩=some u):=Lib.hid (fun j u hu=>by
  have hh:((W1.alloc (.cells #[.int .u8 116,.int .u8 97,.int .u8 110,.int .u8 116] 5 (4,5))).alloc (.cells #[.int .u8 (k:Int),.int .u8 (lv:Int)] 5)).heap[w.heap.size+1]? = some (.cells #[.int .u8 116,.int .u8 97,.int .u8 110,.int .u8 116] 5 (4,5)):=by
   rw[heap_alloc_old _ _ (by simp[z1]),←z1];exact heap_alloc_new W1 _
  rw[Joins.cell_of_block hh,Nat.zero_add]
  rw[←hu,show (#[.int .u8 116,.int .u8 97,.int .u8 110,.int .u8 116]:Array Value)=(bv sTant).toArray from rfl,List.getElem?_toArray])
 rw[hW1] at hA hOld
 clear hW1 b1 z1 W1
 go_wp2_with (at_builtin;refine wl_appF rfl (.tmp 7) (.tmp 12) rfl sTant (g:=w.heap.size+1) (n:=4) rfl rfl hOld.out _ _ [UInt8.ofNat k,UInt8.ofNat lv] rfl (SB.litV _ _ _ htwo.out (by simp) rfl (Nat.lt_succ_self _) (by simp[maxLen])) (by simp) (by simp[sTant]) ?_;intro v2 w2 hown2 hb2;obtain⟨ho2,hb2',c2,c3,c4⟩:=hA.out v2 w2 hown2 hb2;clear hown2 hb2)
 clear x1 hA hOld htwo c2 c3 c4
 have HL:Hid (∀(W:World) (v:Value) (l:List UInt8) (x:Nat),OB W w.heap.size v l→w.heap.size≤W.heap.size→l.length≤30→x<18446744073709551616→Calls Tryz.prog 60 #[v,.int .u64 (x:Int),.int .i64 8] W fun e w'=>∃r,e=.returned r∧OB w' w.heap.size r (l++fix x 8)∧Below W.heap.size W w'):=Lib.hid (fun W v l x ho hz hl hx=>(cFix_any v l x 8 W ho.sb (by omega) hx (by omega) (by omega)).mono (by rintro e w' ⟨r,rfl,h1,h2⟩;exact⟨r,rfl,h1.rebase hz,h2⟩))
 go_loopw [3,5,21] (fun v x i wr=>∃j:Nat,i=.int .i64 j∧j≤3∧OB wr w.heap.size v (layP ⟨k,lv,g,e,n⟩ j)∧Below w.heap.size w wr) (fun _ _ i _=>3-(intOf i).toNat)
 case atStart=>exact⟨0,rfl,by omega,ho2,hb2'⟩
 case round =>
  obtain⟨j,rfl,hj,hown,hbr⟩:=hrel
  have hsz:=hbr.size
  have hj':j=0∨j=1∨j=2∨j=3:=by omega
  rcases hj' with rfl|rfl|rfl|rfl
  ·go_wp2_with (first|(refine wl_idx3 (o:=⟨some 23,_,_,_,_,_⟩) rfl (.tmp 20) (.tmp 21) rfl g e n 0 (by omega) rfl rfl ?_;simp only[if_true,if_false,Nat.reduceEqDiff])|(go_at_call 60;refine (HL.out _ _ _ g hown hsz (hP.out _) h3).mono ?_;rintro _ w3 ⟨r,rfl,ho3,hb3⟩))
   go_roundw
   case rel=>exact⟨1,rfl,by omega,ho3,hbr.trans (hb3.mono hsz)⟩
   case measure=>simp[intOf]
  ·go_wp2_with (first|(refine wl_idx3 (o:=⟨some 23,_,_,_,_,_⟩) rfl (.tmp 20) (.tmp 21) rfl g e n 1 (by omega) rfl rfl ?_;simp only[if_true,if_false,Nat.one_ne_zero])|(go_at_call 60;refine (HL.out _ _ _ e hown hsz (hP.out _) h4).mono ?_;rintro _ w3 ⟨r,rfl,ho3,hb3⟩))
   go_roundw
   case rel=>exact⟨2,rfl,by omega,ho3,hbr.trans (hb3.mono hsz)⟩
   case measure=>simp[intOf]
  ·go_wp2_with (first|(refine wl_idx3 (o:=⟨some 23,_,_,_,_,_⟩) rfl (.tmp 20) (.tmp 21) rfl g e n 2 (by omega) rfl rfl ?_;simp only[if_false,Nat.reduceEqDiff])|(go_at_call 60;refine (HL.out _ _ _ n hown hsz (hP.out _) h5).mono ?_;rintro _ w3 ⟨r,rfl,ho3,hb3⟩))
   go_roundw
   case rel=>exact⟨3,rfl,by omega,ho3,hbr.trans (hb3.mono hsz)⟩
   case measure=>simp[intOf]
  ·go_wp2
   go_ret
   exact⟨_,rfl,hown,hbr⟩
end Go.Proofs.YtchjknbideoieaaGreatDoor
namespace Go.Proofs.YtchjknbideoieaaGreatDoor
set_option maxRecDepth 100000
set_option maxHeartbeats 8000000
open Go.RowKit
abbrev nonA (l:List UInt8):Array Value:=(bv l).toArray
abbrev rowN (c:Array Value):Obj:=.cells c 173 (0,0)
theorem nonA_size (l:List UInt8):(nonA l).size=l.length:=by simp[bv]
theorem nonA_one (l:List UInt8):∀v∈(nonA l).toList,v.oneCell'=true:=fun v hv=>bv_one l v (by simpa using hv)
theorem non_cell {w:World} {D:Nat} {l:List UInt8} (h:w.heap[D]? = some (rowN (nonA l))) {k:Nat} (hk:k<l.length) :
  w.cell? ⟨D,k,none⟩=some (u8v l[k])∧w.frozen? ⟨D,k,none⟩=false∧∀b:UInt8,(w.setCell ⟨D,k,none⟩ (u8v b)).heap[D]? = some (rowN (nonA (l.set k b))):=by
 refine⟨?_,by simp[World.frozen?,h],fun b=>?_⟩
 ·rw[cell_of_row _ _ k _ _ _ h]
  have:=bv_get l k hk
  simpa using this
 simp only[World.setCell,Array.getElem?_modify,h]
 simp[bv,List.map_set]
def nonUp (p k:Nat):List UInt8:=(fix p 8).take k++List.replicate (12-k) 0
theorem nonUp_len (p k:Nat) (hk:k≤8):(nonUp p k).length=12:=by unfold nonUp;simp[fix_length];omega
theorem nonUp_8 (p:Nat):nonUp p 8=nonceOf p:=by
 unfold nonUp nonceOf
 rw[List.take_of_length_le (by rw[fix_length];exact Nat.le_refl _)]
 rfl
theorem fix_at (n:Nat):∀(m k:Nat),k<m→(fix n m)[k]? = some (UInt8.ofNat (n/256 ^ k)):=by
 intro m
 induction m generalizing n with
 | zero=>intro k h;omega
 | succ m ih =>
  intro k h
  rw[fix]
  cases k with
  | zero=>simp
  | succ k =>
   rw[List.getElem?_cons_succ,ih (n/256) k (by omega),Nat.div_div_eq_div_mul,Nat.pow_succ,Nat.mul_comm 256]
theorem nonUp_step (p k:Nat) (hk:k<8):(nonUp p k).set k (UInt8.ofNat (p/256 ^ k))=nonUp p (k+1):=by
 have ht:(fix p 8).take (k+1)=(fix p 8).take k++[UInt8.ofNat (p/256 ^ k)]:=by
  have h:=fix_at p 8 k hk
  obtain⟨h1,h2⟩:=List.getElem?_eq_some_iff.1 h
  rw[List.take_succ_eq_append_getElem h1,h2]
 unfold nonUp
 rw[ht,List.set_append_right _ _ (by rw[List.length_take];omega),List.length_take,fix_length,Nat.min_eq_left (by omega),Nat.sub_self,show 12-k=(12-(k+1))+1 from by omega,List.replicate_succ,List.set_cons_zero,List.append_assoc]
 rfl
theorem non_byte (p k:Nat):Value.int .u8 ((p:Int)/2 ^ (8*k)%256)=u8v (UInt8.ofNat (p/256 ^ k)):=by
 have e:(2:Int) ^ (8*k)=((256 ^ k:Nat):Int):=by rw[show (256:Nat)=2 ^ 8 from rfl,←Nat.pow_mul];simp
 unfold u8v
 rw[e,UInt8.toNat_ofNat',Int.natCast_emod,Int.natCast_ediv]
 rfl
section
variable {ops:Array Oper} {rest:List Oper} {o:Oper} {a:Act} {Q:Exit→Act→World→Prop} {w:World} {K:Act→World→Prop}
theorem wl_loadN (hgd:o.guard=none) (x:Operand) (ho:o.op=.load 173 x) (g:Nat) (hx:a.eval x=.pointer (some ⟨g,0,none⟩)) (cs:Array Value) (hg:w.heap[g]? = some (rowN cs)) (hn:cs.size=12)
  (h:wpList Tryz.prog ops Q rest (a.put o.dst (.agg cs)) w):wpList Tryz.prog ops Q (o::rest) a w :=
 wpList_load_row hgd 173 x ho g hx _ cs (0,0) _ hg Tryz.underlying173 rfl (by rw[hn];kernel_rfl) h
theorem wl_storeN (hgd:o.guard=none) (p x:Operand) (ho:o.op=.store 173 p x) (g:Nat) (hp:a.eval p=.pointer (some ⟨g,0,none⟩)) (c c':Array Value) (hx:a.eval x=.agg c') (hg:w.heap[g]? = some (rowN c)) (hn:c.size=12) (hn':c'.size=12) (h1:∀v∈c'.toList,v.oneCell'=true)
  (h:wpList Tryz.prog ops Q rest (a.put o.dst undef) (w.setRow g c')):wpList Tryz.prog ops Q (o::rest) a w:=by
 have hz:(Tryz.prog.info? 173).map (·.size)=some c'.size:=by rw[hn'];kernel_rfl
 refine wpList_plain hgd fun _ hK=>?_
 unfold Oper.wp execOp
 simp only[ho,hp,hx,Instr.storeAt,Instr.sureAddr,Sem.run_bind,Sem.run_pure,Result.andThen_ok,run_storeVar_row w g 173 173 c c' hg hz (by rw[hn,hn']) (Array.all_eq_true_iff_forall_mem.2 (fun v hv=>h1 v (by simpa using hv))),Oper.upon]
 exact hK _ _ h
end
theorem res_non {fn:Func} {p:Tmp} (h:fn.results=#[.cell p 173]) (tmps:Array Value) (w:World) (g:Nat) (cs:Array Value) (hp:tmps.getD p undef=.pointer (some ⟨g,0,none⟩)) (hg:w.heap[g]? = some (rowN cs)) (hn:cs.size=12) :
  (results fn tmps).run Tryz.prog w=.ok (.agg cs) w :=
 results_cell_row h tmps w g _ cs (0,0) _ hp hg Tryz.underlying173 rfl (by rw[hn];kernel_rfl)
theorem kNonceC (p:Nat) (_hp:p<18446744073709551616) (c:Array Value) (hc:nonA (nonceOf p)=c) (w:World) :
  Calls Tryz.prog 94 #[.int .u64 p] w fun e w'=>e=.returned (.agg c)∧Below w.heap.size w w':=by
 have HN:Hid (c.size=12∧∀v∈c.toList,v.oneCell'=true):=Lib.hid (by rw[←hc];exact⟨(nonA_size _).trans (nonce_len p),nonA_one _⟩)
 have HC:Hid (nonA (nonUp p 8)=c):=Lib.hid (by rw[nonUp_8,hc])
 clear hc
 go_enter Tryz.func94,Tryz.ntmps94
 go_upto_region 2 with fail
 generalize hWA:World.alloc _ _=wA
 have rN:wA.heap[w.heap.size+1]? = some (rowN (nonA (nonUp p 0))):=by rw[←hWA];exact (heap_alloc2_new w _ _).trans (by kernel_rfl)
 have rR:wA.heap[w.heap.size]? = some (rowN (nonA (nonUp 0 0))):=by rw[←hWA];exact (heap_alloc2_old w _ _).trans (by kernel_rfl)
 have bA:Below w.heap.size w wA:=by rw[←hWA];exact balloc (balloc (bself w) _) _
 clear hWA
 go_wp2
 go_loopw [4,5] (fun x i wr=>∃k:Nat,i=.int .i64 k∧k≤8∧Hid (wr.heap[w.heap.size+1]? = some (rowN (nonA (nonUp p k)))∧wr.heap[w.heap.size]? = some (rowN (nonA (nonUp 0 0))))∧Below w.heap.size w wr) (fun _ i _=>8-(intOf i).toNat)
 case atStart=>exact⟨0,rfl,by omega,Lib.hid ⟨rN,rR⟩,bA⟩
 case round =>
  obtain⟨k,rfl,hk,hr,hbr⟩:=hrel
  by_cases hlt:k<8
  ·obtain⟨c0,f0,hset⟩:=non_cell hr.out.1 (k:=k) (by rw[nonUp_len p k hk];omega)
   have hb:=Lib.hid (non_byte p k)
   have hst:=Lib.hid (hset (UInt8.ofNat (p/256 ^ k)))
   have h2:=Lib.hid (hr.out.2)
   clear hset hr
   go_wp2
   rw[hb.out]
   go_roundw
   case rel =>
    refine⟨k+1,by go_num,by omega,Lib.hid ⟨?_,?_⟩,hbr.setCell (by simp) _⟩
    ·rw[←nonUp_step p k hlt];exact hst.out
    ·rw[←h2.out];exact Below.heap_setCell _ _ _ _ (by simp)
   case measure=>simp[intOf];omega
  ·have h8:k=8:=by omega
   subst h8
   obtain⟨hr1,hr2⟩:=hr.out
   rw[HC.out] at hr1
   go_wp2_with (first|(refine wl_loadN rfl (.tmp 3) rfl _ rfl c hr1 HN.out.1 ?_)|(refine wl_storeN rfl (.tmp 2) (.tmp 16) rfl _ rfl _ c rfl hr2 ((nonA_size _).trans (nonUp_len 0 0 (by omega))) HN.out.1 HN.out.2 ?_))
   exact bodyPost_ret (v:=.agg c) (res_non Tryz.results94 _ _ _ c rfl (setRow_heap _ _ _ _ _ _ hr2) HN.out.1) rfl ⟨rfl,below_setRow hbr (Nat.le_refl _) _⟩
end Go.Proofs.YtchjknbideoieaaGreatDoor
