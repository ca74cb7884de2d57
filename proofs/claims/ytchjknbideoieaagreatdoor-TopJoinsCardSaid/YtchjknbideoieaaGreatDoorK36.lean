/- What is proved here: what Take of package name and of the reference comes to (the head that stands ahead of bytes), at this seat's numbers. Condition: the bytes' length. -/
import Derived.Test.YtchjknbideoieaaGreatDoorK09
import Derived.Test.YtchjknbideoieaaGreatDoorK08
import Derived.Test.YtchjknbideoieaaGreatDoorK05
namespace Go.Proofs.YtchjknbideoieaaGreatDoor
set_option maxRecDepth 100000
set_option maxHeartbeats 8000000
open Go.RowKit
abbrev takeHV (l:List UInt8):Value:=.tuple #[hdV (takeH l).1,.int .i64 ((takeH l).2:Int)]
def tl24 (l:List UInt8):List UInt8:=(l.take 30).drop 6
theorem tl24_len (l:List UInt8) (h:30≤l.length):(tl24 l).length=24:=by unfold tl24;rw[List.length_drop,List.length_take];omega
theorem tl24_at (l:List UInt8) (j:Nat) (hj:j+8≤24):((tl24 l).drop j).take 8=(l.drop (6+j)).take 8:=by
 unfold tl24
 rw[List.drop_drop,List.drop_take,List.take_take,Nat.min_eq_left (by omega)]
theorem sFix_24 (l:List UInt8) (h:30≤l.length) (j:Nat) (hj:j+8≤24):sFix 8 ((tl24 l).drop j,0)=(leN ((l.drop (6+j)).take 8),(tl24 l).drop (j+8),0):=by
 have hl:=tl24_len l h
 unfold sFix
 rw[if_neg (by simp),if_neg (by omega),if_neg (by simp only[List.length_drop];omega)]
 show (leN (((tl24 l).drop j).take 8),((tl24 l).drop j).drop 8,0)=_
 rw[tl24_at l j hj,List.drop_drop]
def HdAt (w:World) (H:Nat) (h:Hd):Prop:=w.heap[H]? = some (.cells #[.int .u8 (h.k:Int),.int .u8 (h.lv:Int),.int .u64 (h.g:Int),.int .u64 (h.e:Int),.int .u64 (h.n:Int)] 65 (0,0))
theorem HdAt.cells {w:World} {H:Nat} {h:Hd} (a:HdAt w H h):w.cell? ⟨H,0,none⟩=some (.int .u8 (h.k:Int))∧w.cell? ⟨H,1,none⟩=some (.int .u8 (h.lv:Int))∧w.cell? ⟨H,2,none⟩=some (.int .u64 (h.g:Int))∧w.cell? ⟨H,3,none⟩=some (.int .u64 (h.e:Int))∧w.cell? ⟨H,4,none⟩=some (.int .u64 (h.n:Int)) :=
 ⟨cell_of_row w H 0 _ _ _ a,cell_of_row w H 1 _ _ _ a,cell_of_row w H 2 _ _ _ a,cell_of_row w H 3 _ _ _ a,cell_of_row w H 4 _ _ _ a⟩
theorem HdAt.free {w:World} {H:Nat} {h:Hd} (a:HdAt w H h) (k:Nat):w.frozen? ⟨H,k,none⟩=false:=by unfold HdAt at a;simp[World.frozen?,a]
structure TkSt (X:World→Prop) (w w':World) (H:Nat) (h:Hd):Prop where
 hd:HdAt w' H h
 rd:X w'
 res:HdAt w' w.heap.size hd0
 be:Below w.heap.size w w'
 lt:w.heap.size<H
theorem TkSt.call {X X':World→Prop} {w w2 w3:World} {H R:Nat} {h:Hd} (a:TkSt X w w2 H h) (hg:w2.grownBy w3 (some R)) (hR:R≠H) (hw:w.heap.size<R) (hx:X' w3):TkSt X' w w3 H h:=by
 have z2:H<w2.heap.size:=(Array.getElem?_eq_some_iff.1 a.hd).1
 have zr:w.heap.size<w2.heap.size:=(Array.getElem?_eq_some_iff.1 a.res).1
 refine⟨(hg.block H z2 (fun e=>by injection e with e;exact hR e.symm)).trans a.hd,hx,(hg.block _ zr (fun e=>by injection e with e;omega)).trans a.res,below_grown a.be hg a.be.size (fun g e=>by injection e with e;omega),a.lt⟩
section
variable {X:World→Prop} {w w3:World} {H:Nat} {h:Hd} (a:TkSt X w w3 H h) (hX:∀W,X W→∀i u,X (W.setCell ⟨H,i,none⟩ u))
include a hX
theorem TkSt.set (i:Nat) (u:Value) (h':Hd) (hh:HdAt (w3.setCell ⟨H,i,none⟩ u) H h'):TkSt X w (w3.setCell ⟨H,i,none⟩ u) H h' :=
 ⟨hh,hX _ a.rd _ _,(Below.heap_setCell _ _ _ _ (Nat.ne_of_lt a.lt)).trans a.res,a.be.setCell (Nat.le_of_lt a.lt) _,a.lt⟩
theorem TkSt.setG (g:Nat):TkSt X w (w3.setCell ⟨H,2,none⟩ (.int .u64 (g:Int))) H ⟨h.k,h.lv,g,h.e,h.n⟩:=a.set hX _ _ _ (by have:=a.hd;unfold HdAt at this ⊢;simp[World.setCell,Array.getElem?_modify,this])
theorem TkSt.setE (g:Nat):TkSt X w (w3.setCell ⟨H,3,none⟩ (.int .u64 (g:Int))) H ⟨h.k,h.lv,h.g,g,h.n⟩:=a.set hX _ _ _ (by have:=a.hd;unfold HdAt at this ⊢;simp[World.setCell,Array.getElem?_modify,this])
theorem TkSt.setN (g:Nat):TkSt X w (w3.setCell ⟨H,4,none⟩ (.int .u64 (g:Int))) H ⟨h.k,h.lv,h.g,h.e,g⟩:=a.set hX _ _ _ (by have:=a.hd;unfold HdAt at this ⊢;simp[World.setCell,Array.getElem?_modify,this])
end
theorem TkSt.fin {X:World→Prop} {w w8 w9:World} {H:Nat} {h:Hd} (a:TkSt X w w8 H h) (hb:Below w8.heap.size w8 w9) :
  (w9.cell? ⟨H,0,none⟩=some (.int .u8 (h.k:Int))∧w9.cell? ⟨H,1,none⟩=some (.int .u8 (h.lv:Int))∧w9.cell? ⟨H,2,none⟩=some (.int .u64 (h.g:Int))∧w9.cell? ⟨H,3,none⟩=some (.int .u64 (h.e:Int))∧w9.cell? ⟨H,4,none⟩=some (.int .u64 (h.n:Int))) ∧
  ((w9.cell? ⟨w.heap.size,0,none⟩=some (.int .u8 0)∧w9.cell? ⟨w.heap.size,1,none⟩=some (.int .u8 0)∧w9.cell? ⟨w.heap.size,2,none⟩=some (.int .u64 0)∧w9.cell? ⟨w.heap.size,3,none⟩=some (.int .u64 0)∧w9.cell? ⟨w.heap.size,4,none⟩=some (.int .u64 0)) ∧
   (w9.frozen? ⟨w.heap.size,0,none⟩=false∧w9.frozen? ⟨w.heap.size,1,none⟩=false∧w9.frozen? ⟨w.heap.size,2,none⟩=false∧w9.frozen? ⟨w.heap.size,3,none⟩=false∧w9.frozen? ⟨w.heap.size,4,none⟩=false))∧Below w.heap.size w w9:=by
 have z2:H<w8.heap.size:=(Array.getElem?_eq_some_iff.1 a.hd).1
 have zr:w.heap.size<w8.heap.size:=(Array.getElem?_eq_some_iff.1 a.res).1
 have h1:HdAt w9 H h:=(hb.block H z2).trans a.hd
 have h2:HdAt w9 w.heap.size hd0:=(hb.block _ zr).trans a.res
 exact⟨h1.cells,⟨h2.cells,h2.free 0,h2.free 1,h2.free 2,h2.free 3,h2.free 4⟩,a.be.trans (hb.mono a.be.size)⟩
theorem set5 {w w':World} {B Q:Nat} (h:Below B w w') (hQ:B≤Q) (a b c d e:Value):Below B w (((((w'.setCell ⟨Q,0,none⟩ a).setCell ⟨Q,1,none⟩ b).setCell ⟨Q,2,none⟩ c).setCell ⟨Q,3,none⟩ d).setCell ⟨Q,4,none⟩ e) :=
 ((((h.setCell hQ _).setCell hQ _).setCell hQ _).setCell hQ _).setCell hQ _
theorem head4 (l:List UInt8) {b o:Nat} {w:World} (hcell:∀j u,(bv l)[j]? = some u→w.cell? ⟨b,o+j,none⟩=some u) (j:Nat) (hj:j<l.length):w.cell? ⟨b,o+j,none⟩=some (.int .u8 ((l.getD j 0).toNat:Int)) :=
 hcell j _ (by rw[bv_get l j hj];simp[List.getD_eq_getElem?_getD,List.getElem?_eq_getElem hj])
theorem take_bad4 {l:List UInt8} (h:¬l.length<30) (hq:¬l.take 4=sTant):takeHV l=.tuple #[.agg #[.int .u8 0,.int .u8 0,.int .u64 0,.int .u64 0,.int .u64 0],.int .i64 70]:=by
 unfold takeHV takeH;rw[if_neg h,if_neg (fun x=>hq x.1)];rfl
theorem take_badR {l:List UInt8} {h:Hd} (h30:¬l.length<30) (hh:h=readH l) (hq:rightH h=false):takeHV l=.tuple #[.agg #[.int .u8 0,.int .u8 0,.int .u64 0,.int .u64 0,.int .u64 0],.int .i64 70]:=by
 unfold takeHV takeH;rw[if_neg h30,if_neg (fun x=>by rw[←hh,hq] at x;simp at x)];rfl
theorem take_good {l:List UInt8} {h:Hd} (h30:¬l.length<30) (hh:h=readH l) (h4:l.take 4=sTant) (hq:rightH h=true):takeHV l=.tuple #[hdV h,.int .i64 0]:=by
 unfold takeHV takeH;rw[if_neg h30,←hh,if_pos ⟨h4,hq⟩];rfl
theorem kTakeH_any (v:Value) (l:List UInt8) (w:World) (hv:SB w w.heap.size v l) (hl:l.length≤140737488355328) :
  Calls Tryz.prog 71 #[v] w fun e w'=>e=.returned (takeHV l)∧Below w.heap.size w w':=by
 obtain⟨A,c,rfl,hc,hm,hr⟩:=hv
 by_cases h30:l.length<30
 ·have HT:Hid (takeHV l=.tuple #[.agg #[.int .u8 0,.int .u8 0,.int .u64 0,.int .u64 0,.int .u64 0],.int .i64 10]):=Lib.hid (by unfold takeHV takeH;rw[if_pos h30];rfl)
  go_enter Tryz.func71,Tryz.ntmps71
  go_wp2
  exact bodyPost_ret (v:=.tuple #[.agg #[.int .u8 0,.int .u8 0,.int .u64 0,.int .u64 0,.int .u64 0],.int .i64 10]) (by simp[results,Tryz.results71,go_sem] <;> rfl) rfl ⟨by rw[HT.out],balloc (bself w) _⟩
 ·obtain⟨b,o,rfl,hb,hcell⟩:=hr.at_ (by omega)
  have hm':c≤9223372036854775807:=by unfold maxLen at hm;omega
  obtain⟨h,hh⟩:∃h,h=readH l:=⟨_,rfl⟩
  obtain⟨k,lv,g,e,n⟩:=h
  have hk:k=(l.getD 4 0).toNat∧lv=(l.getD 5 0).toNat∧g=leN ((l.drop 6).take 8)∧e=leN ((l.drop 14).take 8)∧n=leN ((l.drop 22).take 8):=by
   injection hh with e1 e2 e3 e4 e5
   exact⟨e1,e2,e3,e4,e5⟩
  obtain⟨hk1,hk2,hk3,hk4,hk5⟩:=hk
  have c4:=head4 l hcell 4 (by omega)
  have c5:=head4 l hcell 5 (by omega)
  rw[←hk1] at c4
  rw[←hk2] at c5
  have KS:Hid (∀w',Below w.heap.size w w'→w'.cell? ⟨b,o+4,none⟩=some (.int .u8 (k:Int))∧w'.cell? ⟨b,o+5,none⟩=some (.int .u8 (lv:Int))):=Lib.hid (fun w' h=>⟨(h.cell (by simpa using hb)).trans c4,(h.cell (by simpa using hb)).trans c5⟩)
  clear c4 c5
  have HF:Hid (∀R W x j,leN ((l.drop (6+j)).take 8)=x→j+8≤24→RdrAt W R ((tl24 l).drop j) 0→Calls Tryz.prog 74 #[.pointer (some ⟨R,0,none⟩),.int .i64 8] W fun en w'=>en=.returned (.int .u64 (x:Int))∧RdrAt w' R ((tl24 l).drop (j+8)) 0∧W.grownBy w' (some R)):=Lib.hid (fun R W x j hx hj hrd=>by
   have h:=mFix_any R _ 0 8 W hrd (by omega) (by omega)
   rw[sFix_24 l (by omega) j hj,hx] at h
   exact h)
  have HX:=Lib.hid (And.intro hk3.symm (And.intro hk4.symm hk5.symm))
  have HH:=Lib.hid hh
  clear hk1 hk2 hk3 hk4 hk5 hh
  go_enter Tryz.func71,Tryz.ntmps71
  go_upto_region 4 with (first
   | (refine wl_takeB (o:=⟨some 11,_,_,_,_,_⟩) rfl (.tmp 10) (.const (.int .i64 6)) (.const (.int .i64 30)) rfl (some ⟨b,o,none⟩) c 6 30 w.heap.size .i64 .i64 l rfl rfl rfl (by omega) (by omega) hc hm (hr.alloc (Nat.le_refl _) _) ?_;intro v1 hs1)
   | (go_at_call 73;refine (cNew_any v1 (tl24 l) _ (hs1.more (by simp)) (by rw[tl24_len l (by omega)];omega)).mono ?_;rintro _ w1 ⟨R,rfl,hR,hrd,hb1⟩))
  generalize hWA:World.alloc w _=wA at hrd hb1 hR hs1
  have b1:Below w.heap.size w w1:=by
   have bA:Below w.heap.size w wA:=by rw[←hWA];exact balloc (bself w) _
   exact bstep bA hb1
  have z1:w.heap.size+1≤R:=by rw[←hWA] at hR;simpa using hR
  have r1:HdAt w1 w.heap.size hd0:=by
   unfold HdAt
   rw[hb1.block _ (by rw[←hWA];simp),←hWA];exact heap_alloc_new w _
  have rd1:=hrd.at_
  clear hrd hs1 hb1 hR hWA wA
  have hlt4:(4:Int)<(l.length:Int):=by omega
  have hlt5:(5:Int)<(l.length:Int):=by omega
  refine wp_region_noPanic ?_
  refine wp_region_held_drew (S:=fun w'=>w'.cell? ⟨b,o+4,none⟩=some (.int .u8 (k:Int))∧w'.cell? ⟨b,o+5,none⟩=some (.int .u8 (lv:Int))) (by kernel_rfl) (KS.out _ (bdrew b1)) (fun hHeld=>?_)
  refine rtk 0 ?_
  refine rtk 1 ?_
  refine rtk 2 ?_
  refine rtk 3 ?_
  refine rtk 4 ?_
  refine rtk 5 ?_
  refine rtk 6 ?_
  refine ro 7 (fun K hK=>?_)
  (go_simp)
  refine hK.out _ _ ?_ (fun hHeld=>?_)
  ·exact KS.out _ (balloc (bdrew b1) _)
  clear hK K
  try simp only[Act.put,q1,q2,q3]
  refine ro 8 (fun K hK=>?_)
  (go_simp)
  refine hK.out _ _ ?_ (fun hHeld=>?_)
  ·exact KS.out _ (balloc (bdrew b1) _)
  clear hK K
  try simp only[Act.put,q1,q2,q3]
  refine rdn ?_
  obtain⟨H,hH⟩:∃H,H=w1.heap.size:=⟨_,rfl⟩
  have zR:R<H:=by rw[hH];exact rd1.lt
  have t2:TkSt (fun W=>RdrAt W R (tl24 l) 0) w (w1.alloc (.cells #[.int .u8 (k:Int),.int .u8 (lv:Int),.int .u64 0,.int .u64 0,.int .u64 0] 65)).drew H ⟨k,lv,0,0,0⟩:=by
   refine⟨by rw[hH];exact heap_alloc_new w1 _,(rd1.on (balloc (bself w1) _) (Nat.le_refl _)).drewN 1,?_,bdrew (balloc b1 _),by have:=rd1.lt;omega⟩
   exact (heap_alloc_old w1 _ (by have:=rd1.lt;omega)).trans r1
  rw[←hH]
  generalize World.drew _=w2 at t2 ⊢
  have hXs:∀T W,RdrAt W R T 0→∀i u,RdrAt (W.setCell ⟨H,i,none⟩ u) R T 0:=fun T W hr i u=>hr.far (grown_set (p:=⟨H,i,none⟩) W rfl u) (fun g e=>by have e2:H=g:=(by injection e);omega)
  have KX:=Lib.hid hXs
  clear hXs rd1 r1 hH b1
  clear hHeld
  go_upto_region 6 with (go_at_call 74;refine (HF.out R _ g 0 HX.out.1 (by omega) t2.rd).mono ?_;rintro _ w3 ⟨rfl,hx3,hg3⟩;have t3:=t2.call (X':=fun W=>RdrAt W R ((tl24 l).drop 8) 0) hg3 (Nat.ne_of_lt zR) z1 hx3;obtain⟨_,_,c2,c3,c4⟩:=t3.hd.cells;have f2:=t3.hd.free 2)
  have t4:=t3.setG (fun W h i u=>KX.out _ W h i u) g
  clear t2 t3 hg3 hx3 c2 c3 c4 f2
  generalize World.setCell w3 _ _=w4 at t4 ⊢
  go_upto_region 7 with (go_at_call 74;refine (HF.out R _ e 8 HX.out.2.1 (by omega) t4.rd).mono ?_;rintro _ w5 ⟨rfl,hx5,hg5⟩;have t5:=t4.call (X':=fun W=>RdrAt W R ((tl24 l).drop 16) 0) hg5 (Nat.ne_of_lt zR) z1 hx5;obtain⟨_,_,c2,c3,c4⟩:=t5.hd.cells;have f2:=t5.hd.free 3)
  have t6:=t5.setE (fun W h i u=>KX.out _ W h i u) e
  clear t4 t5 hg5 hx5 c2 c3 c4 f2
  generalize World.setCell w5 _ _=w6 at t6 ⊢
  go_upto_region 8 with (go_at_call 74;refine (HF.out R _ n 16 HX.out.2.2 (by omega) t6.rd).mono ?_;rintro _ w7 ⟨rfl,hx7,hg7⟩;have t7:=t6.call (X':=fun W=>RdrAt W R ((tl24 l).drop 24) 0) hg7 (Nat.ne_of_lt zR) z1 hx7;obtain⟨_,_,c2,c3,c4⟩:=t7.hd.cells;have f2:=t7.hd.free 4)
  have t8:=t7.setN (fun W h i u=>KX.out _ W h i u) n
  clear t6 t7 hg7 hx7 c2 c3 c4 f2
  generalize World.setCell w7 _ _=w8 at t8 ⊢
  obtain⟨⟨x0,x1,x2,x3,x4⟩,⟨⟨y0,y1,y2,y3,y4⟩,v0,v1,v2,v3,v4⟩,bt⟩:=t8.fin (Below.refl _ _)
  simp only at x0 x1 x2 x3 x4
  have g5:(Addr.add ⟨b,o,none⟩ 0)=⟨b,o,none⟩:=by simp[Addr.add]
  have h4l:(l.take 4).length=4:=by rw[List.length_take];omega
  have h4:SB w8 w.heap.size (.slice (some ⟨b,o,none⟩) 4 c) (l.take 4):=by
   have h:=(hr.below bt).take (k:=4) (by omega)
   rw[Nat.mul_one,←bv_take] at h
   refine⟨_,c,by rw[h4l],by omega,hm,?_⟩
   rw[h4l];exact h
  have HR:=Lib.hid (kRight_any ⟨k,lv,g,e,n⟩)
  have hok:=readH_ok l
  rw[←HH.out] at hok
  obtain⟨s4,hs4⟩:∃s4:ByteArray,s4=⟨(l.take 4).toArray⟩:=⟨_,rfl⟩
  by_cases hq:l.take 4=sTant
  ·have hs4':s4=⟨#[116,97,110,116]⟩:=by rw[hs4,hq];rfl
   cases hR:rightH ⟨k,lv,g,e,n⟩ with
   | true =>
    have HT:=Lib.hid (take_good h30 HH.out hq hR)
    have HR2:Hid (∀W,Calls Tryz.prog 48 #[.agg #[.int .u8 (k:Int),.int .u8 (lv:Int),.int .u64 (g:Int),.int .u64 (e:Int),.int .u64 (n:Int)]] W fun en w'=>en=.returned (.bool true)∧Below W.heap.size W w'):=Lib.hid (fun W=>by have:=HR.out W hok;rw[hR] at this;exact this)
    clear HR hok hq hR
    go_wp2_with (first|(refine wl_b2s (o:=⟨some 31,_,_,_,_,_⟩) rfl (.tmp 30) rfl _ rfl _ _ h4 ?_;rw[←hs4,hs4'])|(go_at_call 48;refine (HR2.out _).mono ?_;rintro _ w9 ⟨rfl,hb9⟩;obtain⟨⟨a0,a1,a2,a3,a4⟩,⟨⟨b0,b1,b2,b3,b4⟩,d0,d1,d2,d3,d4⟩,bu⟩:=t8.fin hb9))
    exact bodyPost_ret (v:=.tuple #[.agg #[.int .u8 (k:Int),.int .u8 (lv:Int),.int .u64 (g:Int),.int .u64 (e:Int),.int .u64 (n:Int)],.int .i64 0]) (by simp[results,Tryz.results71,go_sem,b0,b1,b2,b3,b4]) rfl ⟨by rw[HT.out],set5 bu (Nat.le_refl _) _ _ _ _ _⟩
   | false =>
    have HT:=Lib.hid (take_badR h30 HH.out hR)
    have HR2:Hid (∀W,Calls Tryz.prog 48 #[.agg #[.int .u8 (k:Int),.int .u8 (lv:Int),.int .u64 (g:Int),.int .u64 (e:Int),.int .u64 (n:Int)]] W fun en w'=>en=.returned (.bool false)∧Below W.heap.size W w'):=Lib.hid (fun W=>by have:=HR.out W hok;rw[hR] at this;exact this)
    clear HR hok hq hR
    go_wp2_with (first|(refine wl_b2s (o:=⟨some 31,_,_,_,_,_⟩) rfl (.tmp 30) rfl _ rfl _ _ h4 ?_;rw[←hs4,hs4'])|(go_at_call 48;refine (HR2.out _).mono ?_;rintro _ w9 ⟨rfl,hb9⟩;obtain⟨⟨a0,a1,a2,a3,a4⟩,⟨⟨b0,b1,b2,b3,b4⟩,d0,d1,d2,d3,d4⟩,bu⟩:=t8.fin hb9))
    exact bodyPost_ret (v:=.tuple #[.agg #[.int .u8 0,.int .u8 0,.int .u64 0,.int .u64 0,.int .u64 0],.int .i64 70]) (by simp[results,Tryz.results71,go_sem,b0,b1,b2,b3,b4]) rfl ⟨by rw[HT.out],set5 bu (Nat.le_refl _) _ _ _ _ _⟩
  ·have HT:=Lib.hid (take_bad4 h30 hq)
   have ge:(l.take 4==[116,97,110,116])=false:=by rw[beq_eq_false_iff_ne];exact hq
   have ge':¬(l.take 4=[116,97,110,116]):=hq
   clear HR hok hq hs4 s4
   go_wp2_with (first|(refine wl_b2s (o:=⟨some 31,_,_,_,_,_⟩) rfl (.tmp 30) rfl _ rfl _ _ h4 ?_))
   exact bodyPost_ret (v:=.tuple #[.agg #[.int .u8 0,.int .u8 0,.int .u64 0,.int .u64 0,.int .u64 0],.int .i64 70]) (by simp[results,Tryz.results71,go_sem,y0,y1,y2,y3,y4]) rfl ⟨by rw[HT.out],set5 bt (Nat.le_refl _) _ _ _ _ _⟩
end Go.Proofs.YtchjknbideoieaaGreatDoor
