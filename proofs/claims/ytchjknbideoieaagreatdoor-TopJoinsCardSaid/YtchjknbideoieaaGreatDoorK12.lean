/- What is proved here: what State.Sum of package sha comes to, at this seat's numbers. Conditions: the bytes' length; the table of constants. what State.Sum of package sha comes to, at this seat's numbers. Conditions: the bytes' length; the table of constants. what State.Sum of package sha comes to at a nil state; what sha.Sum comes to, at this seat's numbers. Conditions: the .. -/
import Derived.Test.YtchjknbideoieaaGreatDoorK11
import Derived.Test.YtchjknbideoieaaGreatDoorK05
import Derived.Laws.CopyOwn
namespace Go.Proofs.YtchjknbideoieaaGreatDoor
set_option maxRecDepth 100000
set_option maxHeartbeats 8000000
open Go.RowKit
abbrev dgA (l:List UInt8):Array Value:=(bv l).toArray
abbrev digV (l:List UInt8):Value:=.agg (dgA l)
abbrev rowO (c:Array Value):Obj:=.cells c 53 (0,0)
theorem dg_cell {w:World} {D:Nat} {l:List UInt8} (h:w.heap[D]? = some (rowO (dgA l))) {k:Nat} (hk:k<l.length) :
  w.cell? ⟨D,k,none⟩=some (u8v l[k])∧w.frozen? ⟨D,k,none⟩=false∧∀b:UInt8,(w.setCell ⟨D,k,none⟩ (u8v b)).heap[D]? = some (rowO (dgA (l.set k b))):=by
 refine⟨?_,by simp[World.frozen?,h],fun b=>?_⟩
 ·rw[cell_of_row _ _ k _ _ _ h]
  have:=bv_get l k hk
  simpa using this
 ·simp only[World.setCell,Array.getElem?_modify,h]
  simp[bv,List.map_set]
theorem dgA_size (l:List UInt8):(dgA l).size=l.length:=by simp[bv]
theorem dgA_one (l:List UInt8):∀v∈(dgA l).toList,v.oneCell'=true:=fun v hv=>bv_one l v (by simpa using hv)
def byteW (x:UInt32) (s:Nat):UInt8:=(x >>> UInt32.ofNat s).toUInt8
theorem byteW_val (x:UInt32) (s:Nat) (hs:s<32):((x.toNat:Int)/(2 ^ s:Nat))%256=((byteW x s).toNat:Int):=by
 unfold byteW
 rw[UInt32.toNat_toUInt8,UInt32.toNat_shiftRight,UInt32.toNat_ofNat',Nat.shiftRight_eq_div_pow]
 have e:s%2 ^ 32%32=s:=by
  have h32:s%2 ^ 32=s:=Nat.mod_eq_of_lt (Nat.lt_trans hs (by decide))
  rw[h32,Nat.mod_eq_of_lt hs]
 rw[e]
 generalize 2 ^ s=q
 rw[Int.natCast_emod,Int.natCast_ediv]
 rfl
theorem byteW_0 (x:UInt32):byteW x 0=x.toUInt8:=by
 unfold byteW
 apply UInt8.toNat_inj.1
 rw[UInt32.toNat_toUInt8,UInt32.toNat_shiftRight,UInt32.toNat_toUInt8]
 rfl
theorem dig_byte (S:St) (i:Nat) (hi:i<32):(digB S)[i]? = some (byteW (blkC S (i/4)) (24-8*(i%4))):=by
 match i,hi with
 | 0,_=>rfl
 | 1,_=>rfl
 | 2,_=>rfl
 | 3,_=>show some (S.a.toUInt8)=some (byteW S.a 0);rw[byteW_0]
 | 4,_=>rfl
 | 5,_=>rfl
 | 6,_=>rfl
 | 7,_=>show some (S.b.toUInt8)=some (byteW S.b 0);rw[byteW_0]
 | 8,_=>rfl
 | 9,_=>rfl
 | 10,_=>rfl
 | 11,_=>show some (S.c.toUInt8)=some (byteW S.c 0);rw[byteW_0]
 | 12,_=>rfl
 | 13,_=>rfl
 | 14,_=>rfl
 | 15,_=>show some (S.d.toUInt8)=some (byteW S.d 0);rw[byteW_0]
 | 16,_=>rfl
 | 17,_=>rfl
 | 18,_=>rfl
 | 19,_=>show some (S.e.toUInt8)=some (byteW S.e 0);rw[byteW_0]
 | 20,_=>rfl
 | 21,_=>rfl
 | 22,_=>rfl
 | 23,_=>show some (S.f.toUInt8)=some (byteW S.f 0);rw[byteW_0]
 | 24,_=>rfl
 | 25,_=>rfl
 | 26,_=>rfl
 | 27,_=>show some (S.g.toUInt8)=some (byteW S.g 0);rw[byteW_0]
 | 28,_=>rfl
 | 29,_=>rfl
 | 30,_=>rfl
 | 31,_=>show some (S.h.toUInt8)=some (byteW S.h 0);rw[byteW_0]
 | n+32,h=>omega
def dgUp (l:List UInt8) (k:Nat):List UInt8:=l.take k++List.replicate (32-k) 0
theorem dgUp_len {l:List UInt8} (h:l.length=32) {k:Nat} (hk:k≤32):(dgUp l k).length=32:=by unfold dgUp;simp[h];omega
theorem dgUp_step {l:List UInt8} (h:l.length=32) {k:Nat} (hk:k<32) {b:UInt8} (hb:l[k]? = some b):(dgUp l k).set k b=dgUp l (k+1):=by
 unfold dgUp
 apply List.ext_getElem?
 intro j
 rw[List.getElem?_set]
 by_cases e:k=j
 ·subst e
  have hl:(l.take k++List.replicate (32-k) 0:List UInt8).length=32:=dgUp_len h (by omega)
  rw[if_pos rfl,if_pos (by rw[hl];exact hk),List.getElem?_append_left (by rw[List.length_take];omega),List.getElem?_take,if_pos (by omega),hb]
 ·simp only[e,if_false,List.getElem?_append,List.getElem?_take,List.length_take,h,List.getElem?_replicate]
  by_cases h1:j<k
  ·simp[h1,show j<k+1 from by omega,show j<min k 32 from by omega,show j<min (k+1) 32 from by omega]
  ·have h2:k<j:=by omega
   simp[show ¬j<min k 32 from by omega,show ¬j<min (k+1) 32 from by omega]
   have e1:min k 32=k:=by omega
   have e2:min (k+1) 32=k+1:=by omega
   rw[e1,e2]
   by_cases h3:j<32
   ·rw[if_pos (by omega),if_pos (by omega)]
   ·rw[if_neg (by omega),if_neg (by omega)]
theorem dgUp_0 (l:List UInt8):dgUp l 0=List.replicate 32 0:=by simp[dgUp]
theorem dgUp_32 {l:List UInt8} (h:l.length=32):dgUp l 32=l:=by unfold dgUp;rw[List.take_of_length_le (by omega)];simp
theorem stN_cell {w:World} {P:Nat} {S:St} {pv:Value} {n:Int} {k:Nat} (h:w.heap[P]? = some (stObj S pv n)) (hk:k<8):w.cell? ⟨P,k,none⟩=some (.int .u32 ((blkC S k).toNat:Int)):=by
 rcases k with _|_|_|_|_|_|_|_|k
 all_goals first|omega|(simp[World.cell?,h,blkC];done)
section
variable {ops:Array Oper} {rest:List Oper} {o:Oper} {a:Act} {Q:Exit→Act→World→Prop} {w:World} {K:Act→World→Prop}
theorem wp_storeR {P:Program} (t:TypeId) (p x:Operand) (ho:o.op=.store t p x) (g:Nat) (hp:a.eval p=.pointer (some ⟨g,0,none⟩)) (c c':Array Value) (hx:a.eval x=.agg c') (hg:w.heap[g]? = some (.cells c t (0,0)))
  (hi:(P.info? t).map (·.size)=some c'.size) (hn:c.size=c'.size) (h1:c'.all (·.oneCell')=true) (h:K (a.put o.dst undef) (w.setRow g c')):o.wp P a w K Q:=by
 unfold Oper.wp execOp
 simp only[ho,hp,hx,Instr.storeAt,Instr.sureAddr,Sem.run_bind,Sem.run_pure,Result.andThen_ok,run_storeVar_row w g t t c c' hg hi hn h1,Oper.upon]
 exact h
theorem wl_loadD (hgd:o.guard=none) (x:Operand) (ho:o.op=.load 53 x) (g:Nat) (hx:a.eval x=.pointer (some ⟨g,0,none⟩)) (cs:Array Value) (hg:w.heap[g]? = some (rowO cs)) (hn:cs.size=32)
  (h:wpList Tryz.prog ops Q rest (a.put o.dst (.agg cs)) w):wpList Tryz.prog ops Q (o::rest) a w :=
 wpList_load_row hgd 53 x ho g hx _ cs (0,0) _ hg Tryz.underlying53 rfl (by rw[hn];kernel_rfl) h
theorem wl_storeD (hgd:o.guard=none) (p x:Operand) (ho:o.op=.store 53 p x) (g:Nat) (hp:a.eval p=.pointer (some ⟨g,0,none⟩)) (c c':Array Value) (hx:a.eval x=.agg c') (hg:w.heap[g]? = some (rowO c)) (hn:c.size=32) (hn':c'.size=32) (h1:∀v∈c'.toList,v.oneCell'=true)
  (h:wpList Tryz.prog ops Q rest (a.put o.dst undef) (w.setRow g c')):wpList Tryz.prog ops Q (o::rest) a w :=
 wpList_plain hgd fun _ hK=>wp_storeR 53 p x ho g hp c c' hx hg (by rw[hn'];kernel_rfl) (by rw[hn,hn']) (Array.all_eq_true_iff_forall_mem.2 (fun v hv=>h1 v (by simpa using hv))) (hK _ _ h)
end
theorem res_dig {fn:Func} {p:Tmp} (h:fn.results=#[.cell p 53]) (tmps:Array Value) (w:World) (g:Nat) (cs:Array Value) (hp:tmps.getD p undef=.pointer (some ⟨g,0,none⟩)) (hg:w.heap[g]? = some (rowO cs)) (hn:cs.size=32) :
  (results fn tmps).run Tryz.prog w=.ok (.agg cs) w :=
 results_cell_row h tmps w g _ cs (0,0) _ hp hg Tryz.underlying53 rfl (by rw[hn];kernel_rfl)
end Go.Proofs.YtchjknbideoieaaGreatDoor
namespace Go.Proofs.YtchjknbideoieaaGreatDoor
set_option maxRecDepth 100000
set_option maxHeartbeats 8000000
open Go.RowKit
theorem VS.gen {w:World} {P:Nat} {v:Value} {l:List UInt8} (h:SB w w.heap.size v l) (hne:∀k,v.ownBlock=some k→k≠P∧rowP w P≠some k):VS w P v l:=by
 intro w' hw
 obtain⟨A,c,rfl,h1,h2,hr⟩:=h
 refine⟨A,c,rfl,h1,h2,hr.1,hr.2.1,fun ad e hn=>?_⟩
 obtain⟨hs,hb,hc⟩:=hr.2.2 ad e hn
 have h3:=hne ad.block (by subst e;rfl)
 exact⟨hs,hb,fun j u hu=>(World.cell?_of_block (a:=⟨ad.block,ad.off+j,none⟩) (hw ad.block hb h3.1 h3.2)).trans (hc j u hu)⟩
theorem StAt.below {w w':World} {base P:Nat} {bs:List UInt8} (h:StAt w base P bs) (hb:Below w.heap.size w w'):StAt w' base P bs:=by
 obtain⟨pv,h1,h2,h3,h4⟩:=h
 exact⟨pv,(hb.block P (Array.getElem?_eq_some_iff.1 h1).1).trans h1,h2.below hb (Nat.le_refl _),h3,h4⟩
theorem StAt.lt {w:World} {base P:Nat} {bs:List UInt8} (h:StAt w base P bs):P<w.heap.size:=by
 obtain⟨pv,h1,_⟩:=h
 exact (Array.getElem?_eq_some_iff.1 h1).1
theorem StAt.row {w:World} {base P:Nat} {bs:List UInt8} (h:StAt w base P bs):∀k,rowP w P=some k→base≤k∧k<w.heap.size:=by
 obtain⟨pv,h1,h2,h3,h4⟩:=h
 intro k hk
 rw[rowP_of h1] at hk
 exact h2.lt k hk
theorem mk72 (w:World):∃M:Array Value,(Instr.makeSlice 56 (.int .i64 1) (.int .i64 72)).run Tryz.prog w=.ok (.slice (some ⟨w.heap.size,0,none⟩) 1 72) (w.alloc (.cells M 5)) ∧
  (w.alloc (.cells M 5)).cell? ⟨w.heap.size,0,none⟩=some (.int .u8 0)∧(w.alloc (.cells M 5)).frozen? ⟨w.heap.size,0,none⟩=false ∧
  OB (w.alloc (.cells (M.setIfInBounds 0 (.int .u8 128)) 5)) w.heap.size (.slice (some ⟨w.heap.size,0,none⟩) 1 72) [128]:=by
 obtain⟨i0,hi0,hz0,hz1,hz2⟩:=info_parts infoB
 have h:=run_make (P:=Tryz.prog) w 56 5 i0 _ Tryz.underlying56 hi0 hz0 .i64 .i64 1 72 (by omega) (by omega) (by rw[hz2];omega) (by omega)
 rw[hz1] at h
 have h2:(Instr.makeSlice 56 (.int .i64 1) (.int .i64 72)).run Tryz.prog w=.ok (.slice (some ⟨w.heap.size,0,none⟩) 1 72) (w.alloc (.cells (madeCells (Value.int .u8 0).cells 72) 5)):=h
 have e:=heap_alloc_new w (.cells (madeCells (Value.int .u8 0).cells 72) 5)
 refine⟨_,h2,?_,?_,?_⟩
 ·rw[cell_of_row _ _ 0 _ _ _ e];kernel_rfl
 ·simp only[World.frozen?,e];rfl
 ·exact⟨rfl,.inr ⟨w.heap.size,72,(madeCells (Value.int .u8 0).cells 72).setIfInBounds 0 (.int .u8 128),rfl,Nat.le_refl _,heap_alloc_new w _,by decide,by simp[maxLen],by kernel_rfl,by kernel_rfl⟩⟩
theorem be8_val2 (n j:Nat) (_hj:j<8):Value.int .u8 ((n:Int)*8/2 ^ (56-8*j)%256)=u8v (UInt8.ofNat (n*8/2 ^ (56-8*j))):=by
 show _=Value.int .u8 (((UInt8.ofNat (n*8/2 ^ (56-8*j))).toNat:Nat):Int)
 rw[UInt8.toNat_ofNat']
 generalize 56-8*j=k
 refine congrArg (Value.int .u8) ?_
 try simp only[Int.natCast_emod,Int.natCast_ediv,Int.natCast_mul,Int.natCast_pow]
 try rfl
theorem be8_take2 (n j:Nat) (hj:j<8):(be8 n).take (j+1)=(be8 n).take j++[UInt8.ofNat (n/2 ^ (56-8*j))]:=by
 rcases j with _|_|_|_|_|_|_|_|j
 all_goals first|omega|rfl
def sliceLenS:Value→Nat
 | .slice _ n _=>n
 | _=>0
abbrev ch10 (w:World) (P:Nat) (S:St) (v:Value) (n:Int):World:=((((((((((w).setCell ⟨P,0,none⟩ (.int .u32 (S.a.toNat:Int))).setCell ⟨P,1,none⟩ (.int .u32 (S.b.toNat:Int))).setCell ⟨P,2,none⟩ (.int .u32 (S.c.toNat:Int))).setCell ⟨P,3,none⟩ (.int .u32 (S.d.toNat:Int))).setCell ⟨P,4,none⟩ (.int .u32 (S.e.toNat:Int))).setCell ⟨P,5,none⟩ (.int .u32 (S.f.toNat:Int))).setCell ⟨P,6,none⟩ (.int .u32 (S.g.toNat:Int))).setCell ⟨P,7,none⟩ (.int .u32 (S.h.toNat:Int))).setCell ⟨P,8,none⟩ v).setCell ⟨P,9,none⟩ (.int .i64 n)
theorem ch10_row {w:World} {P:Nat} {X S:St} {pv v:Value} {m n:Int} (h:w.heap[P]? = some (stObj X pv m)):(ch10 w P S v n).heap[P]? = some (stObj S v n):=by
 simp[World.setCell,Array.getElem?_modify,h]
theorem ch10_below {B:Nat} {w w1:World} {P:Nat} (S:St) (v:Value) (n:Int) (hb:Below B w1 w) (hB:B≤P):Below B w1 (ch10 w P S v n) :=
 (((((((((hb.setCell hB _).setCell hB _).setCell hB _).setCell hB _).setCell hB _).setCell hB _).setCell hB _).setCell hB _).setCell hB _).setCell hB _
theorem ch10_own {w:World} {base P:Nat} {u:Value} {l:List UInt8} (S:St) (v:Value) (n:Int) (h:OB w base u l) (hne:u.ownBlock≠some P):OB (ch10 w P S v n) base u l :=
 (((((((((h.setCell (a:=⟨P,_,none⟩) hne _).setCell (a:=⟨P,_,none⟩) hne _).setCell (a:=⟨P,_,none⟩) hne _).setCell (a:=⟨P,_,none⟩) hne _).setCell (a:=⟨P,_,none⟩) hne _).setCell (a:=⟨P,_,none⟩) hne _).setCell (a:=⟨P,_,none⟩) hne _).setCell (a:=⟨P,_,none⟩) hne _).setCell (a:=⟨P,_,none⟩) hne _).setCell (a:=⟨P,_,none⟩) hne _
theorem OB.up {w:World} {base base':Nat} {v:Value} {l:List UInt8} (h:OB w base v l) (hb:∀k,v.ownBlock=some k→base'≤k):OB w base' v l:=by
 obtain⟨h1,h2⟩:=h
 refine⟨h1,?_⟩
 rcases h2 with h2|⟨g,cap,cur,e1,e2,e3⟩
 ·exact .inl h2
 ·exact .inr ⟨g,cap,cur,e1,hb g (by rw[e1];rfl),e3⟩
theorem kStSum_any (base P:Nat) (bs:List UInt8) (w:World) (h:StAt w base P bs) (hl:bs.length≤1152921504606846000) (hk:KTab w 0) (h1:0<w.heap.size) :
  Calls Tryz.prog 120 #[.pointer (some ⟨P,0,none⟩)] w fun e w'=>e=.returned (digV (shaOf bs))∧Below w.heap.size w w':=by
 obtain⟨pv,hP,hown,hne,hbP⟩:=h
 have hPl:P<w.heap.size:=(Array.getElem?_eq_some_iff.1 hP).1
 have hsP:=hown.sb
 obtain⟨Ap,cp,rfl,hlp,hcp,hrp⟩:=id hsP
 have hpl:(partOf bs).length<64:=by rw[partOf_length];omega
 go_enter Tryz.func120,Tryz.ntmps120
 go_upto_region 1 with fail
 generalize hWA:w.alloc _=wA
 have rR:wA.heap[w.heap.size]? = some (rowO (dgA (List.replicate 32 0))):=by rw[←hWA];exact (heap_alloc_new w _).trans (by kernel_rfl)
 have bA:Below w.heap.size w wA:=by rw[←hWA];exact balloc (bself w) _
 have zA:wA.heap.size=w.heap.size+1:=by rw[←hWA];simp
 clear hWA
 go_wp2_with fail
 refine (kBegin_any _).mono ?_
 rintro e w1 ⟨rfl,hb1⟩
 have z1:=hb1.size
 go_upto_region 3 with fail
 generalize hW2:w1.alloc _=w2
 have rX:w2.heap[w1.heap.size]? = some beginO:=by rw[←hW2];exact heap_alloc_new w1 _
 have b12:Below w1.heap.size w1 w2:=by rw[←hW2];exact balloc (bself w1) _
 have z2:Hid (w2.heap.size=w1.heap.size+1):=Lib.hid (by rw[←hW2];simp)
 clear hW2
 have bw2:Below w.heap.size w w2:=bstep bA (hb1.trans (b12.mono z1))
 have hS0:Hid (∀w',Below w.heap.size w w'→w'.heap[P]? = some (stObj (wordsOf bs) (.slice Ap (partOf bs).length cp) (bs.length:Int))):=Lib.hid (fun w' hb=>(hb.block P hPl).trans hP)
 have KS:Hid (∀w',Below w.heap.size w w'→_):=Lib.hid (fun w' hb=>stCells (hS0.out w' hb))
 refine wp_region_noPanic ?_
 refine wp_region_held_drew (S:=fun w'=>w'.cell? ⟨P,0,none⟩=some (.int .u32 ((wordsOf bs).a.toNat:Int))∧w'.cell? ⟨P,1,none⟩=some (.int .u32 ((wordsOf bs).b.toNat:Int))∧w'.cell? ⟨P,2,none⟩=some (.int .u32 ((wordsOf bs).c.toNat:Int))∧w'.cell? ⟨P,3,none⟩=some (.int .u32 ((wordsOf bs).d.toNat:Int))∧w'.cell? ⟨P,4,none⟩=some (.int .u32 ((wordsOf bs).e.toNat:Int))∧w'.cell? ⟨P,5,none⟩=some (.int .u32 ((wordsOf bs).f.toNat:Int))∧w'.cell? ⟨P,6,none⟩=some (.int .u32 ((wordsOf bs).g.toNat:Int))∧w'.cell? ⟨P,7,none⟩=some (.int .u32 ((wordsOf bs).h.toNat:Int))∧w'.cell? ⟨P,8,none⟩=some (.slice Ap (partOf bs).length cp)∧w'.cell? ⟨P,9,none⟩=some (.int .i64 (bs.length:Int))) (by kernel_rfl) (KS.out _ (bdrew bw2)) (fun hHeld=>?_)
 refine rtk 0 ?_
 refine rtk 1 ?_
 refine rtk 2 ?_
 refine rtk 3 ?_
 refine rtk 5 ?_
 refine rtk 6 ?_
 refine rtk 7 ?_
 refine rtk 8 ?_
 refine rtk 10 ?_
 refine rtk 11 ?_
 refine rtk 12 ?_
 refine rtk 13 ?_
 have hz2:w.heap.size≤w2.heap.size:=bw2.size
 have own0:OB (w2.alloc (.cells #[] 5)).drew w.heap.size (.slice (some ⟨w2.heap.size,0,none⟩) 0 0) []:=OB.drew (OB.lit0 w2 hz2)
 have hsrc:SB (w2.alloc (.cells #[] 5)).drew w.heap.size (.slice Ap (partOf bs).length cp) (partOf bs):=SB.drew (SB.alloc (hsP.below bw2) hz2 _)
 have hlen:([]:List UInt8).length+(partOf bs).length≤140737488355328:=by simp only[List.length_nil];omega
 have hbz:w.heap.size≤(w2.alloc (.cells #[] 5)).drew.heap.size:=by have:=World.size_alloc w2 (.cells #[] 5);show w.heap.size≤(w2.alloc (.cells #[] 5)).heap.size;omega
 have HA:Hid (∀v3 w3,OB w3 w.heap.size v3 ([]++partOf bs)→(w2.alloc (.cells #[] 5)).drew.grownBy w3 (Value.slice (some ⟨w2.heap.size,0,none⟩) 0 0).ownBlock→(v3.ownBlock=(Value.slice (some ⟨w2.heap.size,0,none⟩) 0 0).ownBlock∨v3.ownBlock=some (w2.alloc (.cells #[] 5)).drew.heap.size)→(∃A3 c3,v3=.slice A3 (partOf bs).length c3)∧Below w2.heap.size w2 w3∧w3.heap[w1.heap.size]? = some (stObj (wordsOf []) (.slice none 0 0) 0)∧(StAt (ch10 w3 w1.heap.size (wordsOf bs) v3 (bs.length:Int)) wA.heap.size w1.heap.size bs)):=Lib.hid (fun v3 w3 ho hg hv=>by
  rw[List.nil_append] at ho
  have z2:=z2.out
  have hbl:Below w2.heap.size w2 w3:=(bdrew (balloc (bself w2) (.cells #[] 5))).grown hg (by have:=World.size_alloc w2 (.cells #[] 5);show w2.heap.size≤(w2.alloc (.cells #[] 5)).heap.size;omega) (fun k hk=>by have hk':some w2.heap.size=some k:=hk;injection hk' with hk';omega)
  have hX3:w3.heap[w1.heap.size]? = some (stObj (wordsOf []) (.slice none 0 0) 0):=((hbl.block w1.heap.size (by omega)).trans rX).trans (by rw[begin_row])
  obtain⟨A3,c3,rfl,_,_,_⟩:=ho.sb
  have hnx:(Value.slice A3 (partOf bs).length c3).ownBlock≠some w1.heap.size:=by
   rcases hv with h|h
   ·rw[h];intro e;injection e with e;have e':w2.heap.size=w1.heap.size:=e;omega
   ·rw[h];intro e;injection e with e;have e':(w2.alloc (.cells #[] 5)).heap.size=w1.heap.size:=e;rw[World.size_alloc] at e';omega
  have hown4:∀k,(Value.slice A3 (partOf bs).length c3).ownBlock=some k→wA.heap.size≤k:=fun k hk=>by
   rcases hv with h|h
   ·rw[h] at hk;injection hk with e;have e':w2.heap.size=k:=e;omega
   ·rw[h] at hk;injection hk with e;have e':(w2.alloc (.cells #[] 5)).heap.size=k:=e;rw[World.size_alloc] at e';omega
  exact⟨⟨A3,c3,rfl⟩,hbl,hX3,⟨_,ch10_row hX3,OB.up (ch10_own _ _ _ ho hnx) hown4,hnx,z1⟩⟩)
 refine ro 4 (fun K hK=>?_)
 (go_simp)
 refine hK.out _ _ ?_ (fun hHeld=>?_)
 ·exact KS.out _ (bdrew (balloc bw2 _))
 clear hK K
 try simp only[Act.put,q1,q2,q3]
 refine ro 9 (fun K hK=>?_)
 (refine wp_appB (.tmp 16) (.tmp 20) rfl w.heap.size _ [] rfl own0 w.heap.size _ (partOf bs) rfl hsrc hlen hbz ?_;intro v3 w3 hown3 hg3 ho3 hb3;obtain⟨⟨A3,c3,hv3⟩,hbl3,hX3,hstat⟩:=HA.out v3 w3 hown3 hg3 ho3;subst hv3;obtain⟨x0,x1,x2,x3,x4,x5,x6,x7,x8,x9⟩:=stCells hX3;have f0:w3.frozen? ⟨w1.heap.size,0,none⟩=false:=(by simp[World.frozen?,hX3]);have f1:w3.frozen? ⟨w1.heap.size,1,none⟩=false:=(by simp[World.frozen?,hX3]);have f2:w3.frozen? ⟨w1.heap.size,2,none⟩=false:=(by simp[World.frozen?,hX3]);have f3:w3.frozen? ⟨w1.heap.size,3,none⟩=false:=(by simp[World.frozen?,hX3]);have f4:w3.frozen? ⟨w1.heap.size,4,none⟩=false:=(by simp[World.frozen?,hX3]);have f5:w3.frozen? ⟨w1.heap.size,5,none⟩=false:=(by simp[World.frozen?,hX3]);have f6:w3.frozen? ⟨w1.heap.size,6,none⟩=false:=(by simp[World.frozen?,hX3]);have f7:w3.frozen? ⟨w1.heap.size,7,none⟩=false:=(by simp[World.frozen?,hX3]);have f8:w3.frozen? ⟨w1.heap.size,8,none⟩=false:=(by simp[World.frozen?,hX3]);have f9:w3.frozen? ⟨w1.heap.size,9,none⟩=false:=(by simp[World.frozen?,hX3]))
 refine hK.out _ _ ?_ (fun hHeld=>?_)
 ·exact KS.out _ (bw2.trans (hbl3.mono hz2))
 clear hK K
 try simp only[Act.put,q1,q2,q3]
 refine rtk 14 ?_
 have HST:=Lib.hid hstat
 have HBA:=Lib.hid (ch10_below (wordsOf bs) (.slice A3 (partOf bs).length c3) (bs.length:Int) (hb1.trans ((b12.trans (hbl3.mono (by have:=z2.out;omega))).mono z1)) z1)
 have HBW:=Lib.hid (ch10_below (wordsOf bs) (.slice A3 (partOf bs).length c3) (bs.length:Int) (bw2.trans (hbl3.mono hz2)) (Nat.le_trans bA.size z1))
 clear hstat hown3 hg3 ho3 hb3 HA
 refine ro 15 (fun K hK=>?_)
 (go_simp)
 refine hK.out _ _ ?_ (fun hHeld=>?_)
 ·exact KS.out _ HBW.out
 clear hK K
 try simp only[Act.put,q1,q2,q3]
 refine rdn ?_
 have hst4:=HST.out
 have hbA4:=HBA.out
 simp only[ch10] at hst4 hbA4
 generalize World.setCell _ _ _=w4 at hst4 hbA4 ⊢
 clear HST HBA HBW x0 x1 x2 x3 x4 x5 x6 x7 x8 x9 f0 f1 f2 f3 f4 f5 f6 f7 f8 f9 hX3 hbl3 hsrc own0 hlen hbz KS hS0 hrp hne hown hsP hlp hcp
 obtain⟨pv4,hX4,hown4,hne4,hbX4⟩:=id hst4
 have hXl:w1.heap.size<w4.heap.size:=StAt.lt hst4
 have x9:=(stCells hX4).2.2.2.2.2.2.2.2.2
 obtain⟨M,hmk,hmc,hmf,hmo⟩:=mk72 w4
 have HMO:=Lib.hid hmo
 clear hmo hX4 hown4 hne4 hbX4
 have HST:=Lib.hid hst4
 clear hst4
 have hbMA:Below w4.heap.size w4 (w4.alloc (.cells (M.setIfInBounds 0 (.int .u8 128)) 5)):=balloc (bself w4) _
 go_upto_region 7 with fail
 have hown5:=HMO.out
 generalize World.alloc _ _=w5 at hown5 hbMA ⊢
 clear hmk hmc hmf x9 HMO
 have X9:Hid (∀w',Below w4.heap.size w4 w'→w'.cell? ⟨w1.heap.size,9,none⟩=some (.int .i64 (bs.length:Int))):=Lib.hid (fun w' hb=>by
  obtain⟨pv4,hX4,_⟩:=HST.out
  exact (hb.cell (p:=⟨w1.heap.size,9,none⟩) hXl).trans (stCells hX4).2.2.2.2.2.2.2.2.2)
 go_wp2_with fail
 go_loopw [5] (fun ov wr=>∃(z:Nat) (n:Nat) (A3:Option Addr) (c3:Nat),ov=.slice A3 n c3∧n=1+z∧z≤padN bs.length∧OB wr w4.heap.size (.slice A3 n c3) (128::List.replicate z 0)∧Below w4.heap.size w4 wr) (fun ov _=>1+padN bs.length-sliceLenS ov)
 case atStart=>exact⟨0,_,_,_,rfl,rfl,Nat.zero_le _,hown5,hbMA⟩
 case round =>
  obtain⟨z,n,A3,c3,rfl,hn,hz,hown,hbr⟩:=hrel
  clear hown5 hbMA
  have hzr:=hbr.size
  have HZ:=Lib.hid (And.intro hn hz)
  have x9:=X9.out wr hbr
  have hpad:padN bs.length<64:=by unfold padN;omega
  by_cases hzz:z<padN bs.length
  ·have hne:¬(bs.length+n)%64=56:=by unfold padN at hzz;omega
   have hnl:n≤64:=by omega
   have hL:(128::List.replicate z (0:UInt8)).length+1≤140737488355328:=by simp;omega
   have HAPP:Hid ((128::List.replicate z (0:UInt8))++[0]=128::List.replicate (z+1) 0):=Lib.hid (by rw[List.cons_append,←List.replicate_succ'])
   obtain⟨L,hLL⟩:∃L,L=128::List.replicate z (0:UInt8):=⟨_,rfl⟩
   have HLN:Hid (L.length=n):=Lib.hid (by rw[hLL,hn];simp;omega)
   clear hn hz
   rw[←hLL] at hown hL HAPP
   clear hLL
   have hne2:(((bs.length:Int)+(n:Int))%64 !=56)=true:=by
    have h:¬((bs.length:Int)+(n:Int))%64=56:=by omega
    simp[h]
   have HNE:=Lib.hid hne
   clear hne
   go_wp2_with (at_builtin;go_loud (refine wl_app1 rfl (.tmp 41) (.tmp 42) rfl w4.heap.size _ L rfl hown _ 0 rfl rfl rfl hL hzr ?_);intro v5 w5 hown5 hg5 ho5 hb5;rw[HAPP.out] at hown5;have b5:=hbr.trans hb5)
   obtain⟨A5,c5,e5,_,_,_⟩:=id hown5.sb
   have e6:v5=.slice A5 (1+(z+1)) c5:=by rw[e5];congr 1;simp;omega
   subst e6
   go_roundw
   case rel=>exact⟨z+1,_,A5,c5,rfl,rfl,by omega,hown5,b5⟩
   case measure=>simp only[sliceLenS];have:=HZ.out.1;omega
  ·have hne0:(bs.length+n)%64=56:=by unfold padN at hzz hz;omega
   have hne:(((bs.length:Int)+(n:Int))%64 !=56)=false:=by
    have h:((bs.length:Int)+(n:Int))%64=56:=by omega
    rw[h];rfl
   have hn64:n≤64:=by omega
   have hze:z=padN bs.length:=by omega
   subst hze
   clear hn hz hne0 hzz
   go_wp2_with fail
   have hbr0:Below w4.heap.size w4 wr:=hbr
   obtain⟨T,hT⟩:∃T,T=128::List.replicate (padN bs.length) (0:UInt8):=⟨_,rfl⟩
   have HT:=Lib.hid hT
   have HTL:Hid (T.length≤65):=Lib.hid (by rw[hT];simp;omega)
   rw[←hT] at hown
   clear hT
   go_loopw [5,6] (fun ov iv wy=>∃j:Nat,j≤8∧iv=.int .i64 (56-8*(j:Int))∧OB wy w4.heap.size ov (T++(be8 (bs.length*8)).take j)∧Below w4.heap.size w4 wy) (fun _ iv _=>(intOf iv+8).toNat)
   case atStart=>exact⟨0,by omega,rfl,by rw[List.take_zero,List.append_nil];exact hown,hbr0⟩
   case round =>
    obtain⟨j,hj,rfl,hown7,hb7⟩:=hrel
    clear hown hbr hbr0 x9 hne
    have hz7:=hb7.size
    by_cases hj8:j<8
    ·have HB8:=Lib.hid (be8_take2 (bs.length*8) j hj8)
     have HV8:=Lib.hid (be8_val2 bs.length j hj8)
     obtain⟨L,hL⟩:∃L,L=T++(be8 (bs.length*8)).take j:=⟨_,rfl⟩
     have hLl:L.length+1≤140737488355328:=by
      have:=HTL.out
      rw[hL,List.length_append,List.length_take,be8_length];omega
     have HAPP:Hid (L++[UInt8.ofNat (bs.length*8/2 ^ (56-8*j))]=T++(be8 (bs.length*8)).take (j+1)):=Lib.hid (by rw[HB8.out,hL,List.append_assoc])
     rw[←hL] at hown7
     clear hL
     go_wp2_with (at_builtin;go_loud (refine wl_app1 rfl (.tmp 48) (.tmp 53) rfl w4.heap.size _ L rfl hown7 _ _ HV8.out rfl rfl hLl hz7 ?_);intro v8 w8 hown8 hg8 ho8 hb8;rw[HAPP.out] at hown8;have b8:=hb7.trans hb8)
     go_roundw
     case rel =>
      first
       | exact⟨j+1,by omega,by first|rfl|(congr 1;omega),hown8,b8⟩
       | ((repeat apply Exists.intro);exact⟨⟨j+1,by omega,by first|rfl|(congr 1;omega),hown8,b8⟩,rfl⟩)
     case measure=>simp[intOf];omega
    ·have hj88:j=8:=by omega
     subst hj88
     have hpd:T++(be8 (bs.length*8)).take 8=tailOf bs.length:=by
      rw[List.take_of_length_le (by rw[be8_length];exact Nat.le_refl _),HT.out]
      unfold tailOf
      simp
     rw[hpd] at hown7
     have hst7:StAt wr wA.heap.size w1.heap.size bs:=HST.out.below hb7
     have hrow7:=hst7.row
     have hvs7:VS wr w1.heap.size _ (tailOf bs.length):=VS.gen hown7.sb (fun k hk=>by
      have h1:=hown7.lt k hk
      refine⟨by omega,fun e=>?_⟩
      have h2:rowP w4 w1.heap.size=some k:=by
       rw[←e]
       unfold rowP
       rw[hb7.cell (p:=⟨w1.heap.size,8,none⟩) hXl]
      have h3:=HST.out.row k h2
      omega)
     have hlt7:bs.length+(tailOf bs.length).length≤1152921504606846976:=by rw[tail_length];omega
     have bwr:Below w.heap.size w wr:=bstep (bA.trans (hbA4.mono bA.size)) hb7
     have hk7:KTab wr 0:=hk.on bwr h1
     have hz47:wA.heap.size≤wr.heap.size:=Nat.le_trans hbA4.size hz7
     have HPUT:=Lib.hid (kPut_any wA.heap.size w1.heap.size bs (tailOf bs.length) _ wr hst7 hvs7 hlt7 hk7 (by omega) hz47)
     have RR:Hid (∀w',Below wA.heap.size wr w'→w'.heap[w.heap.size]? = some (rowO (dgA (List.replicate 32 0)))):=Lib.hid (fun w' hb=>((hbA4.trans (hb7.mono hbA4.size)).trans hb).block w.heap.size (by omega) |>.trans rR)
     have hzA1:w.heap.size<wA.heap.size:=by omega
     have BW:Hid (Below w.heap.size w wr):=Lib.hid bwr
     clear hst7 hvs7 hlt7 hk7 hown7 hrow7 hb7 hpd HT HTL bwr
     go_wp2_with fail
     refine HPUT.out.mono ?_
     rintro e6 w6 ⟨rfl,hst6,_,_,hb6⟩
     have HBW6:Hid (Below w.heap.size w w6):=Lib.hid (BW.out.trans (hb6.mono bA.size))
     have rR6:=RR.out w6 hb6
     have hX6:∃pv n,w6.heap[w1.heap.size]? = some (stObj (wordsOf (padded bs)) pv n):=by
      obtain⟨pv,h,_⟩:=hst6
      exact⟨pv,_,h⟩
     have hX6l:w1.heap.size<w6.heap.size:=hst6.lt
     obtain⟨pv6,n6,hX6⟩:=hX6
     have HRR:Hid (∀w',Below w6.heap.size w6 w'→w'.heap[w.heap.size]? = some (rowO (dgA (List.replicate 32 0)))):=Lib.hid (fun w' hb=>(hb.block w.heap.size (Array.getElem?_eq_some_iff.1 rR6).1).trans rR6)
     have HX:Hid (∀w',Below w6.heap.size w6 w'→w'.heap[w1.heap.size]? = some (stObj (wordsOf (padded bs)) pv6 n6)):=Lib.hid (fun w' hb=>(hb.block w1.heap.size hX6l).trans hX6)
     clear hst6 rR6 hX6 RR HPUT HST X9 BW
     have hlen:(shaOf bs).length=32:=shaOf_length bs
     have HSB:Hid (∀i,i<32→(shaOf bs)[i]? = some (byteW (blkC (wordsOf (padded bs)) (i/4)) (24-8*(i%4)))):=Lib.hid (fun i hi=>dig_byte _ i hi)
     generalize wordsOf (padded bs)=X at HX HSB
     obtain⟨D,hD⟩:∃D,D=shaOf bs:=⟨_,rfl⟩
     rw[←hD] at hlen HSB
     have HD:=Lib.hid hD
     clear hD
     go_upto_region 15 with fail
     generalize hW7:w6.alloc _=w7
     have rD:w7.heap[w6.heap.size]? = some (rowO (dgA (dgUp D 0))):=by rw[←hW7,dgUp_0];exact (heap_alloc_new w6 _).trans (by kernel_rfl)
     have b67:Below w6.heap.size w6 w7:=by rw[←hW7];exact balloc (bself w6) _
     clear hW7
     go_wp2_with fail
     go_loopw [57] (fun iv wy=>∃i:Nat,iv=.int .i64 i∧i≤32∧wy.heap[w6.heap.size]? = some (rowO (dgA (dgUp D i)))∧Below w6.heap.size w6 wy) (fun iv _=>32-(intOf iv).toNat)
     case atStart=>exact⟨0,rfl,by omega,rD,b67⟩
     case round =>
      obtain⟨i,rfl,hi,hDi,hb⟩:=hrel
      clear rD b67
      by_cases hlt:i<32
      ·have hXr:=HX.out wr hb
       obtain⟨m,hm⟩:∃m,m=i/4:=⟨_,rfl⟩
       obtain⟨r,hr⟩:∃r,r=i%4:=⟨_,rfl⟩
       have hSi:=HSB.out i hlt
       rw[←hm,←hr] at hSi
       have hc:=stN_cell hXr (k:=m) (by omega)
       obtain⟨d1,d2,d3⟩:=dg_cell hDi (k:=i) (by rw[dgUp_len hlen (by omega)];exact hlt)
       obtain⟨q,hq⟩:∃q,q=(dgUp D i)[i]'(by rw[dgUp_len hlen (by omega)];exact hlt):=⟨_,rfl⟩
       rw[←hq] at d1
       clear hq
       obtain⟨sh,hsh⟩:∃sh,sh=24-8*r:=⟨_,rfl⟩
       rw[←hsh] at hSi
       generalize blkC X m=xw at hc hSi
       have hbv:=byteW_val xw sh (by omega)
       obtain⟨bb,hbb⟩:∃bb,bb=byteW xw sh:=⟨_,rfl⟩
       rw[←hbb] at hbv hSi
       have hnx:=d3 bb
       rw[dgUp_step hlen hlt hSi] at hnx
       have HNX:=Lib.hid hnx
       have HBB:Hid (Below w6.heap.size w6 (wr.setCell ⟨w6.heap.size,i,none⟩ (u8v bb))):=Lib.hid (hb.setCell (Nat.le_refl _) _)
       have hbv2:(xw.toNat:Int)/2 ^ sh%256=(bb.toNat:Int):=by rw[←hbv];norm_cast
       have e1:(i:Int)/4=(m:Int):=by omega
       have e2:(i:Int)%4=(r:Int):=by omega
       have e3:Int.tdiv (i:Int) 4=(m:Int):=by rw[Int.tdiv_eq_ediv_of_nonneg (by omega)];exact e1
       have e4:Int.tmod (i:Int) 4=(r:Int):=by rw[Int.tmod_eq_emod_of_nonneg (by omega)];exact e2
       have e5:(24:Int)-8*(r:Int)=(sh:Int):=by omega
       have hm8:m<8:=by omega
       have hr4:r<4:=by omega
       have hsh24:sh≤24:=by omega
       clear d3 hXr hDi hnx hSi hbv hbb hsh hm hr
       go_wp2_with fail
       go_roundw
       case rel=>exact⟨i+1,by go_num,by omega,HNX.out,HBB.out⟩
       case measure=>simp[intOf];omega
      ·have hi32:i=32:=by omega
       subst hi32
       rw[dgUp_32 hlen] at hDi
       obtain⟨c,hc⟩:∃c,c=dgA D:=⟨_,rfl⟩
       have hDc:wr.heap[w6.heap.size]? = some (rowO c):=by rw[hc];exact hDi
       have hcn:c.size=32:=by rw[hc,dgA_size,hlen]
       have hc1:∀v∈c.toList,v.oneCell'=true:=by rw[hc];exact dgA_one D
       have hRR:=HRR.out wr hb
       have hR9:(wr.setRow w.heap.size c).heap[w.heap.size]? = some (rowO c):=setRow_heap _ _ _ _ _ _ hRR
       have HR9:=Lib.hid hR9
       have HDc:=Lib.hid (And.intro hDc (And.intro hcn (And.intro hc1 (And.intro hRR (show (dgA (List.replicate 32 0)).size=32 by rw[dgA_size];rfl)))))
       have HB9:Hid (Below w.heap.size w (wr.setRow w.heap.size c)):=Lib.hid (below_setRow (HBW6.out.trans (hb.mono HBW6.out.size)) (Nat.le_refl _) c)
       have HE:Hid (c=dgA (shaOf bs)):=Lib.hid (by rw[hc,HD.out])
       clear hc hDi hDc hc1 hRR hR9 hlen hcn
       go_wp2_with (first
        | (refine wl_loadD rfl (.tmp 7) rfl _ rfl c HDc.out.1 HDc.out.2.1 ?_)
        | (refine wl_storeD rfl (.tmp 2) (.tmp 74) rfl _ rfl _ c rfl HDc.out.2.2.2.1 HDc.out.2.2.2.2 HDc.out.2.1 HDc.out.2.2.1 ?_))
       exact bodyPost_ret (v:=.agg c) (res_dig Tryz.results120 _ _ _ c rfl HR9.out HDc.out.2.1) rfl ⟨by rw[HE.out],HB9.out⟩
end Go.Proofs.YtchjknbideoieaaGreatDoor
namespace Go.Proofs.YtchjknbideoieaaGreatDoor
set_option maxRecDepth 100000
set_option maxHeartbeats 8000000
open Go.RowKit
end Go.Proofs.YtchjknbideoieaaGreatDoor
namespace Go.Proofs.YtchjknbideoieaaGreatDoor
set_option maxRecDepth 100000
set_option maxHeartbeats 8000000
open Go.RowKit
def LL (w:World) (B:Nat) (v:Value) (ls:List (List UInt8)):Prop:=∃vs:List Value,Sl w B 1 v ls.length vs∧vs.length=ls.length∧∀(i:Nat) (u:Value) (l:List UInt8),vs[i]? = some u→ls[i]? = some l→SB w B u l
theorem LL.nil_ (w:World) (B:Nat):LL w B (.slice none 0 0) []:=⟨[],Sl.nil_ w B 1,rfl,fun i u l h=>by simp at h⟩
theorem VS.old {w:World} {B P:Nat} {v:Value} {l:List UInt8} (h:SB w B v l) (hB:B≤w.heap.size) (hP:B≤P) (hr:∀k,rowP w P=some k→B≤k):VS w P v l:=by
 intro w' hw
 obtain⟨A,c,rfl,h1,h2,hr0⟩:=h
 refine⟨A,c,rfl,h1,h2,hr0.1,hr0.2.1,fun ad e hn=>?_⟩
 obtain⟨hs,hb,hc⟩:=hr0.2.2 ad e hn
 exact⟨hs,by omega,fun j u hu=>(World.cell?_of_block (a:=⟨ad.block,ad.off+j,none⟩) (hw ad.block (by omega) (by omega) (fun e2=>by have:=hr _ e2;omega))).trans (hc j u hu)⟩
theorem flat_take (ls:List (List UInt8)) (i:Nat) (l:List UInt8) (h:ls[i]? = some l):(ls.take (i+1)).flatten=(ls.take i).flatten++l:=by
 rw[List.take_add_one,h]
 simp
theorem flat_le (ls:List (List UInt8)) (i:Nat):(ls.take i).flatten.length≤ls.flatten.length:=by
 conv=>rhs;rw[←List.take_append_drop i ls]
 rw[List.flatten_append,List.length_append]
 omega
theorem kSum_any (ls:List (List UInt8)) (v:Value) (w:World) (h:LL w w.heap.size v ls) (hl:ls.flatten.length≤1152921504606846000) (hk:KTab w 0) (h1:0<w.heap.size) :
  Calls Tryz.prog 96 #[v] w fun e w'=>e=.returned (digV (shaOf ls.flatten))∧Below w.heap.size w w':=by
 obtain⟨vs,⟨A,c,rfl,hlc,hcm,hr⟩,hvl,hvs⟩:=h
 have hcm2:c≤9223372036854775807:=by unfold maxLen at hcm;omega
 clear hcm
 have HV:=Lib.hid hvs
 clear hvs
 go_enter Tryz.func96,Tryz.ntmps96
 go_upto_region 1 with fail
 generalize hWA:w.alloc _=wA
 have rR:wA.heap[w.heap.size]? = some (rowO (dgA (List.replicate 32 0))):=by rw[←hWA];exact (heap_alloc_new w _).trans (by kernel_rfl)
 have bA:Below w.heap.size w wA:=by rw[←hWA];exact balloc (bself w) _
 have zA:wA.heap.size=w.heap.size+1:=by rw[←hWA];simp
 clear hWA
 go_wp2_with fail
 refine (kBegin_any _).mono ?_
 rintro e w1 ⟨rfl,hb1⟩
 have z1:=hb1.size
 go_upto_region 2 with fail
 generalize hW2:w1.alloc _=w2
 have rX:w2.heap[w1.heap.size]? = some beginO:=by rw[←hW2];exact heap_alloc_new w1 _
 have b12:Below w1.heap.size w1 w2:=by rw[←hW2];exact balloc (bself w1) _
 clear hW2
 have hst2:StAt w2 wA.heap.size w1.heap.size []:=St0.at rX z1
 have hbA2:Below wA.heap.size wA w2:=hb1.trans (b12.mono z1)
 clear rX b12
 go_wp2_with fail
 go_loopw [9] (fun iv wy=>∃i:Nat,iv=.int .i64 i∧i≤ls.length∧StAt wy wA.heap.size w1.heap.size (ls.take i).flatten∧Below wA.heap.size wA wy) (fun iv _=>ls.length-(intOf iv).toNat)
 case atStart=>exact⟨0,rfl,Nat.zero_le _,hst2,hbA2⟩
 case round =>
  obtain⟨i,rfl,hi,hst,hb⟩:=hrel
  clear hst2 hbA2
  have bw:Below w.heap.size w wr:=bA.trans (hb.mono bA.size)
  have hzw:=bw.size
  have hzA:=hb.size
  by_cases hlt:i<ls.length
  ·obtain⟨b,o,rfl,hbl,hc⟩:=hr.at_ (by omega)
   obtain⟨u,hu⟩:∃u,vs[i]? = some u:=⟨_,List.getElem?_eq_getElem (by omega)⟩
   obtain⟨l,hL⟩:∃l,ls[i]? = some l:=⟨_,List.getElem?_eq_getElem hlt⟩
   have hsb:=HV.out i u l hu hL
   have cU:=(bw.cell (p:=⟨b,o+i,none⟩) hbl).trans (hc i u hu)
   have hFT:=flat_take ls i l hL
   have hFL:=flat_le ls (i+1)
   rw[hFT,List.length_append] at hFL
   have hvsU:VS wr w1.heap.size u l:=VS.old (B:=w.heap.size) (hsb.below bw) hzw (by omega) (fun k hk=>by have:=(hst.row k hk).1;omega)
   have HP:=Lib.hid (kPut_any wA.heap.size w1.heap.size (ls.take i).flatten l u wr hst hvsU (by omega) (hk.on bw h1) (by omega) hzA)
   have HFT:=Lib.hid hFT
   obtain⟨Au,cu,rfl,_,_,_⟩:=hsb
   clear hst hvsU hFT hFL hc hu hL
   go_wp2_with fail
   refine HP.out.mono ?_
   rintro e2 w5 ⟨rfl,hst5,_,_,hb5⟩
   rw[←HFT.out] at hst5
   have hb6:=hb.trans hb5
   go_wp2_with fail
   go_roundw
   case rel=>exact⟨i+1,by go_num,by omega,hst5,hb6⟩
   case measure=>simp[intOf];omega
  ·have hil:i=ls.length:=by omega
   subst hil
   rw[List.take_length] at hst
   have HS:=Lib.hid (kStSum_any wA.heap.size w1.heap.size ls.flatten wr hst hl (hk.on bw h1) (by omega))
   have hRR:wr.heap[w.heap.size]? = some (rowO (dgA (List.replicate 32 0))):=(hb.block w.heap.size (by omega)).trans rR
   have HRR:=Lib.hid hRR
   clear hst hRR
   go_wp2_with fail
   refine HS.out.mono ?_
   rintro e9 w9 ⟨he,hb9⟩
   obtain⟨q,hq⟩:∃q,q=dgA (shaOf ls.flatten):=⟨_,rfl⟩
   have hqn:q.size=32:=by rw[hq,dgA_size,shaOf_length]
   have hq1:∀v∈q.toList,v.oneCell'=true:=by rw[hq];exact dgA_one _
   rw[show digV (shaOf ls.flatten)=.agg q from by rw[hq]] at he
   subst he
   have h9:w9.heap[w.heap.size]? = some (rowO (dgA (List.replicate 32 0))):=(hb9.block w.heap.size (by omega)).trans HRR.out
   have HR9:=Lib.hid (setRow_heap w9 w.heap.size _ q _ _ h9)
   have HH:=Lib.hid (And.intro h9 (And.intro (show (dgA (List.replicate 32 0)).size=32 by rw[dgA_size];rfl) (And.intro hqn hq1)))
   have HB9:Hid (Below w.heap.size w (w9.setRow w.heap.size q)):=Lib.hid (below_setRow (bstep bw hb9) (Nat.le_refl _) q)
   have HE:Hid (q=dgA (shaOf ls.flatten)):=Lib.hid hq
   clear hq hqn hq1 h9
   go_wp2_with (refine wl_storeD rfl (.tmp 2) (.tmp 16) rfl _ rfl _ q rfl HH.out.1 HH.out.2.1 HH.out.2.2.1 HH.out.2.2.2 ?_)
   exact bodyPost_ret (v:=.agg q) (res_dig Tryz.results96 _ _ _ q rfl HR9.out HH.out.2.2.1) rfl ⟨by rw[HE.out],HB9.out⟩
end Go.Proofs.YtchjknbideoieaaGreatDoor
namespace Go.Proofs.YtchjknbideoieaaGreatDoor
set_option maxRecDepth 100000
set_option maxHeartbeats 8000000
open Go.RowKit
abbrev rowT (t:TypeId) (c:Array Value):Obj:=.cells c t (0,0)
theorem rowT_cell {w:World} {D:Nat} {t:TypeId} {l:List UInt8} (h:w.heap[D]? = some (rowT t (dgA l))) {k:Nat} (hk:k<l.length) :
  w.cell? ⟨D,k,none⟩=some (u8v l[k])∧w.frozen? ⟨D,k,none⟩=false∧∀b:UInt8,(w.setCell ⟨D,k,none⟩ (u8v b)).heap[D]? = some (rowT t (dgA (l.set k b))):=by
 refine⟨?_,by simp[World.frozen?,h],fun b=>?_⟩
 ·rw[cell_of_row _ _ k _ _ _ h]
  have:=bv_get l k hk
  simpa using this
 ·simp only[World.setCell,Array.getElem?_modify,h]
  simp[bv,List.map_set]
def upTo (n:Nat) (l:List UInt8) (k:Nat):List UInt8:=l.take k++List.replicate (n-k) 0
theorem upTo_len {n:Nat} {l:List UInt8} (h:l.length=n) {k:Nat} (hk:k≤n):(upTo n l k).length=n:=by unfold upTo;simp[h];omega
theorem upTo_get {n:Nat} {l:List UInt8} (h:l.length=n) {k:Nat} (hk:k<n):(upTo n l k)[k]? = some 0:=by
 unfold upTo
 rw[List.getElem?_append_right (by rw[List.length_take];omega),List.length_take,Nat.min_eq_left (by omega),Nat.sub_self,List.getElem?_replicate,if_pos (by omega)]
theorem upTo_step {n:Nat} {l:List UInt8} (h:l.length=n) {k:Nat} (hk:k<n) {b:UInt8} (hb:l[k]? = some b):(upTo n l k).set k b=upTo n l (k+1):=by
 have e:upTo n l (k+1)=l.take k++b::List.replicate (n-(k+1)) 0:=by
  unfold upTo
  rw[List.take_add_one,hb]
  simp
 have e2:upTo n l k=l.take k++0::List.replicate (n-(k+1)) 0:=by
  unfold upTo
  rw[show n-k=(n-(k+1))+1 by omega,List.replicate_succ]
 rw[e,e2,List.set_append_right _ _ (by rw[List.length_take];omega)]
 have e3:k-(l.take k).length=0:=by rw[List.length_take];omega
 rw[e3]
 rfl
theorem upTo_0 (n:Nat) (l:List UInt8):upTo n l 0=List.replicate n 0:=by simp[upTo]
theorem upTo_n {n:Nat} {l:List UInt8} (h:l.length=n):upTo n l n=l:=by unfold upTo;rw[List.take_of_length_le (by omega)];simp
section
variable {ops:Array Oper} {rest:List Oper} {o:Oper} {a:Act} {Q:Exit→Act→World→Prop} {w:World}
theorem wl_loadT (t:TypeId) {n:Nat} {e:TypeId} (hu:Tryz.prog.underlying t=some (.array n e)) (hs:(Tryz.prog.info? t).map (·.size)=some n) (hgd:o.guard=none) (x:Operand) (ho:o.op=.load t x) (g:Nat) (hx:a.eval x=.pointer (some ⟨g,0,none⟩)) (cs:Array Value) (hg:w.heap[g]? = some (rowT t cs)) (hn:cs.size=n)
  (h:wpList Tryz.prog ops Q rest (a.put o.dst (.agg cs)) w):wpList Tryz.prog ops Q (o::rest) a w :=
 wpList_load_row hgd t x ho g hx _ cs (0,0) _ hg hu rfl (by rw[hn];exact hs) h
theorem wl_storeT (t:TypeId) {n:Nat} (hs:(Tryz.prog.info? t).map (·.size)=some n) (hgd:o.guard=none) (p x:Operand) (ho:o.op=.store t p x) (g:Nat) (hp:a.eval p=.pointer (some ⟨g,0,none⟩)) (c c':Array Value) (hx:a.eval x=.agg c') (hg:w.heap[g]? = some (rowT t c)) (hn:c.size=n) (hn':c'.size=n) (h1:∀v∈c'.toList,v.oneCell'=true)
  (h:wpList Tryz.prog ops Q rest (a.put o.dst undef) (w.setRow g c')):wpList Tryz.prog ops Q (o::rest) a w :=
 wpList_plain hgd fun _ hK=>wp_storeR t p x ho g hp c c' hx hg (by rw[hn'];exact hs) (by rw[hn,hn']) (Array.all_eq_true_iff_forall_mem.2 (fun v hv=>h1 v (by simpa using hv))) (hK _ _ h)
end
theorem SB.ofRow {w:World} {g B n:Nat} {l:List UInt8} {t:TypeId} {fr:Nat × Nat} {c:Array Value} (h:w.heap[g]? = some (.cells c t fr)) (hc:dgA l=c) (hn:n=l.length) (hB:g<B) (hl:l.length≤maxLen):SB w B (.slice (some ⟨g,0,none⟩) n n) l:=by
 subst hn
 subst hc
 refine⟨_,_,rfl,Nat.le_refl _,hl,⟨by rw[bv_length,Nat.mul_one],⟨fun e=>(by cases e),fun ad e _=>?_⟩⟩⟩
 injection e with e
 subst e
 refine⟨rfl,hB,fun j u hu=>?_⟩
 show w.cell? ⟨g,0+j,none⟩=some u
 rw[Nat.zero_add,cell_of_row _ _ j _ _ _ h,←hu]
 simp
end Go.Proofs.YtchjknbideoieaaGreatDoor
