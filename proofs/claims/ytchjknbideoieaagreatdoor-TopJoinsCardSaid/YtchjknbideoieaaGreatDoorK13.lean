/- What is proved here: digests are compared; lists of byte slices as the laws make them; what shown of tantaluslaw03 comes to, at this seat's numbers. Condition: the table of constants. what ShaSums and ShaNil of tantaluslaw03 come to, at this seat's numbers. Conditions: the bytes' length; the tables of constants. what mac.pads comes to, at this seat's numbers. Conditions: .. -/
import Derived.Test.YtchjknbideoieaaGreatDoorK12
import Derived.DeepKeys
import Derived.Lib.SmallJoins
import Derived.Test.YtchjknbideoieaaGreatDoorK11
import Derived.Test.YtchjknbideoieaaGreatDoorK09
namespace Go.Proofs.YtchjknbideoieaaGreatDoor
set_option maxRecDepth 100000
set_option maxHeartbeats 8000000
open Go.RowKit
theorem run_eqItemsB (w:World) (d:Nat) (l m:List UInt8) (hl:l.length=32) (hm:m.length=32):∀is:List Nat,(∀i∈is,i<32) →
  ∃r:Bool,(Op.eqItems (d+1) 5 1 (dgA l) (dgA m) is).run Tryz.prog w=.ok r w∧(r=true↔∀i∈is,l[i]? = m[i]?)
 | [],_=>⟨true,by simp[Op.eqItems],by simp⟩
 | i::is,h=>by
  have hi:=h i (by simp)
  obtain⟨r,hr,hiff⟩:=run_eqItemsB w d l m hl hm is (fun j hj=>h j (by simp[hj]))
  have he:Tryz.prog.plainKey 5=true:=by kernel_rfl
  have p1:(Go.part 5 (dgA l) (i*1)).run Tryz.prog w=.ok (u8v (l[i]'(by omega))) w:=run_part_plain w he (by rw[Nat.mul_one];simpa using bv_get l i (by omega))
  have p2:(Go.part 5 (dgA m) (i*1)).run Tryz.prog w=.ok (u8v (m[i]'(by omega))) w:=run_part_plain w he (by rw[Nat.mul_one];simpa using bv_get m i (by omega))
  simp only[Op.eqItems,Sem.run_bind,p1,p2,Result.andThen_ok,run_equalIn_int w d 5 .u8 .u8 _ _ Tryz.underlying5]
  by_cases e:l[i]'(by omega)=m[i]'(by omega)
  ·refine⟨r,by simp[e,hr],?_⟩
   rw[hiff]
   simp[List.getElem?_eq_getElem (show i<l.length by omega),List.getElem?_eq_getElem (show i<m.length by omega),e]
  ·have e2:¬((l[i]'(by omega)).toNat:Int)=((m[i]'(by omega)).toNat:Int):=fun h2=>e (UInt8.toNat_inj.1 (by omega))
   refine⟨false,by simp[e2],?_⟩
   simp[List.getElem?_eq_getElem (show i<l.length by omega),List.getElem?_eq_getElem (show i<m.length by omega),e]
theorem run_eqD (w:World) (l m:List UInt8) (hl:l.length=32) (hm:m.length=32):(Op.equalIn 10000 53 (digV l) (digV m)).run Tryz.prog w=.ok (l==m) w:=by
 obtain⟨i0,hi0,_⟩:=info_parts infoB
 rw[show (10000:Nat)=9999+1 from rfl,run_equalIn_array w 9999 (dgA l) (dgA m) Tryz.underlying53 hi0]
 obtain⟨r,hr,hiff⟩:=run_eqItemsB w 9998 l m hl hm (List.range 32) (fun i hi=>List.mem_range.1 hi)
 have hc:Tryz.prog.cellsOf 5=1:=by kernel_rfl
 rw[hc,show (9999:Nat)=9998+1 from rfl,hr]
 have e:r=(l==m):=by
  rw[Bool.eq_iff_iff,hiff,beq_iff_eq]
  constructor
  ·intro h
   apply List.ext_getElem?
   intro i
   by_cases hi:i<32
   ·exact h i (List.mem_range.2 hi)
   ·rw[List.getElem?_eq_none (by omega),List.getElem?_eq_none (by omega)]
  ·intro h i _;rw[h]
 rw[e]
theorem run_eqC (w:World) (c:Array Value) (l:List UInt8) (hl:l.length=32) (hc:dgA l=c):(Op.equalIn 10000 53 (.agg c) (.agg c)).run Tryz.prog w=.ok true w:=by
 subst hc
 rw[run_eqD w l l hl hl]
 simp
theorem kSumC (ls:List (List UInt8)) (c:Array Value) (hc:dgA (shaOf ls.flatten)=c) (v:Value) (w:World) (h:LL w w.heap.size v ls) (hl:ls.flatten.length≤1152921504606846000) (hk:KTab w 0) (h1:0<w.heap.size) :
  Calls Tryz.prog 96 #[v] w fun e w'=>e=.returned (.agg c)∧Below w.heap.size w w':=by
 subst hc;exact kSum_any ls v w h hl hk h1
theorem SB.cells {w:World} {g B:Nat} {l:List UInt8} {C:Array Value} {t:TypeId} {fr:Nat × Nat} {n:Nat} (h:w.heap[g]? = some (.cells C t fr)) (hC:C.toList=bv l) (hn:n=l.length) (hB:g<B) (hl:l.length≤maxLen):SB w B (.slice (some ⟨g,0,none⟩) n n) l:=by
 subst hn
 refine⟨_,_,rfl,Nat.le_refl _,hl,⟨by rw[bv_length,Nat.mul_one],⟨fun e=>(by cases e),fun ad e _=>?_⟩⟩⟩
 injection e with e
 subst e
 refine⟨rfl,hB,fun j u hu=>?_⟩
 show w.cell? ⟨g,0+j,none⟩=some u
 rw[Nat.zero_add,cell_of_row _ _ j _ _ _ h,←hu,←hC]
 simp
theorem LL.new {w:World} {g:Nat} (us:List Value) (ls:List (List UInt8)) (t:TypeId) (hg:g=w.heap.size) {n:Nat} (hn1:n=us.length) (hn:us.length=ls.length) (hm:us.length≤maxLen) (h:∀(i:Nat) (u:Value) (l:List UInt8),us[i]? = some u→ls[i]? = some l→SB w w.heap.size u l) :
  LL (w.alloc (.cells us.toArray t)) (w.alloc (.cells us.toArray t)).heap.size (.slice (some ⟨g,0,none⟩) n n) ls:=by
 subst hg
 subst hn1
 have hz:=World.size_alloc w (.cells us.toArray t)
 refine⟨us,⟨_,_,by rw[hn],by omega,hm,?_⟩,hn,fun i u l h1 h2=>((h i u l h1 h2).alloc (Nat.le_refl _) _).more (by omega)⟩
 have:=Rd.newBlock w us.toArray t (g:=w.heap.size) (n:=us.length) (size:=1) (B:=(w.alloc (.cells us.toArray t)).heap.size) rfl (by omega) (by simp)
 rw[←hn]
 simpa using this
theorem SB.head {w:World} {g B:Nat} {bs:List UInt8} {c:Array Value} (h:w.heap[g]? = some (rowO c)) (hc:dgA (shaOf bs)=c) (hB:g<B):SB w B (.slice (some ⟨g,0,none⟩) 8 32) ((shaOf bs).take 8):=by
 have hl:=shaOf_length bs
 have h1:SB w B (.slice (some ⟨g,0,none⟩) 32 32) (shaOf bs):=SB.cells h (by rw[←hc]) hl.symm hB (by rw[hl];simp[maxLen])
 unfold SB at h1
 rw[hl] at h1
 have h2:=Sl.take h1 (k:=8) (by omega) rfl
 unfold SB
 rw[List.length_take,hl,bv_take]
 exact h2
theorem LL.drewN {w:World} {B:Nat} {v:Value} {ls:List (List UInt8)} (h:LL w B v ls) (n:Nat):LL (w.drewN n) B v ls:=h
theorem LL.drew {w:World} {B:Nat} {v:Value} {ls:List (List UInt8)} (h:LL w B v ls):LL w.drew B v ls:=h
end Go.Proofs.YtchjknbideoieaaGreatDoor
namespace Go.Proofs.YtchjknbideoieaaGreatDoor
set_option maxRecDepth 100000
set_option maxHeartbeats 8000000
open Go.RowKit
theorem kStSumC (base P:Nat) (bs:List UInt8) (c:Array Value) (hc:dgA (shaOf bs)=c) (w:World) (h:StAt w base P bs) (hl:bs.length≤1152921504606846000) (hk:KTab w 0) (h1:0<w.heap.size) :
  Calls Tryz.prog 120 #[.pointer (some ⟨P,0,none⟩)] w fun e w'=>e=.returned (.agg c)∧Below w.heap.size w w':=by subst hc;exact kStSum_any base P bs w h hl hk h1
theorem LL.one {w:World} {v:Value} {b:List UInt8} {g:Nat} (t:TypeId) (hg:g=w.heap.size) (h:SB w w.heap.size v b):LL (w.alloc (.cells #[v] t)) (w.alloc (.cells #[v] t)).heap.size (.slice (some ⟨g,0,none⟩) 1 1) [b] :=
 LL.new [v] [b] t hg rfl rfl (by simp[maxLen]) (fun i u l h1 h2=>by
  rcases i with _|i
  ·simp at h1 h2;subst h1;subst h2;exact h
  ·simp at h1)
theorem flat1 (b:List UInt8):[b].flatten=b:=by simp
end Go.Proofs.YtchjknbideoieaaGreatDoor
namespace Go.Proofs.YtchjknbideoieaaGreatDoor
set_option maxRecDepth 100000
set_option maxHeartbeats 8000000
open Go.RowKit
theorem exec_loadT (t:TypeId) {n:Nat} {e:TypeId} (hu:Tryz.prog.underlying t=some (.array n e)) (hs:(Tryz.prog.info? t).map (·.size)=some n) {o:Oper} {a:Act} {w:World} (x:Operand) (ho:o.op=.load t x) (g:Nat) (hx:a.eval x=.pointer (some ⟨g,0,none⟩)) (cs:Array Value) (hg:w.heap[g]? = some (rowT t cs)) (hn:cs.size=n) :
  (execOp a.eval o).run Tryz.prog w=.ok (.value (.agg cs)) w:=by
 unfold execOp
 simp only[ho,hx,Instr.loadAt,Instr.sureAddr,Sem.run_bind,Sem.run_pure,Result.andThen_ok,run_loadVar_row w g t t cs (0,0) _ hg hu rfl (by rw[hn];exact hs)]
theorem size64:(Tryz.prog.info? 215).map (·.size)=some 64:=by kernel_rfl
theorem res_two {fn:Func} {p q:Tmp} (h:fn.results=#[.cell p 215,.cell q 215]) (tmps:Array Value) (w:World) (g k:Nat) (c d:Array Value) (hp:tmps.getD p undef=.pointer (some ⟨g,0,none⟩)) (hq:tmps.getD q undef=.pointer (some ⟨k,0,none⟩))
  (hg:w.heap[g]? = some (rowT 215 c)) (hk:w.heap[k]? = some (rowT 215 d)) (hn:c.size=64) (hm:d.size=64) :
  (results fn tmps).run Tryz.prog w=.ok (.tuple #[.agg c,.agg d]) w:=by
 have hp':tmps[p]?.getD undef=.pointer (some ⟨g,0,none⟩):=by simpa using hp
 have hq':tmps[q]?.getD undef=.pointer (some ⟨k,0,none⟩):=by simpa using hq
 simp[results,h,hp',hq',asAddr,run_loadVar_row w g 215 215 c (0,0) _ hg Tryz.underlying215 rfl (by rw[hn];exact size64),run_loadVar_row w k 215 215 d (0,0) _ hk Tryz.underlying215 rfl (by rw[hm];exact size64)]
theorem SB.cellAt {w:World} {B b o n c:Nat} {l:List UInt8} (h:SB w B (.slice (some ⟨b,o,none⟩) n c) l) {j:Nat} (hj:j<l.length):w.cell? ⟨b,o+j,none⟩=some (.int .u8 ((l[j].toNat:Nat):Int)):=by
 obtain⟨A,c',e,_,_,hr⟩:=h
 injection e with e1 _ _
 subst e1
 exact (hr.2.2 _ rfl (by omega)).2.2 j _ (bv_at hj)
def KeptBut (w w':World) (I:Nat):Prop:=∀j,j<w.heap.size→j≠I→j≠I+1→w'.heap[j]? = w.heap[j]?
theorem SB.but {w w':World} {B I:Nat} {v:Value} {l:List UInt8} (h:SB w B v l) (hk:KeptBut w w' I) (hB:B≤w.heap.size) (hne:∀b,v.ownBlock=some b→b<B→b≠I∧b≠I+1):SB w' B v l:=by
 obtain⟨A,c,rfl,h1,h2,hr⟩:=h
 refine⟨A,c,rfl,h1,h2,hr.1,hr.2.1,fun ad e hn=>?_⟩
 obtain⟨hs,hb,hc⟩:=hr.2.2 ad e hn
 have h3:=hne ad.block (by subst e;rfl) hb
 exact⟨hs,hb,fun j u hu=>(World.cell?_of_block (a:=⟨ad.block,ad.off+j,none⟩) (hk ad.block (by omega) h3.1 h3.2)).trans (hc j u hu)⟩
theorem kPads_any (k:List UInt8) (v:Value) (w:World) (hv:SB w w.heap.size v k) (hl:k.length≤1152921504606846000) (hk:KTab w 0) (h1:0<w.heap.size) :
  Calls Tryz.prog 142 #[v] w fun e w'=>e=.returned (.tuple #[.agg (dgA (xorL 54 (padK k))),.agg (dgA (xorL 92 (padK k)))])∧Below w.heap.size w w':=by
 obtain⟨A,c,rfl,hlc,hcm,_⟩:=id hv
 have hcm2:c≤9223372036854775807:=by unfold maxLen at hcm;omega
 go_enter Tryz.func142,Tryz.ntmps142
 go_upto_region 1 with fail
 generalize hWA:World.alloc _ _=wA
 have rI:wA.heap[w.heap.size]? = some (rowT 215 (dgA (List.replicate 64 0))):=by rw[←hWA];exact (heap_alloc2_old w _ _).trans (by kernel_rfl)
 have rO:wA.heap[w.heap.size+1]? = some (rowT 215 (dgA (List.replicate 64 0))):=by rw[←hWA];exact (heap_alloc2_new w _ _).trans (by kernel_rfl)
 have bA:Below w.heap.size w wA:=by rw[←hWA];exact balloc (balloc (bself w) _) _
 have zA:w.heap.size+1<wA.heap.size:=by rw[←hWA];simp
 clear hWA
 obtain⟨K,hK⟩:∃K,K=keyOf64 k:=⟨_,rfl⟩
 have hKl:K.length≤64:=by rw[hK];exact keyOf64_length k
 have HK0:=Lib.hid hK
 clear hK
 by_cases hlong:64<k.length
 ·obtain⟨cc,hcc⟩:∃cc,dgA (shaOf k)=cc:=⟨_,rfl⟩
  have HKS:Hid (K=shaOf k):=Lib.hid (by rw[HK0.out];unfold keyOf64;rw[if_pos hlong])
  have HN:Hid (cc.size=32∧∀v∈cc.toList,v.oneCell'=true):=Lib.hid (by rw[←hcc];exact⟨by rw[dgA_size,shaOf_length],dgA_one _⟩)
  have HC:=Lib.hid hcc
  clear hcc
  have hL:LL (wA.alloc (.cells #[.slice A k.length c] 56)) _ (.slice (some ⟨wA.heap.size,0,none⟩) 1 1) [k]:=LL.one 56 rfl ((hv.below bA).more (by omega))
  have bB:Below w.heap.size w (wA.alloc (.cells #[.slice A k.length c] 56)):=balloc bA _
  have bAB:Below wA.heap.size wA (wA.alloc (.cells #[.slice A k.length c] 56)):=balloc (bself wA) _
  go_wp2_with fail
  generalize World.alloc _ _=wB at hL bB bAB ⊢
  refine (kSumC [k] cc (by rw[flat1];exact HC.out) _ wB hL (by rw[flat1];exact hl) (hk.on bB h1) (by have:=bB.size;omega)).mono ?_
  rintro e w1 ⟨rfl,hb1⟩
  have bA1:=bstep bAB hb1
  have z1:=bA1.size
  go_upto_region 4 with (refine wl_storeD rfl (.tmp 4) (.tmp 11) rfl _ rfl _ cc rfl (heap_alloc_new w1 _) (by kernel_rfl) HN.out.1 HN.out.2 ?_)
  generalize hw5:World.setRow _ _ _=w5
  have rD:w5.heap[w1.heap.size]? = some (rowO cc):=by rw[←hw5];exact setRow_heap _ _ _ _ _ _ (heap_alloc_new w1 _)
  have b15:Below w1.heap.size w1 w5:=by rw[←hw5];exact below_setRow (balloc (bself w1) _) (Nat.le_refl _) _
  have z5:Hid (w5.heap.size=w1.heap.size+1):=Lib.hid (by rw[←hw5];simp)
  clear hw5
  have bA5:=bstep bA1 b15
  have HK:Hid (∀wy,KeptBut w5 wy w.heap.size→SB wy w5.heap.size (.slice (some ⟨w1.heap.size,0,none⟩) 32 32) K):=Lib.hid (fun wy h=>by
   rw[HKS.out]
   have hs:SB w5 w5.heap.size (.slice (some ⟨w1.heap.size,0,none⟩) 32 32) (shaOf k):=SB.ofRow rD HC.out (shaOf_length k).symm (by have:=z5.out;omega) (by rw[shaOf_length];simp[maxLen])
   exact SB.but hs h (Nat.le_refl _) (fun b hb _=>by injection hb with hb;have hb':w1.heap.size=b:=hb;omega))
  have HNK:Hid (32=K.length):=Lib.hid (by rw[HKS.out,shaOf_length])
  have rI5:w5.heap[w.heap.size]? = some (rowT 215 (dgA (List.replicate 64 0))):=(bA5.block w.heap.size (by omega)).trans rI
  have rO5:w5.heap[w.heap.size+1]? = some (rowT 215 (dgA (List.replicate 64 0))):=(bA5.block (w.heap.size+1) (by omega)).trans rO
  have b5:Below w.heap.size w w5:=bA.trans (bA5.mono (by omega))
  clear hv rI rO bA hL bB bAB hb1 bA1 rD b15 bA5
  have HX:Hid (∀i (hi:i<64),(xorL 54 (padK k))[i]? = some (if h:i<K.length then xor8 54 (K[i]'h) else 54)):=Lib.hid (fun i hi=>by rw[mix_at 54 k i hi];congr 1;have hK:=HK0.out;subst hK;rfl)
  have HY:Hid (∀i (hi:i<64),(xorL 92 (padK k))[i]? = some (if h:i<K.length then xor8 92 (K[i]'h) else 92)):=Lib.hid (fun i hi=>by rw[mix_at 92 k i hi];congr 1;have hK:=HK0.out;subst hK;rfl)
  have lX:(xorL 54 (padK k)).length=64:=by rw[xorL_length,padK_length]
  have lY:(xorL 92 (padK k)).length=64:=by rw[xorL_length,padK_length]
  obtain⟨X,hXe⟩:∃X,X=xorL 54 (padK k):=⟨_,rfl⟩
  obtain⟨Y,hYe⟩:∃Y,Y=xorL 92 (padK k):=⟨_,rfl⟩
  rw[←hXe] at HX lX
  rw[←hYe] at HY lY
  have HXE:=Lib.hid (And.intro hXe hYe)
  clear hXe hYe
  have rI0:w5.heap[w.heap.size]? = some (rowT 215 (dgA (upTo 64 X 0))):=by rw[upTo_0];exact rI5
  have rO0:w5.heap[w.heap.size+1]? = some (rowT 215 (dgA (upTo 64 Y 0))):=by rw[upTo_0];exact rO5
  clear rI5 rO5
  go_wp2_with fail
  go_loopw [13] (fun iv wy=>∃i:Nat,iv=.int .i64 i∧i≤64∧wy.heap[w.heap.size]? = some (rowT 215 (dgA (upTo 64 X i)))∧wy.heap[w.heap.size+1]? = some (rowT 215 (dgA (upTo 64 Y i)))∧KeptBut w5 wy w.heap.size∧Below w.heap.size w wy) (fun iv _=>64-(intOf iv).toNat)
  case atStart=>exact⟨0,rfl,by omega,rI0,rO0,fun _ _ _ _=>rfl,b5⟩
  case round =>
   obtain⟨i,rfl,hi,hI,hO,hkb,hb⟩:=hrel
   clear rI0 rO0
   by_cases hlt:i<64
   ·have lXi:(upTo 64 X i).length=64:=upTo_len lX hi
    have lYi:(upTo 64 Y i).length=64:=upTo_len lY hi
    obtain⟨cI,fI,sI⟩:=rowT_cell hI (k:=i) (by omega)
    obtain⟨cO,fO,sO⟩:=rowT_cell hO (k:=i) (by omega)
    have r7I:((wr.setCell ⟨w.heap.size,i,none⟩ (.int .u8 54)).setCell ⟨w.heap.size+1,i,none⟩ (.int .u8 92)).heap[w.heap.size]? = some (rowT 215 (dgA ((upTo 64 X i).set i 54))):=(Below.heap_setCell _ _ _ _ (by show w.heap.size≠w.heap.size+1;omega)).trans (sI 54)
    have r7O:((wr.setCell ⟨w.heap.size,i,none⟩ (.int .u8 54)).setCell ⟨w.heap.size+1,i,none⟩ (.int .u8 92)).heap[w.heap.size+1]? = some (rowT 215 (dgA ((upTo 64 Y i).set i 92))):=(rowT_cell ((Below.heap_setCell _ _ _ _ (by show w.heap.size+1≠w.heap.size;omega)).trans hO) (k:=i) (by omega)).2.2 92
    have k7:KeptBut w5 ((wr.setCell ⟨w.heap.size,i,none⟩ (.int .u8 54)).setCell ⟨w.heap.size+1,i,none⟩ (.int .u8 92)) w.heap.size:=fun j hj h1 h2=>(Below.heap_setCell _ _ _ _ h2).trans ((Below.heap_setCell _ _ _ _ h1).trans (hkb j hj h1 h2))
    have b7:Below w.heap.size w ((wr.setCell ⟨w.heap.size,i,none⟩ (.int .u8 54)).setCell ⟨w.heap.size+1,i,none⟩ (.int .u8 92)):=(hb.setCell (Nat.le_refl _) _).setCell (Nat.le_succ _) _
    have HR7:=Lib.hid (And.intro r7I (And.intro r7O (And.intro k7 b7)))
    have HXi:=Lib.hid (HX.out i hlt)
    have HYi:=Lib.hid (HY.out i hlt)
    generalize (upTo 64 X i)[i]'(by omega)=qI at cI
    generalize (upTo 64 Y i)[i]'(by omega)=qO at cO
    clear r7I r7O k7 b7 sI sO hI hO hkb hb
    go_upto_region 8 with fail
    obtain⟨r7I,r7O,k7,b7⟩:=HR7.out
    generalize World.setCell _ _ _=W7 at r7I r7O k7 b7 ⊢
    clear HR7 cI cO fI fO
    have lI7:((upTo 64 X i).set i 54).length=64:=by rw[List.length_set];exact lXi
    have lO7:((upTo 64 Y i).set i 92).length=64:=by rw[List.length_set];exact lYi
    by_cases hik:i<32
    ·have hiK:i<K.length:=by have:=HNK.out;omega
     skip
     obtain⟨q,hq⟩:∃q,q=K[i]:=⟨_,rfl⟩
     have HKC:Hid (∀wy,KeptBut w5 wy w.heap.size→wy.cell? ⟨w1.heap.size,i,none⟩=some (.int .u8 (q.toNat:Int))):=Lib.hid (fun wy h=>by
      have:=SB.cellAt (HK.out wy h) hiK
      rw[←hq] at this
      rw[Nat.zero_add] at this;exact this)
     have hXi:=HXi.out
     have hYi:=HYi.out
     rw[dif_pos hiK,←hq] at hXi hYi
     have x54:bits .xor .u8 54 (q.toNat:Int)=((xor8 54 q).toNat:Int):=X_xor 54 q
     have x92:bits .xor .u8 92 (q.toNat:Int)=((xor8 92 q).toNat:Int):=X_xor 92 q
     generalize xor8 54 q=z54 at hXi x54
     generalize xor8 92 q=z92 at hYi x92
     have eX:((upTo 64 X i).set i 54).set i z54=upTo 64 X (i+1):=by rw[List.set_set];exact upTo_step lX hlt hXi
     have eY:((upTo 64 Y i).set i 92).set i z92=upTo 64 Y (i+1):=by rw[List.set_set];exact upTo_step lY hlt hYi
     obtain⟨d1,f1,s1⟩:=rowT_cell (w:=W7) r7I (k:=i) (by omega)
     have d1':W7.cell? ⟨w.heap.size,i,none⟩=some (.int .u8 54):=by rw[d1];simp
     have f1':W7.frozen? ⟨w.heap.size,i,none⟩=false:=f1
     have r9I:((W7.setCell ⟨w.heap.size,i,none⟩ (u8v z54)).drew).heap[w.heap.size]? = some (rowT 215 (dgA (upTo 64 X (i+1)))):=by rw[←eX];exact s1 z54
     have r9O:((W7.setCell ⟨w.heap.size,i,none⟩ (u8v z54)).drew).heap[w.heap.size+1]? = some (rowT 215 (dgA ((upTo 64 Y i).set i 92))):=(Below.heap_setCell _ _ _ _ (by show w.heap.size+1≠w.heap.size;omega)).trans r7O
     have k9:KeptBut w5 ((W7.setCell ⟨w.heap.size,i,none⟩ (u8v z54)).drew) w.heap.size:=fun j hj h1 h2=>(Below.heap_setCell _ _ _ _ h1).trans (k7 j hj h1 h2)
     have b9':Below w.heap.size w ((W7.setCell ⟨w.heap.size,i,none⟩ (u8v z54)).drew):=(b7.setCell (Nat.le_refl _) _).drew
     have HR9:=Lib.hid (And.intro r9I (And.intro r9O (And.intro k9 b9')))
     have cK:=HKC.out W7 k7
     have HEY:=Lib.hid eY
     clear r9I r9O k9 b9' d1 f1 s1 r7I r7O k7 b7 eX eY hXi hYi hq HXi HYi HX HY
     go_upto_region 9 with fail
     go_region
     all_goals
      obtain⟨r9I,r9O,k9,b9'⟩:=HR9.out
      go_upto_region 10 with fail
      generalize World.drew _=W9 at r9I r9O k9 b9' ⊢
      clear d1' f1' cK x54
      obtain⟨d2,f2,s2⟩:=rowT_cell (w:=W9) r9O (k:=i) (by omega)
      have d2':W9.cell? ⟨w.heap.size+1,i,none⟩=some (.int .u8 92):=by rw[d2];simp
      have f2':W9.frozen? ⟨w.heap.size+1,i,none⟩=false:=f2
      have rAO:((W9.setCell ⟨w.heap.size+1,i,none⟩ (u8v z92)).drew).heap[w.heap.size+1]? = some (rowT 215 (dgA (upTo 64 Y (i+1)))):=by rw[←HEY.out];exact s2 z92
      have rAI:((W9.setCell ⟨w.heap.size+1,i,none⟩ (u8v z92)).drew).heap[w.heap.size]? = some (rowT 215 (dgA (upTo 64 X (i+1)))):=(Below.heap_setCell _ _ _ _ (by show w.heap.size≠w.heap.size+1;omega)).trans r9I
      have kA:KeptBut w5 ((W9.setCell ⟨w.heap.size+1,i,none⟩ (u8v z92)).drew) w.heap.size:=fun j hj h1 h2=>(Below.heap_setCell _ _ _ _ h2).trans (k9 j hj h1 h2)
      have bA':Below w.heap.size w ((W9.setCell ⟨w.heap.size+1,i,none⟩ (u8v z92)).drew):=(b9'.setCell (Nat.le_succ _) _).drew
      have HRA:=Lib.hid (And.intro rAI (And.intro rAO (And.intro kA bA')))
      have cK:=HKC.out W9 k9
      clear d2 f2 s2 rAO rAI kA bA' r9I r9O k9 b9' HR9
      go_region
      all_goals
       go_wp2_with fail
       go_roundw
       case rel=>exact⟨i+1,by go_num,by omega,HRA.out⟩
       case measure=>simp[intOf];omega
    ·have hiK:¬i<K.length:=by have:=HNK.out;omega
     have hXi:=HXi.out
     have hYi:=HYi.out
     rw[dif_neg hiK] at hXi hYi
     have e1:=upTo_step lX hlt hXi
     have e2:=upTo_step lY hlt hYi
     rw[e1] at r7I
     rw[e2] at r7O
     have HR:=Lib.hid (And.intro r7I (And.intro r7O (And.intro k7 b7)))
     clear r7I r7O k7 b7 e1 e2 hXi hYi
     go_wp2_with fail
     go_roundw
     case rel=>exact⟨i+1,by go_num,by omega,HR.out⟩
     case measure=>simp[intOf];omega
   ·have hi64:i=64:=by omega
    subst hi64
    rw[upTo_n lX] at hI
    rw[upTo_n lY] at hO
    obtain⟨cx,hcx⟩:∃cx,cx=dgA X:=⟨_,rfl⟩
    obtain⟨cy,hcy⟩:∃cy,cy=dgA Y:=⟨_,rfl⟩
    have hIx:wr.heap[w.heap.size]? = some (rowT 215 cx):=by rw[hcx];exact hI
    have hOy:wr.heap[w.heap.size+1]? = some (rowT 215 cy):=by rw[hcy];exact hO
    have HSX:Hid (cx.size=64∧cx.all (·.oneCell')=true):=Lib.hid (by rw[hcx];exact⟨by rw[dgA_size,lX],Array.all_eq_true_iff_forall_mem.2 (fun v hv=>dgA_one X v (by simpa using hv))⟩)
    have HSY:Hid (cy.size=64∧cy.all (·.oneCell')=true):=Lib.hid (by rw[hcy];exact⟨by rw[dgA_size,lY],Array.all_eq_true_iff_forall_mem.2 (fun v hv=>dgA_one Y v (by simpa using hv))⟩)
    have HEX:Hid (cx=dgA (xorL 54 (padK k))∧cy=dgA (xorL 92 (padK k))):=Lib.hid ⟨by rw[hcx,HXE.out.1],by rw[hcy,HXE.out.2]⟩
    have HH:=Lib.hid (And.intro hIx hOy)
    clear hcx hcy hI hO hIx hOy lX lY HX HY HXE hkb HK
    go_upto_region 12 with fail
    refine wp_region_noPanic ?_
    refine wp_region_held_drew (S:=fun w'=>w'.heap[w.heap.size]? = some (rowT 215 cx)∧w'.heap[w.heap.size+1]? = some (rowT 215 cy)) (by kernel_rfl) (by exact HH.out) (fun hHeld=>?_)
    refine reg_take 0 (v:=.agg cx) (by rfl) (by kernel_rfl) (by kernel_rfl) (by kernel_rfl) (fun _ _ _ h=>h) (by rfl) ?_ (by assumption) ?_
    ·(intro wq hSq;exact exec_loadT 215 Tryz.underlying215 size64 (.tmp 2) rfl _ rfl cx hSq.1 HSX.out.1)
    try simp only[Act.put,q1,q2,q3]
    refine reg_take 1 (v:=.agg cy) (by rfl) (by kernel_rfl) (by kernel_rfl) (by kernel_rfl) (fun _ _ _ h=>h) (by rfl) ?_ (by assumption) ?_
    ·(intro wq hSq;exact exec_loadT 215 Tryz.underlying215 size64 (.tmp 3) rfl _ rfl cy hSq.2 HSY.out.1)
    try simp only[Act.put,q1,q2,q3]
    refine ro 2 (fun K hK=>?_)
    (refine wp_storeR 215 (.tmp 2) (.tmp 43) rfl _ rfl cx cx rfl (by exact HH.out.1) (by rw[HSX.out.1];exact size64) rfl HSX.out.2 ?_;rw[setRow_self _ _ _ _ _ (by exact HH.out.1)])
    refine hK.out _ _ ?_ (fun hHeld=>?_)
    ·exact HH.out
    clear hK K
    try simp only[Act.put]
    refine ro 3 (fun K hK=>?_)
    (refine wp_storeR 215 (.tmp 3) (.tmp 44) rfl _ rfl cy cy rfl (by exact HH.out.2) (by rw[HSY.out.1];exact size64) rfl HSY.out.2 ?_;rw[setRow_self _ _ _ _ _ (by exact HH.out.2)])
    refine hK.out _ _ ?_ (fun hHeld=>?_)
    ·exact HH.out
    clear hK K
    try simp only[Act.put]
    refine rdn ?_
    go_wp2_with fail
    exact bodyPost_ret (v:=.tuple #[.agg cx,.agg cy]) (res_two Tryz.results142 _ _ _ _ cx cy rfl rfl (by exact HH.out.1) (by exact HH.out.2) HSX.out.1 HSY.out.1) rfl ⟨by rw[HEX.out.1,HEX.out.2],by exact hb.drew⟩
 ·have HKS:Hid (K=k):=Lib.hid (by rw[HK0.out];unfold keyOf64;rw[if_neg hlong])
  have HK:Hid (∀wy,KeptBut wA wy w.heap.size→SB wy w.heap.size (.slice A k.length c) K):=Lib.hid (fun wy h=>by
   rw[HKS.out]
   exact SB.but (hv.below bA) h (by omega) (fun b _ hb=>⟨by omega,by omega⟩))
  have HNK:Hid (k.length=K.length):=Lib.hid (by rw[HKS.out])
  obtain⟨w5,hw5⟩:∃w5,w5=wA:=⟨_,rfl⟩
  subst hw5
  have rI5:=rI
  have rO5:=rO
  have b5:=bA
  clear hv rI rO bA
  have HX:Hid (∀i (hi:i<64),(xorL 54 (padK k))[i]? = some (if h:i<K.length then xor8 54 (K[i]'h) else 54)):=Lib.hid (fun i hi=>by rw[mix_at 54 k i hi];congr 1;have hK:=HK0.out;subst hK;rfl)
  have HY:Hid (∀i (hi:i<64),(xorL 92 (padK k))[i]? = some (if h:i<K.length then xor8 92 (K[i]'h) else 92)):=Lib.hid (fun i hi=>by rw[mix_at 92 k i hi];congr 1;have hK:=HK0.out;subst hK;rfl)
  have lX:(xorL 54 (padK k)).length=64:=by rw[xorL_length,padK_length]
  have lY:(xorL 92 (padK k)).length=64:=by rw[xorL_length,padK_length]
  obtain⟨X,hXe⟩:∃X,X=xorL 54 (padK k):=⟨_,rfl⟩
  obtain⟨Y,hYe⟩:∃Y,Y=xorL 92 (padK k):=⟨_,rfl⟩
  rw[←hXe] at HX lX
  rw[←hYe] at HY lY
  have HXE:=Lib.hid (And.intro hXe hYe)
  clear hXe hYe
  have rI0:w5.heap[w.heap.size]? = some (rowT 215 (dgA (upTo 64 X 0))):=by rw[upTo_0];exact rI5
  have rO0:w5.heap[w.heap.size+1]? = some (rowT 215 (dgA (upTo 64 Y 0))):=by rw[upTo_0];exact rO5
  clear rI5 rO5
  go_wp2_with fail
  go_loopw [13] (fun iv wy=>∃i:Nat,iv=.int .i64 i∧i≤64∧wy.heap[w.heap.size]? = some (rowT 215 (dgA (upTo 64 X i)))∧wy.heap[w.heap.size+1]? = some (rowT 215 (dgA (upTo 64 Y i)))∧KeptBut w5 wy w.heap.size∧Below w.heap.size w wy) (fun iv _=>64-(intOf iv).toNat)
  case atStart=>exact⟨0,rfl,by omega,rI0,rO0,fun _ _ _ _=>rfl,b5⟩
  case round =>
   obtain⟨i,rfl,hi,hI,hO,hkb,hb⟩:=hrel
   clear rI0 rO0
   by_cases hlt:i<64
   ·have lXi:(upTo 64 X i).length=64:=upTo_len lX hi
    have lYi:(upTo 64 Y i).length=64:=upTo_len lY hi
    obtain⟨cI,fI,sI⟩:=rowT_cell hI (k:=i) (by omega)
    obtain⟨cO,fO,sO⟩:=rowT_cell hO (k:=i) (by omega)
    have r7I:((wr.setCell ⟨w.heap.size,i,none⟩ (.int .u8 54)).setCell ⟨w.heap.size+1,i,none⟩ (.int .u8 92)).heap[w.heap.size]? = some (rowT 215 (dgA ((upTo 64 X i).set i 54))):=(Below.heap_setCell _ _ _ _ (by show w.heap.size≠w.heap.size+1;omega)).trans (sI 54)
    have r7O:((wr.setCell ⟨w.heap.size,i,none⟩ (.int .u8 54)).setCell ⟨w.heap.size+1,i,none⟩ (.int .u8 92)).heap[w.heap.size+1]? = some (rowT 215 (dgA ((upTo 64 Y i).set i 92))):=(rowT_cell ((Below.heap_setCell _ _ _ _ (by show w.heap.size+1≠w.heap.size;omega)).trans hO) (k:=i) (by omega)).2.2 92
    have k7:KeptBut w5 ((wr.setCell ⟨w.heap.size,i,none⟩ (.int .u8 54)).setCell ⟨w.heap.size+1,i,none⟩ (.int .u8 92)) w.heap.size:=fun j hj h1 h2=>(Below.heap_setCell _ _ _ _ h2).trans ((Below.heap_setCell _ _ _ _ h1).trans (hkb j hj h1 h2))
    have b7:Below w.heap.size w ((wr.setCell ⟨w.heap.size,i,none⟩ (.int .u8 54)).setCell ⟨w.heap.size+1,i,none⟩ (.int .u8 92)):=(hb.setCell (Nat.le_refl _) _).setCell (Nat.le_succ _) _
    have HR7:=Lib.hid (And.intro r7I (And.intro r7O (And.intro k7 b7)))
    have HXi:=Lib.hid (HX.out i hlt)
    have HYi:=Lib.hid (HY.out i hlt)
    generalize (upTo 64 X i)[i]'(by omega)=qI at cI
    generalize (upTo 64 Y i)[i]'(by omega)=qO at cO
    clear r7I r7O k7 b7 sI sO hI hO hkb hb
    go_upto_region 8 with fail
    obtain⟨r7I,r7O,k7,b7⟩:=HR7.out
    generalize World.setCell _ _ _=W7 at r7I r7O k7 b7 ⊢
    clear HR7 cI cO fI fO
    have lI7:((upTo 64 X i).set i 54).length=64:=by rw[List.length_set];exact lXi
    have lO7:((upTo 64 Y i).set i 92).length=64:=by rw[List.length_set];exact lYi
    by_cases hik:i<k.length
    ·have hiK:i<K.length:=by have:=HNK.out;omega
     have hsb:=HK.out W7 k7
     obtain⟨A9,c9,e9,_,_,hr9⟩:=id hsb
     injection e9 with e91 _ _
     obtain⟨b9,o9,hA9,_,_⟩:=hr9.at_ (by omega)
     rw[←e91] at hA9
     subst hA9
     clear hsb hr9 e91
     obtain⟨q,hq⟩:∃q,q=K[i]:=⟨_,rfl⟩
     have HKC:Hid (∀wy,KeptBut w5 wy w.heap.size→wy.cell? ⟨b9,o9+i,none⟩=some (.int .u8 (q.toNat:Int))):=Lib.hid (fun wy h=>by
      have:=SB.cellAt (HK.out wy h) hiK
      rw[←hq] at this
      exact this)
     have hXi:=HXi.out
     have hYi:=HYi.out
     rw[dif_pos hiK,←hq] at hXi hYi
     have x54:bits .xor .u8 54 (q.toNat:Int)=((xor8 54 q).toNat:Int):=X_xor 54 q
     have x92:bits .xor .u8 92 (q.toNat:Int)=((xor8 92 q).toNat:Int):=X_xor 92 q
     generalize xor8 54 q=z54 at hXi x54
     generalize xor8 92 q=z92 at hYi x92
     have eX:((upTo 64 X i).set i 54).set i z54=upTo 64 X (i+1):=by rw[List.set_set];exact upTo_step lX hlt hXi
     have eY:((upTo 64 Y i).set i 92).set i z92=upTo 64 Y (i+1):=by rw[List.set_set];exact upTo_step lY hlt hYi
     obtain⟨d1,f1,s1⟩:=rowT_cell (w:=W7) r7I (k:=i) (by omega)
     have d1':W7.cell? ⟨w.heap.size,i,none⟩=some (.int .u8 54):=by rw[d1];simp
     have f1':W7.frozen? ⟨w.heap.size,i,none⟩=false:=f1
     have r9I:((W7.setCell ⟨w.heap.size,i,none⟩ (u8v z54)).drew).heap[w.heap.size]? = some (rowT 215 (dgA (upTo 64 X (i+1)))):=by rw[←eX];exact s1 z54
     have r9O:((W7.setCell ⟨w.heap.size,i,none⟩ (u8v z54)).drew).heap[w.heap.size+1]? = some (rowT 215 (dgA ((upTo 64 Y i).set i 92))):=(Below.heap_setCell _ _ _ _ (by show w.heap.size+1≠w.heap.size;omega)).trans r7O
     have k9:KeptBut w5 ((W7.setCell ⟨w.heap.size,i,none⟩ (u8v z54)).drew) w.heap.size:=fun j hj h1 h2=>(Below.heap_setCell _ _ _ _ h1).trans (k7 j hj h1 h2)
     have b9':Below w.heap.size w ((W7.setCell ⟨w.heap.size,i,none⟩ (u8v z54)).drew):=(b7.setCell (Nat.le_refl _) _).drew
     have HR9:=Lib.hid (And.intro r9I (And.intro r9O (And.intro k9 b9')))
     have cK:=HKC.out W7 k7
     have HEY:=Lib.hid eY
     clear r9I r9O k9 b9' d1 f1 s1 r7I r7O k7 b7 eX eY hXi hYi hq HXi HYi HX HY
     go_upto_region 9 with fail
     go_region
     all_goals
      obtain⟨r9I,r9O,k9,b9'⟩:=HR9.out
      go_upto_region 10 with fail
      generalize World.drew _=W9 at r9I r9O k9 b9' ⊢
      clear d1' f1' cK x54
      obtain⟨d2,f2,s2⟩:=rowT_cell (w:=W9) r9O (k:=i) (by omega)
      have d2':W9.cell? ⟨w.heap.size+1,i,none⟩=some (.int .u8 92):=by rw[d2];simp
      have f2':W9.frozen? ⟨w.heap.size+1,i,none⟩=false:=f2
      have rAO:((W9.setCell ⟨w.heap.size+1,i,none⟩ (u8v z92)).drew).heap[w.heap.size+1]? = some (rowT 215 (dgA (upTo 64 Y (i+1)))):=by rw[←HEY.out];exact s2 z92
      have rAI:((W9.setCell ⟨w.heap.size+1,i,none⟩ (u8v z92)).drew).heap[w.heap.size]? = some (rowT 215 (dgA (upTo 64 X (i+1)))):=(Below.heap_setCell _ _ _ _ (by show w.heap.size≠w.heap.size+1;omega)).trans r9I
      have kA:KeptBut w5 ((W9.setCell ⟨w.heap.size+1,i,none⟩ (u8v z92)).drew) w.heap.size:=fun j hj h1 h2=>(Below.heap_setCell _ _ _ _ h2).trans (k9 j hj h1 h2)
      have bA':Below w.heap.size w ((W9.setCell ⟨w.heap.size+1,i,none⟩ (u8v z92)).drew):=(b9'.setCell (Nat.le_succ _) _).drew
      have HRA:=Lib.hid (And.intro rAI (And.intro rAO (And.intro kA bA')))
      have cK:=HKC.out W9 k9
      clear d2 f2 s2 rAO rAI kA bA' r9I r9O k9 b9' HR9
      go_region
      all_goals
       go_wp2_with fail
       go_roundw
       case rel=>exact⟨i+1,by go_num,by omega,HRA.out⟩
       case measure=>simp[intOf];omega
    ·have hiK:¬i<K.length:=by have:=HNK.out;omega
     have hXi:=HXi.out
     have hYi:=HYi.out
     rw[dif_neg hiK] at hXi hYi
     have e1:=upTo_step lX hlt hXi
     have e2:=upTo_step lY hlt hYi
     rw[e1] at r7I
     rw[e2] at r7O
     have HR:=Lib.hid (And.intro r7I (And.intro r7O (And.intro k7 b7)))
     clear r7I r7O k7 b7 e1 e2 hXi hYi
     go_wp2_with fail
     go_roundw
     case rel=>exact⟨i+1,by go_num,by omega,HR.out⟩
     case measure=>simp[intOf];omega
   ·have hi64:i=64:=by omega
    subst hi64
    rw[upTo_n lX] at hI
    rw[upTo_n lY] at hO
    obtain⟨cx,hcx⟩:∃cx,cx=dgA X:=⟨_,rfl⟩
    obtain⟨cy,hcy⟩:∃cy,cy=dgA Y:=⟨_,rfl⟩
    have hIx:wr.heap[w.heap.size]? = some (rowT 215 cx):=by rw[hcx];exact hI
    have hOy:wr.heap[w.heap.size+1]? = some (rowT 215 cy):=by rw[hcy];exact hO
    have HSX:Hid (cx.size=64∧cx.all (·.oneCell')=true):=Lib.hid (by rw[hcx];exact⟨by rw[dgA_size,lX],Array.all_eq_true_iff_forall_mem.2 (fun v hv=>dgA_one X v (by simpa using hv))⟩)
    have HSY:Hid (cy.size=64∧cy.all (·.oneCell')=true):=Lib.hid (by rw[hcy];exact⟨by rw[dgA_size,lY],Array.all_eq_true_iff_forall_mem.2 (fun v hv=>dgA_one Y v (by simpa using hv))⟩)
    have HEX:Hid (cx=dgA (xorL 54 (padK k))∧cy=dgA (xorL 92 (padK k))):=Lib.hid ⟨by rw[hcx,HXE.out.1],by rw[hcy,HXE.out.2]⟩
    have HH:=Lib.hid (And.intro hIx hOy)
    clear hcx hcy hI hO hIx hOy lX lY HX HY HXE hkb HK
    go_upto_region 12 with fail
    refine wp_region_noPanic ?_
    refine wp_region_held_drew (S:=fun w'=>w'.heap[w.heap.size]? = some (rowT 215 cx)∧w'.heap[w.heap.size+1]? = some (rowT 215 cy)) (by kernel_rfl) (by exact HH.out) (fun hHeld=>?_)
    refine reg_take 0 (v:=.agg cx) (by rfl) (by kernel_rfl) (by kernel_rfl) (by kernel_rfl) (fun _ _ _ h=>h) (by rfl) ?_ (by assumption) ?_
    ·(intro wq hSq;exact exec_loadT 215 Tryz.underlying215 size64 (.tmp 2) rfl _ rfl cx hSq.1 HSX.out.1)
    try simp only[Act.put,q1,q2,q3]
    refine reg_take 1 (v:=.agg cy) (by rfl) (by kernel_rfl) (by kernel_rfl) (by kernel_rfl) (fun _ _ _ h=>h) (by rfl) ?_ (by assumption) ?_
    ·(intro wq hSq;exact exec_loadT 215 Tryz.underlying215 size64 (.tmp 3) rfl _ rfl cy hSq.2 HSY.out.1)
    try simp only[Act.put,q1,q2,q3]
    refine ro 2 (fun K hK=>?_)
    (refine wp_storeR 215 (.tmp 2) (.tmp 43) rfl _ rfl cx cx rfl (by exact HH.out.1) (by rw[HSX.out.1];exact size64) rfl HSX.out.2 ?_;rw[setRow_self _ _ _ _ _ (by exact HH.out.1)])
    refine hK.out _ _ ?_ (fun hHeld=>?_)
    ·exact HH.out
    clear hK K
    try simp only[Act.put]
    refine ro 3 (fun K hK=>?_)
    (refine wp_storeR 215 (.tmp 3) (.tmp 44) rfl _ rfl cy cy rfl (by exact HH.out.2) (by rw[HSY.out.1];exact size64) rfl HSY.out.2 ?_;rw[setRow_self _ _ _ _ _ (by exact HH.out.2)])
    refine hK.out _ _ ?_ (fun hHeld=>?_)
    ·exact HH.out
    clear hK K
    try simp only[Act.put]
    refine rdn ?_
    go_wp2_with fail
    exact bodyPost_ret (v:=.tuple #[.agg cx,.agg cy]) (res_two Tryz.results142 _ _ _ _ cx cy rfl rfl (by exact HH.out.1) (by exact HH.out.2) HSX.out.1 HSY.out.1) rfl ⟨by rw[HEX.out.1,HEX.out.2],by exact hb.drew⟩
end Go.Proofs.YtchjknbideoieaaGreatDoor
namespace Go.Proofs.YtchjknbideoieaaGreatDoor
set_option maxRecDepth 100000
set_option maxHeartbeats 8000000
open Go.RowKit
theorem flatTwo (a b:List UInt8):[a,b].flatten=a++b:=by simp
theorem kPadsC (k:List UInt8) (cx cy:Array Value) (hx:dgA (xorL 54 (padK k))=cx) (hy:dgA (xorL 92 (padK k))=cy) (v:Value) (w:World) (hv:SB w w.heap.size v k) (hl:k.length≤1152921504606846000) (hk:KTab w 0) (h1:0<w.heap.size) :
  Calls Tryz.prog 142 #[v] w fun e w'=>e=.returned (.tuple #[.agg cx,.agg cy])∧Below w.heap.size w w':=by subst hx;subst hy;exact kPads_any k v w hv hl hk h1
theorem kMac_any (key:List UInt8) (ls:List (List UInt8)) (v u:Value) (w:World) (hv:SB w w.heap.size v key) (hu:LL w w.heap.size u ls) (hl:key.length≤1152921504606846000) (hl2:ls.flatten.length≤1152921504606845000) (hk:KTab w 0) (h1:0<w.heap.size) :
  Calls Tryz.prog 128 #[v,u] w fun e w'=>e=.returned (digV (macOf key ls.flatten))∧Below w.heap.size w w':=by
 obtain⟨vs,⟨A,c,rfl,hlc,hcm,hr⟩,hvl,hvs⟩:=hu
 have hcm2:c≤9223372036854775807:=by unfold maxLen at hcm;omega
 clear hcm
 have HV:=Lib.hid hvs
 obtain⟨Ak,ck,rfl,_,_,_⟩:=id hv
 clear hvs
 obtain⟨X,hX⟩:∃X,X=xorL 54 (padK key):=⟨_,rfl⟩
 obtain⟨Y,hY⟩:∃Y,Y=xorL 92 (padK key):=⟨_,rfl⟩
 have lX:X.length=64:=by rw[hX,xorL_length,padK_length]
 have lY:Y.length=64:=by rw[hY,xorL_length,padK_length]
 obtain⟨cx,hcx⟩:∃cx,dgA X=cx:=⟨_,rfl⟩
 obtain⟨cy,hcy⟩:∃cy,dgA Y=cy:=⟨_,rfl⟩
 have HNX:Hid (cx.size=64∧∀v∈cx.toList,v.oneCell'=true):=Lib.hid (by rw[←hcx];exact⟨by rw[dgA_size,lX],dgA_one _⟩)
 have HNY:Hid (cy.size=64∧∀v∈cy.toList,v.oneCell'=true):=Lib.hid (by rw[←hcy];exact⟨by rw[dgA_size,lY],dgA_one _⟩)
 have HPD:Hid (dgA (xorL 54 (padK key))=cx∧dgA (xorL 92 (padK key))=cy):=Lib.hid ⟨by rw[←hX];exact hcx,by rw[←hY];exact hcy⟩
 have HCX:=Lib.hid hcx
 have HCY:=Lib.hid hcy
 obtain⟨d1,hd1⟩:∃d1,dgA (shaOf (X++ls.flatten))=d1:=⟨_,rfl⟩
 obtain⟨d2,hd2⟩:∃d2,dgA (shaOf (Y++shaOf (X++ls.flatten)))=d2:=⟨_,rfl⟩
 have HN1:Hid (d1.size=32∧∀v∈d1.toList,v.oneCell'=true):=Lib.hid (by rw[←hd1];exact⟨by rw[dgA_size,shaOf_length],dgA_one _⟩)
 have HN2:Hid (d2.size=32∧∀v∈d2.toList,v.oneCell'=true):=Lib.hid (by rw[←hd2];exact⟨by rw[dgA_size,shaOf_length],dgA_one _⟩)
 have HD1:=Lib.hid hd1
 have HD2:=Lib.hid hd2
 have HE:Hid (digV (macOf key ls.flatten)=.agg d2):=Lib.hid (by rw[←hd2,hX,hY];rfl)
 clear hcx hcy hd1 hd2 hX hY
 rw[HE.out]
 go_enter Tryz.func128,Tryz.ntmps128
 go_upto_region 1 with fail
 generalize hWA:w.alloc _=wA
 have rR:wA.heap[w.heap.size]? = some (rowO (dgA (List.replicate 32 0))):=by rw[←hWA];exact (heap_alloc_new w _).trans (by kernel_rfl)
 have bA:Below w.heap.size w wA:=by rw[←hWA];exact balloc (bself w) _
 have zA:w.heap.size<wA.heap.size:=by rw[←hWA];simp
 clear hWA
 have HP:=Lib.hid (kPadsC key cx cy HPD.out.1 HPD.out.2 _ wA ((hv.below bA).more (by omega)) hl (hk.on bA h1) (by omega))
 clear hv
 go_wp2_with fail
 refine HP.out.mono ?_
 rintro e w1 ⟨rfl,hb1⟩
 have z1:=hb1.size
 go_upto_region 2 with (first
  | (refine wl_storeT 215 size64 rfl (.tmp 5) (.tmp 14) rfl _ rfl _ cx rfl (heap_alloc2_old w1 _ _) (by kernel_rfl) HNX.out.1 HNX.out.2 ?_)
  | (refine wl_storeT 215 size64 rfl (.tmp 6) (.tmp 15) rfl _ rfl _ cy rfl ((setRow_other _ _ _ _ (by omega)).trans (heap_alloc2_new w1 _ _)) (by kernel_rfl) HNY.out.1 HNY.out.2 ?_))
 generalize hw2:World.setRow _ _ _=w2
 have rI:w2.heap[w1.heap.size]? = some (rowT 215 cx):=by rw[←hw2];exact (setRow_other _ _ _ _ (by omega)).trans (setRow_heap _ _ _ _ _ _ (heap_alloc2_old w1 _ _))
 have rO:w2.heap[w1.heap.size+1]? = some (rowT 215 cy):=by rw[←hw2];exact setRow_heap _ _ _ _ _ _ ((setRow_other _ _ _ _ (by omega)).trans (heap_alloc2_new w1 _ _))
 have b12:Below w1.heap.size w1 w2:=by rw[←hw2];exact below_setRow (below_setRow (balloc (balloc (bself w1) _) _) (Nat.le_refl _) _) (by omega) _
 have z2:Hid (w2.heap.size=w1.heap.size+2):=Lib.hid (by rw[←hw2];simp)
 clear hw2
 have bA2:Below wA.heap.size wA w2:=bstep hb1 b12
 go_wp2_with fail
 refine (kNew_any _).mono ?_
 rintro e w3 ⟨P,rfl,hst3,hb3⟩
 have z3:=hb3.size
 have bA3:=bstep bA2 hb3
 have bw3:Below w.heap.size w w3:=bA.trans (bA3.mono bA.size)
 have hin:SB w3 w2.heap.size (.slice (some ⟨w1.heap.size,0,none⟩) 64 64) X:=SB.ofRow ((hb3.block w1.heap.size (by have:=z2.out;omega)).trans rI) HCX.out lX.symm (by have:=z2.out;omega) (by rw[lX];simp[maxLen])
 have hvs3:VS w3 P (.slice (some ⟨w1.heap.size,0,none⟩) 64 64) X:=VS.old (B:=w2.heap.size) hin z3 (by obtain⟨_,_,_,_,h5⟩:=hst3;exact h5) (fun k hk=>(hst3.row k hk).1)
 have HW:=Lib.hid (kWrite_any w2.heap.size P [] X _ w3 hst3 hvs3 (by rw[lX];simp only[List.length_nil];omega) (hk.on bw3 h1) (by have:=z2.out;omega) z3)
 have HO3:Hid (∀w',Below w2.heap.size w3 w'→w'.heap[w1.heap.size+1]? = some (rowT 215 cy)∧w'.heap[w.heap.size]? = some (rowO (dgA (List.replicate 32 0)))∧Below w.heap.size w w'):=Lib.hid (fun w' h=>by
  have h2:Below w2.heap.size w2 w':=hb3.trans h
  have h3:Below wA.heap.size wA w':=bA2.trans (h2.mono bA2.size)
  exact⟨(h2.block (w1.heap.size+1) (by have:=z2.out;omega)).trans rO,(h3.block w.heap.size (by omega)).trans rR,bA.trans (h3.mono bA.size)⟩)
 clear hst3 hin hvs3 rI rO b12 bA2 bA3 rR
 go_wp2_with fail
 refine HW.out.mono ?_
 rintro e w4 ⟨rfl,hst4,_,_,hb4⟩
 rw[List.nil_append] at hst4
 have hz4:=hb4.size
 go_wp2_with fail
 go_loopw [22] (fun iv wy=>∃i:Nat,iv=.int .i64 i∧i≤ls.length∧StAt wy w2.heap.size P (X++(ls.take i).flatten)∧Below w2.heap.size w3 wy) (fun iv _=>ls.length-(intOf iv).toNat)
 case atStart=>exact⟨0,rfl,Nat.zero_le _,by rw[List.take_zero,List.flatten_nil,List.append_nil];exact hst4,hb4⟩
 case round =>
  obtain⟨i,rfl,hi,hst,hb⟩:=hrel
  clear hst4 hb4
  have bw:Below w.heap.size w wr:=(HO3.out wr hb).2.2
  have hzw:=bw.size
  have hz3:=hb.size
  by_cases hlt:i<ls.length
  ·obtain⟨b,o,rfl,hbl,hc⟩:=hr.at_ (by omega)
   obtain⟨x,hx⟩:∃x,vs[i]? = some x:=⟨_,List.getElem?_eq_getElem (by omega)⟩
   obtain⟨l,hL⟩:∃l,ls[i]? = some l:=⟨_,List.getElem?_eq_getElem hlt⟩
   have hsb:=HV.out i x l hx hL
   have cU:=(bw.cell (p:=⟨b,o+i,none⟩) hbl).trans (hc i x hx)
   have hFT:=flat_take ls i l hL
   have hFL:=flat_le ls (i+1)
   rw[hFT,List.length_append] at hFL
   have hP2:w2.heap.size≤P:=by obtain⟨_,_,_,_,h5⟩:=hst;exact h5
   have hvsU:VS wr P x l:=VS.old (B:=w.heap.size) (hsb.below bw) hzw (by have:=z2.out;omega) (fun k hk=>by have h2:=(hst.row k hk).1;have:=z2.out;omega)
   have HPW:=Lib.hid (kWrite_any w2.heap.size P (X++(ls.take i).flatten) l x wr hst hvsU (by rw[List.length_append,lX];omega) (hk.on bw h1) (by have:=z2.out;omega) (by omega))
   have HFT:Hid (X++(ls.take i).flatten++l=X++(ls.take (i+1)).flatten):=Lib.hid (by rw[hFT,List.append_assoc])
   obtain⟨Au,cu,rfl,_,_,_⟩:=hsb
   clear hst hvsU hFT hFL hc hx hL
   go_wp2_with fail
   refine HPW.out.mono ?_
   rintro e2 w5 ⟨rfl,hst5,_,_,hb5⟩
   rw[HFT.out] at hst5
   have hb6:=hb.trans hb5
   go_wp2_with fail
   go_roundw
   case rel=>exact⟨i+1,by go_num,by omega,hst5,hb6⟩
   case measure=>simp[intOf];omega
  ·have hil:i=ls.length:=by omega
   subst hil
   rw[List.take_length] at hst
   have HS:=Lib.hid (kStSumC w2.heap.size P (X++ls.flatten) d1 HD1.out wr hst (by rw[List.length_append,lX];omega) (hk.on bw h1) (by omega))
   clear hst
   go_wp2_with fail
   refine HS.out.mono ?_
   rintro e w9 ⟨rfl,hb9⟩
   have hb39:Below w2.heap.size w3 w9:=hb.trans (hb9.mono (by omega))
   have z9:=hb39.size
   go_upto_region 10 with (refine wl_storeD rfl (.tmp 10) (.tmp 31) rfl _ rfl _ d1 rfl (heap_alloc_new w9 _) (by kernel_rfl) HN1.out.1 HN1.out.2 ?_)
   generalize hw10:World.setRow _ _ _=w10
   have rD:w10.heap[w9.heap.size]? = some (rowO d1):=by rw[←hw10];exact setRow_heap _ _ _ _ _ _ (heap_alloc_new w9 _)
   have b910:Below w9.heap.size w9 w10:=by rw[←hw10];exact below_setRow (balloc (bself w9) _) (Nat.le_refl _) _
   have z10:Hid (w10.heap.size=w9.heap.size+1):=Lib.hid (by rw[←hw10];simp)
   clear hw10
   obtain⟨rY,rR10,bw10⟩:=HO3.out w10 (hb39.trans (b910.mono (by omega)))
   have hl11:w1.heap.size+1<w9.heap.size:=by have:=z2.out;omega
   have hl12:w.heap.size<w10.heap.size:=by have:=z10.out;omega
   have sY:SB w10 w10.heap.size (.slice (some ⟨w1.heap.size+1,0,none⟩) 64 64) Y:=SB.ofRow rY HCY.out lY.symm (by have:=z10.out;omega) (by rw[lY];simp[maxLen])
   have sD:SB w10 w10.heap.size (.slice (some ⟨w9.heap.size,0,none⟩) 32 32) (shaOf (X++ls.flatten)):=SB.ofRow rD HD1.out (shaOf_length _).symm (by have:=z10.out;omega) (by rw[shaOf_length];simp[maxLen])
   have hL:LL ((w10.alloc (.cells #[.slice (some ⟨w1.heap.size+1,0,none⟩) 64 64,.slice (some ⟨w9.heap.size,0,none⟩) 32 32] 56)).drew) ((w10.alloc (.cells #[.slice (some ⟨w1.heap.size+1,0,none⟩) 64 64,.slice (some ⟨w9.heap.size,0,none⟩) 32 32] 56)).drew).heap.size (.slice (some ⟨w10.heap.size,0,none⟩) 2 2) [Y,shaOf (X++ls.flatten)]:=LL.drew (LL.new (w:=w10) [.slice (some ⟨w1.heap.size+1,0,none⟩) 64 64,.slice (some ⟨w9.heap.size,0,none⟩) 32 32] [Y,shaOf (X++ls.flatten)] 56 rfl rfl rfl (by simp[maxLen]) (fun i u l h1 h2=>by
    rcases i with _|_|i
    ·simp at h1 h2;subst h1;subst h2;exact sY
    ·simp at h1 h2;subst h1;subst h2;exact sD
    ·simp at h1))
   have bL:Below w.heap.size w ((w10.alloc (.cells #[.slice (some ⟨w1.heap.size+1,0,none⟩) 64 64,.slice (some ⟨w9.heap.size,0,none⟩) 32 32] 56)).drew):=bdrew (balloc bw10 _)
   have HCALL:=Lib.hid (kSumC [Y,shaOf (X++ls.flatten)] d2 (by rw[flatTwo];exact HD2.out) _ _ hL (by rw[flatTwo,List.length_append,lY,shaOf_length];omega) (hk.on bL h1) (by have:=bL.size;omega))
   have HRL:Hid (∀w',Below ((w10.alloc (.cells #[.slice (some ⟨w1.heap.size+1,0,none⟩) 64 64,.slice (some ⟨w9.heap.size,0,none⟩) 32 32] 56)).drew).heap.size ((w10.alloc (.cells #[.slice (some ⟨w1.heap.size+1,0,none⟩) 64 64,.slice (some ⟨w9.heap.size,0,none⟩) 32 32] 56)).drew) w'→w'.heap[w.heap.size]? = some (rowO (dgA (List.replicate 32 0)))∧Below w.heap.size w w'):=Lib.hid (fun w' h=>⟨(h.block w.heap.size (by show w.heap.size<(w10.alloc (.cells #[.slice (some ⟨w1.heap.size+1,0,none⟩) 64 64,.slice (some ⟨w9.heap.size,0,none⟩) 32 32] 56)).heap.size;rw[World.size_alloc];omega)).trans ((Below.heap_alloc w10 _ _ hl12).trans rR10),bstep bL h⟩)
   clear rD rY rR10 sY sD hL bL b910 hb39 hb hb9
   refine wp_region_noPanic ?_
   refine wp_region_held_drew (S:=fun _=>True) (by kernel_rfl) trivial (fun hHeld=>?_)
   refine rtk 0 ?_
   refine rtk 1 ?_
   refine ro 2 (fun K hK=>?_)
   (go_simp)
   refine hK.out _ _ ?_ (fun hHeld=>?_)
   ·trivial
   clear hK K
   try simp only[Act.put,q1,q2,q3]
   refine ro 3 (fun K hK=>?_)
   (go_simp;go_at_call 96;refine HCALL.out.mono ?_;rintro e w11 ⟨rfl,hb11⟩;obtain⟨r11,b11⟩:=HRL.out w11 hb11;go_wp2_with fail)
   refine hK.out _ _ ?_ (fun hHeld=>?_)
   ·trivial
   clear hK K
   try simp only[Act.put,q1,q2,q3]
   refine ro 4 (fun K hK=>?_)
   (refine wp_storeR 53 (.tmp 4) (.tmp 35) rfl _ rfl _ d2 rfl r11 (by rw[HN2.out.1];kernel_rfl) (by rw[HN2.out.1,dgA_size];rfl) (Array.all_eq_true_iff_forall_mem.2 (fun v hv=>HN2.out.2 v (by simpa using hv))) ?_)
   refine hK.out _ _ ?_ (fun hHeld=>?_)
   ·trivial
   clear hK K
   try simp only[Act.put]
   refine rdn ?_
   go_wp2_with fail
   exact bodyPost_ret (v:=.agg d2) (res_dig Tryz.results128 _ _ _ d2 rfl (setRow_heap _ _ _ _ _ _ r11) HN2.out.1) rfl ⟨rfl,below_setRow b11 (Nat.le_refl _) _⟩
end Go.Proofs.YtchjknbideoieaaGreatDoor
namespace Go.Proofs.YtchjknbideoieaaGreatDoor
set_option maxRecDepth 100000
set_option maxHeartbeats 8000000
open Go.RowKit
theorem kMacC (key:List UInt8) (ls:List (List UInt8)) (d:Array Value) (hd:dgA (macOf key ls.flatten)=d) (v u:Value) (w:World) (hv:SB w w.heap.size v key) (hu:LL w w.heap.size u ls) (hl:key.length≤1152921504606846000) (hl2:ls.flatten.length≤1152921504606845000) (hk:KTab w 0) (h1:0<w.heap.size) :
  Calls Tryz.prog 128 #[v,u] w fun e w'=>e=.returned (.agg d)∧Below w.heap.size w w':=by subst hd;exact kMac_any key ls v u w hv hu hl hl2 hk h1
end Go.Proofs.YtchjknbideoieaaGreatDoor
namespace Go.Proofs.YtchjknbideoieaaGreatDoor
set_option maxRecDepth 100000
set_option maxHeartbeats 8000000
open Go.RowKit
theorem kExtract_any (key b:List UInt8) (d:Array Value) (hd:dgA (macOf key b)=d) (v u:Value) (w:World) (hv:SB w w.heap.size v key) (hu:SB w w.heap.size u b) (hl:key.length≤1152921504606846000) (hl2:b.length≤1152921504606845000) (hk:KTab w 0) (h1:0<w.heap.size) :
  Calls Tryz.prog 112 #[v,u] w fun e w'=>e=.returned (.agg d)∧Below w.heap.size w w':=by
 have HN:Hid (d.size=32∧∀v∈d.toList,v.oneCell'=true):=Lib.hid (by rw[←hd];exact⟨by rw[dgA_size,macOf_length],dgA_one _⟩)
 have HD:=Lib.hid hd
 clear hd
 obtain⟨A2,c2,rfl,_,_,_⟩:=id hu
 go_enter Tryz.func112,Tryz.ntmps112
 go_upto_region 1 with fail
 generalize hWA:w.alloc _=wA
 have rR:wA.heap[w.heap.size]? = some (rowO (dgA (List.replicate 32 0))):=by rw[←hWA];exact (heap_alloc_new w _).trans (by kernel_rfl)
 have bA:Below w.heap.size w wA:=by rw[←hWA];exact balloc (bself w) _
 have zA:w.heap.size<wA.heap.size:=by rw[←hWA];simp
 clear hWA
 have hL:LL (wA.alloc (.cells #[.slice A2 b.length c2] 56)) _ (.slice (some ⟨wA.heap.size,0,none⟩) 1 1) [b]:=LL.one 56 rfl ((hu.below bA).more (by omega))
 have bB:=balloc bA (.cells #[.slice A2 b.length c2] 56)
 have HM:=Lib.hid (kMacC key [b] d (by rw[flat1];exact HD.out) v _ _ ((hv.below bB).more (by rw[World.size_alloc];omega)) hL hl (by rw[flat1];exact hl2) (hk.on bB h1) (by rw[World.size_alloc];omega))
 have HR:Hid (∀w',Below (wA.alloc (.cells #[.slice A2 b.length c2] 56)).heap.size (wA.alloc (.cells #[.slice A2 b.length c2] 56)) w'→w'.heap[w.heap.size]? = some (rowO (dgA (List.replicate 32 0)))∧(w'.setRow w.heap.size d).heap[w.heap.size]? = some (rowO d)∧Below w.heap.size w (w'.setRow w.heap.size d)):=Lib.hid (fun w' h=>by
  have h2:Below wA.heap.size wA w':=bstep (balloc (bself wA) _) h
  have h3:=(h2.block w.heap.size (by omega)).trans rR
  exact⟨h3,setRow_heap _ _ _ _ _ _ h3,below_setRow (bA.trans (h2.mono bA.size)) (Nat.le_refl _) _⟩)
 have HZ:Hid ((dgA (List.replicate 32 0)).size=32):=Lib.hid (by rw[dgA_size];rfl)
 clear hL bB rR bA hv hu
 go_wp2_with fail
 refine HM.out.mono ?_
 rintro e w7 ⟨rfl,hb7⟩
 have h7:=Lib.hid (HR.out w7 hb7)
 clear HM HR hb7
 go_wp2_with (refine wl_storeD rfl (.tmp 4) (.tmp 8) rfl _ rfl _ d rfl h7.out.1 HZ.out HN.out.1 HN.out.2 ?_)
 exact bodyPost_ret (v:=.agg d) (res_dig Tryz.results112 _ _ _ d rfl h7.out.2.1 HN.out.1) rfl ⟨rfl,h7.out.2.2⟩
theorem exec_loadD' {o:Oper} {a:Act} {w:World} (x:Operand) (ho:o.op=.load 53 x) (g:Nat) (hx:a.eval x=.pointer (some ⟨g,0,none⟩)) (cs:Array Value) (hg:w.heap[g]? = some (rowO cs)) (hn:cs.size=32) :
  (execOp a.eval o).run Tryz.prog w=.ok (.value (.agg cs)) w:=by
 unfold execOp
 simp only[ho,hx,Instr.loadAt,Instr.sureAddr,Sem.run_bind,Sem.run_pure,Result.andThen_ok,run_loadVar_row w g 53 53 cs (0,0) _ hg Tryz.underlying53 rfl (by rw[hn];kernel_rfl)]
theorem LL3 {w:World} {x y z:Value} {a b c:List UInt8} {g:Nat} (t:TypeId) (hg:g=w.heap.size) (hx:SB w w.heap.size x a) (hy:SB w w.heap.size y b) (hz:SB w w.heap.size z c):LL (w.alloc (.cells #[x,y,z] t)) (w.alloc (.cells #[x,y,z] t)).heap.size (.slice (some ⟨g,0,none⟩) 3 3) [a,b,c] :=
 LL.new [x,y,z] [a,b,c] t hg rfl rfl (by simp[maxLen]) (fun i u l h1 h2=>by
  rcases i with _|_|_|i
  ·simp at h1 h2;subst h1;subst h2;exact hx
  ·simp at h1 h2;subst h1;subst h2;exact hy
  ·simp at h1 h2;subst h1;subst h2;exact hz
  ·simp at h1)
theorem flat3 (a b c:List UInt8):[a,b,c].flatten=a++(b++c):=by simp
end Go.Proofs.YtchjknbideoieaaGreatDoor
namespace Go.Proofs.YtchjknbideoieaaGreatDoor
set_option maxRecDepth 100000
set_option maxHeartbeats 8000000
open Go.RowKit
theorem mkOut (w:World) (n:Nat) (hn:n≤8160):∃M:Array Value,(Instr.makeSlice 56 (.int .i64 0) (.int .i64 ((n:Int)+32))).run Tryz.prog w=.ok (.slice (some ⟨w.heap.size,0,none⟩) 0 (n+32)) (w.alloc (.cells M 5)) ∧
  OB (w.alloc (.cells M 5)) w.heap.size (.slice (some ⟨w.heap.size,0,none⟩) 0 (n+32)) []:=by
 obtain⟨i0,hi0,hz0,hz1,hz2⟩:=info_parts infoB
 have h:=run_make (P:=Tryz.prog) w 56 5 i0 _ Tryz.underlying56 hi0 hz0 .i64 .i64 0 ((n:Int)+32) (by omega) (by omega) (by rw[hz2];omega) (by omega)
 rw[hz1] at h
 have e:((n:Int)+32).toNat=n+32:=by omega
 rw[e] at h
 refine⟨_,h,⟨rfl,.inr ⟨w.heap.size,n+32,_,rfl,Nat.le_refl _,heap_alloc_new w _,by simp,by simp only[maxLen];omega,?_,by simp[bv]⟩⟩⟩
 simp[madeCells]
theorem OB.form0 {w:World} {base:Nat} {v:Value} {l:List UInt8} (h:OB w base v l) (hl:0<l.length):∃g c,v=.slice (some ⟨g,0,none⟩) l.length c:=by
 obtain⟨h1,h2⟩:=h
 rcases h2 with ⟨_,e⟩|⟨g',cap,cur,e1,_⟩
 ·omega
 ·exact⟨g',cap,e1⟩
theorem kExpand_at (key use:List UInt8) (n:Nat) (hn:n≤8160) (v u:Value) (w:World) (hv:SB w w.heap.size v key) (hu:SB w w.heap.size u use) (hl:key.length≤140737488354000) (hl2:use.length≤140737488354000) (hk:KTab w 0) (h1:0<w.heap.size) :
  Calls Tryz.prog 113 #[v,u,.int .i64 (n:Int)] w fun e w'=>∃g,e=.returned (.tuple #[.slice (some ⟨g,0,none⟩) n n,.int .i64 0])∧SB w' w'.heap.size (.slice (some ⟨g,0,none⟩) n n) (expand key use n)∧Below w.heap.size w w'∧w.heap.size≤g:=by
 obtain⟨A,c,rfl,_,_,_⟩:=id hv
 obtain⟨A2,c2,rfl,_,_,_⟩:=id hu
 have e0:¬(n:Int)<0:=by omega
 have e8:¬8160<(n:Int):=by omega
 obtain⟨M,hM,own0⟩:=mkOut w n hn
 go_enter Tryz.func113,Tryz.ntmps113
 go_wp2_with fail
 go_loopw [8,9] (fun ov kv wy=>∃(i m g c9:Nat) (kz:Int),kv=.int .u8 kz∧ov=.slice (some ⟨g,0,none⟩) m c9∧Hid (kz=((i:Int)+1)%256)∧Hid (m=32*i)∧i≤pieces n∧OB wy w.heap.size ov (expAll key use i)∧Below w.heap.size w wy) (fun ov _ _=>pieces n*32-sliceLenS ov)
 case atStart=>exact⟨0,0,_,_,1,rfl,rfl,Lib.hid rfl,Lib.hid rfl,Nat.zero_le _,own0,balloc (bself w) _⟩
 case round =>
  obtain⟨i,m,g,c9,kz,rfl,rfl,HKZ,HM,hi,hown,hbr⟩:=hrel
  clear own0 hM
  have hzr:=hbr.size
  by_cases hlt:m<n
  ·have hi2:i<pieces n:=by have:=HM.out;unfold pieces;omega
   have hp:pieces n≤255:=by unfold pieces;omega
   obtain⟨q,hq⟩:∃q,q=UInt8.ofNat (i+1):=⟨_,rfl⟩
   have hkz:kz=(q.toNat:Int):=by rw[HKZ.out,hq,UInt8.toNat_ofNat'];omega
   subst hkz
   have HQ:=Lib.hid hq
   clear hq
   have hsb:=hown.sb
   have hmc:m≤c9:=by obtain⟨A',c',e,h2,_⟩:=hsb;injection e with e1 e2 e3;subst e3;rw[expAll_length,←HM.out] at h2;exact h2
   have hcm:c9≤9223372036854775807:=by obtain⟨A',c',e,_,h2,_⟩:=hsb;injection e with e1 e2 e3;subst e3;unfold maxLen at h2;omega
   have y2:IntKind.i64.wrap ((m:Int)-32)=(m:Int)-32:=IntWalk.i64_in _ (by omega)
   have y4:(m:Int)≤(c9:Int):=by omega
   obtain⟨d,hd⟩:∃d,dgA (expT key use (i+1))=d:=⟨_,rfl⟩
   have hd2:dgA (macOf key [expT key use i,use,[q]].flatten)=d:=by rw[←hd,flat3,←List.append_assoc,HQ.out];rfl
   have HN:Hid (d.size=32∧∀v∈d.toList,v.oneCell'=true):=Lib.hid (by rw[←hd];exact⟨by rw[dgA_size,expT_length],dgA_one _⟩)
   have HD:=Lib.hid hd
   have HCALL:Hid (∀x,SB wr wr.heap.size x (expT key use i)→Calls Tryz.prog 128 #[.slice A key.length c,.slice (some ⟨wr.heap.size+1,0,none⟩) 3 3] ((wr.alloc (.cells #[.int .u8 (q.toNat:Int)] 5)).alloc (.cells #[x,.slice A2 use.length c2,.slice (some ⟨wr.heap.size,0,none⟩) 1 1] 56)) fun e w'=>e=.returned (.agg d)∧Below wr.heap.size wr w'):=Lib.hid (fun x hx=>by
    have b1:=balloc hbr (.cells #[.int .u8 (q.toNat:Int)] 5)
    have b2:=balloc b1 (.cells #[x,.slice A2 use.length c2,.slice (some ⟨wr.heap.size,0,none⟩) 1 1] 56)
    have bb2:Below wr.heap.size wr _:=balloc (balloc (bself wr) (.cells #[.int .u8 (q.toNat:Int)] 5)) (.cells #[x,.slice A2 use.length c2,.slice (some ⟨wr.heap.size,0,none⟩) 1 1] 56)
    have zz:(wr.alloc (.cells #[.int .u8 (q.toNat:Int)] 5)).heap.size=wr.heap.size+1:=World.size_alloc _ _
    have l1:(expT key use i).length≤32:=by cases i with|zero=>exact Nat.zero_le _|succ j=>rw[expT_length];exact Nat.le_refl _
    refine (kMacC key [expT key use i,use,[q]] d hd2 _ _ _ (hv.on b2) (LL3 56 zz.symm (hx.on (balloc (bself wr) _)) (hu.on b1) ((SB.new1 wr q).more (by rw[zz];exact Nat.le_refl _))) (by omega) (by rw[flat3,List.length_append,List.length_append];simp only[List.length_cons,List.length_nil];omega) (hk.on b2 h1) (by have:=b2.size;omega)).mono fun e w' ⟨he,hb⟩=>⟨he,bstep bb2 hb⟩)
   have HGO:Hid (∀w1,Below wr.heap.size wr w1→OB w1 w.heap.size (.slice (some ⟨g,0,none⟩) m c9) (expAll key use i)∧Below w.heap.size w w1):=Lib.hid (fun w1 h=>⟨hown.below h (Nat.le_refl _),hbr.trans (h.mono hzr)⟩)
   have HAPP:Hid (expAll key use i++expT key use (i+1)=expAll key use (i+1)):=Lib.hid rfl
   have HLN:Hid ((expAll key use i).length=32*i):=Lib.hid (expAll_length key use i)
   have HL2:Hid ((expT key use (i+1)).length=32):=Lib.hid (expT_length key use i)
   clear hd hd2 hown
   have hX:SB wr wr.heap.size (.slice (some ⟨g,0,none⟩) m c9) (expT key use i)∨32<m:=by
    by_cases h32:32<m
    ·exact .inr h32
    ·left
     have h:=hsb
     have e1:=expT_last key use i
     rw[show 32*i-32=0 from by have:=HM.out;omega,List.drop_zero] at e1
     rw[←e1]
     exact h
   by_cases h32:(m:Int)≤32
   ·have hX1:=Lib.hid (hX.resolve_right (by omega))
    clear hX hsb
    go_upto_region 8 with fail
    refine (HCALL.out _ hX1.out).mono ?_
    rintro e w1 ⟨rfl,hb1⟩
    clear HCALL hX1
    go_upto_region 8 with (refine wl_storeD rfl (.tmp 10) (.tmp 37) rfl _ rfl _ d rfl (heap_alloc_new w1 _) (by kernel_rfl) HN.out.1 HN.out.2 ?_)
    generalize hw2:World.setRow _ _ _=w2
    have rD:w2.heap[w1.heap.size]? = some (rowO d):=by rw[←hw2];exact setRow_heap _ _ _ _ _ _ (heap_alloc_new w1 _)
    have b12:Below w1.heap.size w1 w2:=by rw[←hw2];exact below_setRow (balloc (bself w1) _) (Nat.le_refl _) _
    have z2:w1.heap.size<w2.heap.size:=by rw[←hw2];simp
    clear hw2
    have b2:=bstep hb1 b12
    obtain⟨own2,bw2⟩:=HGO.out w2 b2
    have src2:SB w2 w2.heap.size (.slice (some ⟨w1.heap.size,0,none⟩) 32 32) (expT key use (i+1)):=SB.ofRow rD HD.out HL2.out.symm z2 (by rw[HL2.out];simp[maxLen])
    have hlen2:(expAll key use i).length+(expT key use (i+1)).length≤140737488355328:=by rw[HLN.out,HL2.out];omega
    have hz2:=bw2.size
    clear rD b12 z2 b2
    go_wp2_with (at_builtin;go_loud (refine wl_appB rfl (.tmp 38) (.tmp 39) rfl w.heap.size _ (expAll key use i) rfl own2 w2.heap.size _ (expT key use (i+1)) rfl src2 hlen2 hz2 ?_);intro v3 w3 hown3 hg3 ho3 hb3;rw[HAPP.out] at hown3;have b3:=bw2.trans hb3)
    obtain⟨g3,c3,e3⟩:=hown3.form0 (by rw[expAll_length];omega)
    have e3:v3=.slice (some ⟨g3,0,none⟩) (m+32) c3:=by rw[e3,expAll_length];congr 1;have:=HM.out;omega
    subst e3
    go_roundw
    case rel=>exact⟨i+1,_,_,_,_,rfl,rfl,Lib.hid (by have:=HKZ.out;omega),Lib.hid (by have:=HM.out;omega),by omega,hown3,b3⟩
    case measure=>simp only[sliceLenS];have:=HM.out;omega
   ·have hX1:Hid (SB wr wr.heap.size (.slice (some ⟨g,m-32,none⟩) (m-(m-32)) (c9-(m-32))) (expT key use i)):=Lib.hid (by
     obtain⟨A',c',e,k1,k2,hr⟩:=hsb
     injection e with e2 e3 e4
     subst e2;subst e4
     have h:=hr.cut (k:=m-32) (cap:=c9) (by rw[←e3];omega) k1
     rw[if_neg (by omega),←e3,Nat.mul_one,Option.map_some,add_lit0,Nat.zero_add] at h
     have e5:=expT_last key use i
     rw[←HM.out] at e5
     have e6:(expT key use i).length=m-(m-32):=by rw[←e5,List.length_drop,←e3]
     refine⟨_,_,by rw[e6],by rw[e6];omega,by omega,?_⟩
     rw[e6,←e5,bv_drop]
     exact h)
    clear hX hsb
    go_upto_region 8 with fail
    refine (HCALL.out _ hX1.out).mono ?_
    rintro e w1 ⟨rfl,hb1⟩
    clear HCALL hX1
    go_upto_region 8 with (refine wl_storeD rfl (.tmp 10) (.tmp 37) rfl _ rfl _ d rfl (heap_alloc_new w1 _) (by kernel_rfl) HN.out.1 HN.out.2 ?_)
    generalize hw2:World.setRow _ _ _=w2
    have rD:w2.heap[w1.heap.size]? = some (rowO d):=by rw[←hw2];exact setRow_heap _ _ _ _ _ _ (heap_alloc_new w1 _)
    have b12:Below w1.heap.size w1 w2:=by rw[←hw2];exact below_setRow (balloc (bself w1) _) (Nat.le_refl _) _
    have z2:w1.heap.size<w2.heap.size:=by rw[←hw2];simp
    clear hw2
    have b2:=bstep hb1 b12
    obtain⟨own2,bw2⟩:=HGO.out w2 b2
    have src2:SB w2 w2.heap.size (.slice (some ⟨w1.heap.size,0,none⟩) 32 32) (expT key use (i+1)):=SB.ofRow rD HD.out HL2.out.symm z2 (by rw[HL2.out];simp[maxLen])
    have hlen2:(expAll key use i).length+(expT key use (i+1)).length≤140737488355328:=by rw[HLN.out,HL2.out];omega
    have hz2:=bw2.size
    clear rD b12 z2 b2
    go_wp2_with (at_builtin;go_loud (refine wl_appB rfl (.tmp 38) (.tmp 39) rfl w.heap.size _ (expAll key use i) rfl own2 w2.heap.size _ (expT key use (i+1)) rfl src2 hlen2 hz2 ?_);intro v3 w3 hown3 hg3 ho3 hb3;rw[HAPP.out] at hown3;have b3:=bw2.trans hb3)
    obtain⟨g3,c3,e3⟩:=hown3.form0 (by rw[expAll_length];omega)
    have e3:v3=.slice (some ⟨g3,0,none⟩) (m+32) c3:=by rw[e3,expAll_length];congr 1;have:=HM.out;omega
    subst e3
    go_roundw
    case rel=>exact⟨i+1,_,_,_,_,rfl,rfl,Lib.hid (by have:=HKZ.out;omega),Lib.hid (by have:=HM.out;omega),by omega,hown3,b3⟩
    case measure=>simp only[sliceLenS];have:=HM.out;omega
  ·have hip:i=pieces n:=by have:=HM.out;unfold pieces at hi ⊢;omega
   have hsb:SB wr wr.heap.size (.slice (some ⟨g,0,none⟩) m c9) (expAll key use i):=hown.sb
   obtain⟨A',c',e,k1,k2,hr⟩:=hsb
   injection e with e2 e3 e4
   subst e2;subst e4
   have k2':c9≤9223372036854775807:=by unfold maxLen at k2;omega
   have HR:Hid (SB wr wr.heap.size (.slice (some ⟨g,0,none⟩) n n) (expand key use n)):=Lib.hid (by
    have h:=hr.take (k:=n) (by omega)
    unfold SB
    rw[expand_length]
    refine⟨_,_,rfl,Nat.le_refl _,by simp only[maxLen];omega,?_⟩
    unfold expand
    rw[bv_take,←hip]
    rw[Nat.mul_one] at h
    exact h)
   have hgl:=(hown.lt g rfl).1
   have y4:(n:Int)≤(c9:Int):=by omega
   clear hr k1 k2 e3 hown
   go_wp2_with fail
   exact bodyPost_ret (v:=.tuple #[.slice (some ⟨g,0,none⟩) n n,.int .i64 0]) (by simp[results,Tryz.results113,go_sem]) rfl ⟨g,rfl,HR.out,hbr,hgl⟩
end Go.Proofs.YtchjknbideoieaaGreatDoor
namespace Go.Proofs.YtchjknbideoieaaGreatDoor
set_option maxRecDepth 100000
set_option maxHeartbeats 8000000
open Go.RowKit
theorem hd_eq_iff (h i:Hd):h=i↔h.k=i.k∧h.lv=i.lv∧h.g=i.g∧h.e=i.e∧h.n=i.n:=by
 obtain⟨a,b,c,d,e⟩:=h
 obtain⟨a',b',c',d',e'⟩:=i
 simp
theorem run_eqF (w:World) (d:Nat) (xs ys:Array Value):∀(L:List (TypeId × Nat × IntKind × Int × Int)) (fs:List Field),fs.map (fun f=>(f.name != "_",f.type,f.offset))=L.map (fun p=>(true,p.1,p.2.1)) →
  (∀p∈L,Tryz.prog.plainKey p.1=true∧xs[p.2.1]? = some (.int p.2.2.1 p.2.2.2.1)∧ys[p.2.1]? = some (.int p.2.2.1 p.2.2.2.2)∧Tryz.prog.underlying p.1=some (.int p.2.2.1)) →
  (Op.eqFields (d+1) xs ys fs).run Tryz.prog w=.ok (L.all (fun p=>p.2.2.2.1==p.2.2.2.2)) w
 | [],fs,hf,_=>by
  have e:fs=[]:=by simpa using hf
  subst e
  simp[Op.eqFields]
 | p::L,fs,hf,h=>by
  cases fs with
  | nil=>simp at hf
  | cons f fs =>
   simp only[List.map_cons,List.cons.injEq,Prod.mk.injEq] at hf
   obtain⟨⟨h1,h2,h3⟩,h4⟩:=hf
   have h1':f.name≠ "_":=by simpa using h1
   obtain⟨k1,k2,k3,k4⟩:=h p (by simp)
   have ih:=run_eqF w d xs ys L fs h4 (fun q hq=>h q (by simp[hq]))
   have p1:=run_part_plain (P:=Tryz.prog) w (xs:=xs) k1 k2
   have p2:=run_part_plain (P:=Tryz.prog) w (xs:=ys) k1 k3
   simp only[Op.eqFields]
   rw[if_pos h1',h2,h3,Sem.run_bind,p1,Result.andThen_ok,Sem.run_bind,p2,Result.andThen_ok,Sem.run_bind,run_equalIn_int w d _ _ _ _ _ k4,Result.andThen_ok]
   by_cases e:p.2.2.2.1=p.2.2.2.2
   ·simp[e,ih]
   ·simp[e]
theorem run_eqH (w:World) (h i:Hd):(Op.equalIn 10000 65 (hdV h) (hdV i)).run Tryz.prog w=.ok (decide (h=i)) w:=by
 rw[show (10000:Nat)=9998+1+1 from rfl,run_equalIn_struct w 9999 65 _ _ (by kernel_rfl) (by kernel_rfl)]
 have h5:=run_eqF w 9998 #[.int .u8 (h.k:Int),.int .u8 (h.lv:Int),.int .u64 (h.g:Int),.int .u64 (h.e:Int),.int .u64 (h.n:Int)] #[.int .u8 (i.k:Int),.int .u8 (i.lv:Int),.int .u64 (i.g:Int),.int .u64 (i.e:Int),.int .u64 (i.n:Int)]
  [(5,0,.u8,(h.k:Int),(i.k:Int)),(5,1,.u8,(h.lv:Int),(i.lv:Int)),(23,2,.u64,(h.g:Int),(i.g:Int)),(23,3,.u64,(h.e:Int),(i.e:Int)),(23,4,.u64,(h.n:Int),(i.n:Int))]
  (Tryz.prog.fieldsOf 65).toList (by kernel_rfl) (by
   intro p hp
   simp only[List.mem_cons,List.not_mem_nil,or_false] at hp
   rcases hp with rfl|rfl|rfl|rfl|rfl
   all_goals exact⟨by kernel_rfl,rfl,rfl,by kernel_rfl⟩)
 rw[show (9999:Nat)=9998+1 from rfl,h5]
 congr 1
 rw[Bool.eq_iff_iff,decide_eq_true_eq,hd_eq_iff]
 simp
 omega
end Go.Proofs.YtchjknbideoieaaGreatDoor
