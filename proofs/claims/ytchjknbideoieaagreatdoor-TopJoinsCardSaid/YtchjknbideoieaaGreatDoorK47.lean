/- What is proved here: the closures of table.Get, the first place at which one holds, at this seat's numbers. Conditions: the lists' lengths. a table's answer, found by its bounds step by step. No program in sight. -/
import Derived.Test.YtchjknbideoieaaGreatDoorK45
import Derived.Test.YtchjknbideoieaaGreatDoorK31
import Derived.Test.YtchjknbideoieaaGreatDoorK14
import Derived.Test.YtchjknbideoieaaGreatDoorK26
import Derived.Test.YtchjknbideoieaaGreatDoorK37
import Derived.Defers
namespace Go.Proofs.YtchjknbideoieaaGreatDoor
set_option maxRecDepth 100000
set_option maxHeartbeats 8000000
open Go.RowKit Go.Great Go.Proofs
def IdxIs {α:Type} (p:α→Bool) (l:List α) (i:Int):Prop:=(i=-1∧∀x∈l,p x=false)∨∃k:Nat,∃h:k<l.length,i=(k:Int)∧p l[k]=true∧∀j (hj:j<k),p (l[j]'(by omega))=false
theorem kAhead1_any (x:Rw) (rc:Array Value) (hrc:(rwC x).toArray=rc) (U:Nat) (user:ByteArray) (W:World) (hu:W.cell? ⟨U,0,none⟩=some (.string user)) (hU:U<W.heap.size) :
  Calls Tryz.prog 39 #[.agg rc,.pointer (some ⟨U,0,none⟩)] W fun e w'=>e=.returned (.bool (!ltB x.bound user.toList))∧Below W.heap.size W w':=by
 have HR:=Lib.hid hrc
 clear hrc
 have hU2:(W.alloc (.cells rc 101)).cell? ⟨U,0,none⟩=some (.string user):=(World.cell?_alloc_lt W _ _ hU).trans hu
 have hX:(W.alloc (.cells rc 101)).cell? ⟨W.heap.size,0,none⟩=some (.string ⟨x.bound.toArray⟩):=(rw_cells (heap_alloc_new W _) HR.out).1
 have bX:Below W.heap.size W (W.alloc (.cells rc 101)):=balloc (bself W) _
 clear hu
 go_enter Tryz.func39,Tryz.ntmps39
 go_upto_region 1 with fail
 generalize World.alloc _ _=wA at hU2 hX bX ⊢
 go_wp2_with fail
 go_ret
 exact⟨ret_bool rfl,bX⟩
theorem kAhead2_any (x:Ent) (user:ByteArray) (seq:UInt64) (U S:Nat) (W:World) (hu:W.cell? ⟨U,0,none⟩=some (.string user)) (hs:W.cell? ⟨S,0,none⟩=some (.int .u64 (seq.toNat:Int))) (hU:U<W.heap.size) (hS:S<W.heap.size) :
  Calls Tryz.prog 42 #[entV x,.pointer (some ⟨U,0,none⟩),.pointer (some ⟨S,0,none⟩)] W fun e w'=>e=.returned (.bool (!aheadE x (keyQ user seq)))∧Below W.heap.size W w':=by
 have hU2:(W.alloc (.cells #[.string x.user,.int .u64 (x.seq.toNat:Int),.int .u8 (x.kind.toNat:Int),.string x.value] 29)).cell? ⟨U,0,none⟩=some (.string user):=(World.cell?_alloc_lt W _ _ hU).trans hu
 have hS2:(W.alloc (.cells #[.string x.user,.int .u64 (x.seq.toNat:Int),.int .u8 (x.kind.toNat:Int),.string x.value] 29)).cell? ⟨S,0,none⟩=some (.int .u64 (seq.toNat:Int)):=(World.cell?_alloc_lt W _ _ hS).trans hs
 have hX:=heap_alloc_new W (.cells #[.string x.user,.int .u64 (x.seq.toNat:Int),.int .u8 (x.kind.toNat:Int),.string x.value] 29)
 have bX:Below W.heap.size W (W.alloc (.cells #[.string x.user,.int .u64 (x.seq.toNat:Int),.int .u8 (x.kind.toNat:Int),.string x.value] 29)):=balloc (bself W) _
 have c0:=cell_of_row _ _ 0 _ _ _ hX
 have c1:=cell_of_row _ _ 1 _ _ _ hX
 clear hu hs hX
 rcases three x (keyQ user seq) with ⟨k1,k2,k3⟩|⟨k1,k2,k3⟩|⟨k1,k2,k3⟩
 ·rw[k3]
  dsimp only [keyQ] at k1 k2
  clear k3
  go_enter Tryz.func42,Tryz.ntmps42
  go_upto_region 1 with fail
  generalize World.alloc _ _=wA at hU2 hS2 c0 c1 bX ⊢
  go_wp2_with fail
  go_ret
  exact⟨rfl,bX⟩
 ·have hle:decide (x.seq.toNat≤seq.toNat)=!aheadE x (keyQ user seq):=by
   rw[k3]
   by_cases h:seq.toNat<x.seq.toNat
   ·have h4:¬(x.seq.toNat≤seq.toNat):=by omega
    simp[h,h4]
   ·have h4:x.seq.toNat≤seq.toNat:=by omega
    simp[h,h4]
  dsimp only [keyQ] at k1 k2
  have HL:=Lib.hid hle
  clear k3 hle
  go_enter Tryz.func42,Tryz.ntmps42
  go_upto_region 1 with fail
  generalize World.alloc _ _=wA at hU2 hS2 c0 c1 bX ⊢
  go_wp2_with fail
  go_ret
  exact⟨ret_bool HL.out,bX⟩
 ·rw[k3]
  dsimp only [keyQ] at k1 k2
  clear k3
  go_enter Tryz.func42,Tryz.ntmps42
  go_upto_region 1 with fail
  generalize World.alloc _ _=wA at hU2 hS2 c0 c1 bX ⊢
  go_wp2_with fail
  go_ret
  exact⟨rfl,bX⟩
theorem kIndexE_any (l:List Ent) (u:Value × Value) (p:Ent→Bool) (v:Value) (w:World) (hv:SE w w.heap.size v l) (_hl:l.length≤1099511627776)
  (hf:∀x∈l,∀W,Below w.heap.size w W→Calls Tryz.prog 42 #[entV x,u.1,u.2] W fun e w'=>e=.returned (.bool (p x))∧Below W.heap.size W w') :
  Calls Tryz.prog 41 #[v,.func (.func 42) #[] #[u.1,u.2]] w fun e w'=>∃i:Int,e=.returned (.int .i64 i)∧IdxIs p l i∧Below w.heap.size w w':=by
 have HF:=Lib.hid hf
 have HV:=Lib.hid hv
 have eg:∀args w,(callFunc 42 args).run Tryz.prog w=.ok (.enter 42 args) w:=enters_of Tryz.func42 (by kernel_rfl) rfl
 obtain⟨A,c,rfl,hc,hm,hr⟩:=id hv;have hm':c≤9223372036854775807:=by (unfold maxLen at hm;omega)
 clear hf hv
 go_enter Tryz.func41,Tryz.ntmps41
 go_wp2
 go_loopw [5,8] (fun _ i wr=>∃k:Nat,i=.int .i64 (k:Int)∧k≤l.length∧Hid (∀j (hj:j<l.length),j<k→p l[j]=false)∧Below w.heap.size w wr) (fun _ i _=>l.length-(intOf i).toNat)
 case atStart=>exact⟨0,rfl,Nat.zero_le _,Lib.hid (fun j hj h0=>by omega),bself w⟩
 case round =>
  obtain⟨k,rfl,hk,hp,hbr⟩:=hrel
  by_cases hlt:k<l.length
  ·obtain⟨b,o,rfl,hb,c0,c1,c2,c3⟩:=(hr.below hbr).ent rfl (k:=k) hlt
   have hc:=HF.out _ (List.getElem_mem hlt) wr hbr
   obtain⟨x,hx⟩:∃x,x=l[k]:=⟨_,rfl⟩
   rw[←hx] at hc c0 c1 c2 c3
   have HX:=Lib.hid hx
   clear hx
   cases hR:p x with
   | false =>
    rw[hR] at hc
    have HRR:=Lib.hid hR
    have HC:=Lib.hid hc
    clear hR hc
    go_wp2_with (first|(fail)|(go_at_fn 42;refine HC.out.mono ?_;rintro _ w2 ⟨rfl,hb2⟩))
    go_roundw
    case rel =>
     refine⟨k+1,by go_num,by omega,Lib.hid (fun j hj hjk=>?_),bstep hbr hb2⟩
     rcases Nat.lt_or_ge j k with h1|h1
     ·exact hp.out j hj h1
     ·have e:j=k:=by omega
      subst e;rw[←HX.out];exact HRR.out
    case measure=>simp[intOf];omega
   | true =>
    rw[hR] at hc
    have HRR:=Lib.hid hR
    have HC:=Lib.hid hc
    clear hR hc
    go_wp2_with (first|(fail)|(go_at_fn 42;refine HC.out.mono ?_;rintro _ w2 ⟨rfl,hb2⟩))
    go_ret
    refine⟨_,rfl,.inr ⟨k,hlt,rfl,by rw[←HX.out];exact HRR.out,fun j hj=>hp.out j (by omega) hj⟩,bstep hbr hb2⟩
  ·go_wp2
   go_ret
   refine⟨_,rfl,.inl ⟨rfl,fun x hx=>?_⟩,hbr⟩
   obtain⟨j,hj,rfl⟩:=List.getElem_of_mem hx
   exact hp.out j hj (by omega)
theorem kIndexR_any (l:List Rw) (u:Value) (p:Rw→Bool) (v:Value) (w:World) (hv:SG rwC 34 w w.heap.size v l) (hl:l.length≤1099511627776)
  (hf:∀x∈l,∀W,Below w.heap.size w W→Calls Tryz.prog 39 #[.agg (rwC x).toArray,u] W fun e w'=>e=.returned (.bool (p x))∧Below W.heap.size W w') :
  Calls Tryz.prog 38 #[v,.func (.func 39) #[] #[u]] w fun e w'=>∃i:Int,e=.returned (.int .i64 i)∧IdxIs p l i∧Below w.heap.size w w':=by
 have HF:=Lib.hid hf
 have HV:=Lib.hid hv
 have eg:∀args w,(callFunc 39 args).run Tryz.prog w=.ok (.enter 39 args) w:=enters_of Tryz.func39 (by kernel_rfl) rfl
 obtain⟨A,c,rfl,hc,hm'⟩:=(id hv).form
 clear hf hv
 go_enter Tryz.func38,Tryz.ntmps38
 go_wp2
 go_loopw [5,8] (fun _ i wr=>∃k:Nat,i=.int .i64 (k:Int)∧k≤l.length∧Hid (∀j (hj:j<l.length),j<k→p l[j]=false)∧Below w.heap.size w wr) (fun _ i _=>l.length-(intOf i).toNat)
 case atStart=>exact⟨0,rfl,Nat.zero_le _,Lib.hid (fun j hj h0=>by omega),bself w⟩
 case round =>
  obtain⟨k,rfl,hk,hp,hbr⟩:=hrel
  by_cases hlt:k<l.length
  ·obtain⟨b,o,k',e,hb,hrg⟩:=HV.out.at_ rwC_length (by omega);injection e with e1 _ e3;subst e1;subst e3;have c0:=range_below (hrg k hlt) hbr hb
   have hc:=HF.out _ (List.getElem_mem hlt) wr hbr
   obtain⟨x,hx⟩:∃x,x=l[k]:=⟨_,rfl⟩
   rw[←hx] at hc c0
   have HX:=Lib.hid hx
   clear hx
   cases hR:p x with
   | false =>
    rw[hR] at hc
    have HRR:=Lib.hid hR
    have HC:=Lib.hid hc
    clear hR hc
    go_wp2_with (first|(refine wpList_load_mid rfl 101 (.tmp 14) rfl b (o+k*34) rfl (rwC x) _ c0 Tryz.underlying101 rfl (by rw[rwC_length];kernel_rfl) ?_)|(go_at_fn 39;refine HC.out.mono ?_;rintro _ w2 ⟨rfl,hb2⟩))
    go_roundw
    case rel =>
     refine⟨k+1,by go_num,by omega,Lib.hid (fun j hj hjk=>?_),bstep hbr hb2⟩
     rcases Nat.lt_or_ge j k with h1|h1
     ·exact hp.out j hj h1
     ·have e:j=k:=by omega
      subst e;rw[←HX.out];exact HRR.out
    case measure=>simp[intOf];omega
   | true =>
    rw[hR] at hc
    have HRR:=Lib.hid hR
    have HC:=Lib.hid hc
    clear hR hc
    go_wp2_with (first|(refine wpList_load_mid rfl 101 (.tmp 14) rfl b (o+k*34) rfl (rwC x) _ c0 Tryz.underlying101 rfl (by rw[rwC_length];kernel_rfl) ?_)|(go_at_fn 39;refine HC.out.mono ?_;rintro _ w2 ⟨rfl,hb2⟩))
    go_ret
    refine⟨_,rfl,.inr ⟨k,hlt,rfl,by rw[←HX.out];exact HRR.out,fun j hj=>hp.out j (by omega) hj⟩,bstep hbr hb2⟩
  ·go_wp2
   go_ret
   refine⟨_,rfl,.inl ⟨rfl,fun x hx=>?_⟩,hbr⟩
   obtain⟨j,hj,rfl⟩:=List.getElem_of_mem hx
   exact hp.out j hj (by omega)
end Go.Proofs.YtchjknbideoieaaGreatDoor
namespace Go.Proofs.YtchjknbideoieaaGreatDoor
set_option maxRecDepth 100000
set_option maxHeartbeats 8000000
theorem dropWhile_at {α:Type} (p:α→Bool):∀(l:List α) (k:Nat) (hk:k<l.length),p l[k]=true→(∀j (hj:j<k),p (l[j]'(by omega))=false)→l.dropWhile (fun x=>!p x)=l.drop k
 | a::l,0,_,h,_=>by
  rw[List.getElem_cons_zero] at h
  rw[List.dropWhile_cons,h]
  rfl
 | a::l,k+1,hk,h,hn=>by
  have h0:=hn 0 (by omega)
  rw[List.getElem_cons_zero] at h0
  rw[List.dropWhile_cons,h0,List.drop_succ_cons]
  simp only[Bool.not_false,if_true]
  exact dropWhile_at p l k (by simpa using hk) (by simpa using h) (fun j hj=>by have:=hn (j+1) (by omega);simpa using this)
theorem dropWhile_none {α:Type} (p:α→Bool):∀(l:List α),(∀x∈l,p x=false)→l.dropWhile (fun x=>!p x)=[]
 | [],_=>rfl
 | a::l,h=>by
  rw[List.dropWhile_cons,h a (List.mem_cons_self)]
  simp only[Bool.not_false,if_true]
  exact dropWhile_none p l (fun x hx=>h x (List.mem_cons_of_mem _ hx))
theorem byBounds_at (q:Ent) (RF:List (List UInt8 × List Ent)) (k:Nat) (hk:k<RF.length) (h1:ltB RF[k].1 q.user.toList=false) (h2:∀j (hj:j<k),ltB (RF[j]'(by omega)).1 q.user.toList=true):byBounds q RF=goRows q ((RF.drop k).map (·.2)):=by
 unfold byBounds
 have:=dropWhile_at (fun r:List UInt8 × List Ent=>!ltB r.1 q.user.toList) RF k hk (by rw[h1];rfl) (fun j hj=>by rw[h2 j hj];rfl)
 simp only[Bool.not_not] at this
 rw[this]
theorem byBounds_none (q:Ent) (RF:List (List UInt8 × List Ent)) (h:∀j (hj:j<RF.length),ltB RF[j].1 q.user.toList=true):byBounds q RF=none:=by
 unfold byBounds
 have:=dropWhile_none (fun r:List UInt8 × List Ent=>!ltB r.1 q.user.toList) RF (fun x hx=>by obtain⟨j,hj,rfl⟩:=List.getElem_of_mem hx;rw[h j hj];rfl)
 simp only[Bool.not_not] at this
 rw[this]
 rfl
theorem find_idx {p:Ent→Bool} {l:List Ent} {i:Int} (h:IdxIs p l i):(i=-1∧l.find? p=none)∨∃k:Nat,∃hk:k<l.length,i=(k:Int)∧l.find? p=some l[k]:=by
 rcases h with ⟨h1,h2⟩|⟨k,hk,h1,h2,h3⟩
 ·exact .inl ⟨h1,by rw[List.find?_eq_none];intro x hx;rw[h2 x hx];simp⟩
 ·refine .inr ⟨k,hk,h1,?_⟩
  have hg:∀j (hj:j<l.length),l.getD j ent0=l[j]:=fun j hj=>by rw[List.getD_eq_getElem?_getD,List.getElem?_eq_getElem hj];rfl
  rw[find_at p l k (by omega) (fun t ht=>by rw[hg t (by omega)];exact h3 t ht) (fun _=>by rw[hg k hk];exact h2),List.getElem?_eq_getElem hk]
theorem goRows_drop (q:Ent) (RF:List (List UInt8 × List Ent)) (i:Nat) (hi:i<RF.length):goRows q ((RF.drop i).map (·.2))=match RF[i].2.find? (fun e=>!aheadE e q) with
  | none=>goRows q ((RF.drop (i+1)).map (·.2))
  | some e=>if e.user=q.user then some e else none:=by
 rw[List.drop_eq_getElem_cons hi,List.map_cons,goRows]
 cases (RF[i].2.find? (fun e=>!aheadE e q)) <;> rfl
theorem filt_none {l:List Ent} {user:ByteArray} {seq:UInt64} {L:List UInt8} {pb:UInt8} (hall:∀e∈l,mayKey pb.toNat L e.user.data.toList=true) (h:mayKey pb.toNat L user.data.toList=false):onlyE (keyQ user seq) (firstE l (keyQ user seq))=none:=by
 cases hf:firstE l (keyQ user seq) with
 | none=>rfl
 | some e =>
  unfold onlyE
  rw[Option.bind_some,if_neg]
  intro hu
  have he:e∈l:=List.mem_of_find?_eq_some hf
  have h2:=hall e he
  rw[hu] at h2
  rw[show (keyQ user seq).user=user from rfl] at h2
  rw[h] at h2
  cases h2
end Go.Proofs.YtchjknbideoieaaGreatDoor
