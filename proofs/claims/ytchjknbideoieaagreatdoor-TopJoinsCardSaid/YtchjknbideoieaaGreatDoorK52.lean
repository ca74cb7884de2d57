/- What is proved here: what Keep of package merge takes as one key's entries, at this seat's numbers; the plain laws of what is kept, step by step. Conditions: the lists' lengths. what Keep of package merge keeps of entries in order, for moments, at this seat's numbers. Conditions: the entries rise; the lists' lengths. what View of package merge tells of entries in order at a .. -/
import Derived.Test.YtchjknbideoieaaGreatDoorK51
import Derived.Test.YtchjknbideoieaaGreatDoorK35
import Derived.Deep.DeepCutAuto
import Derived.Deep.CutBlock
import Derived.Test.YtchjknbideoieaaGreatDoorK49
import Derived.Test.YtchjknbideoieaaGreatDoorK50
import Derived.DeepKeys
import Derived.Lib.MinMax
namespace Go.Proofs.YtchjknbideoieaaGreatDoor
set_option maxRecDepth 100000
set_option maxHeartbeats 8000000
open Go.RowKit Go.Great Go.Proofs
theorem bin_seen {ms:List UInt64} {e p:Ent} {k:Nat} (h:BinOk (sortU ms) e.seq k):seenE ms e p=true↔∃hk:k<(sortU ms).length,((sortU ms)[k]'hk).toNat<p.seq.toNat:=by
 obtain⟨h1,h2,h3⟩:=h
 unfold seenE
 rw[List.any_eq_true]
 constructor
 ·rintro⟨m,hm,hx⟩
  simp only[Bool.and_eq_true,decide_eq_true_eq] at hx
  obtain⟨j,hj,rfl⟩:=List.getElem_of_mem ((sortU_mem ms m).2 hm)
  have hkj:k≤j:=by
   rcases Nat.lt_or_ge j k with h4|h4
   ·have:=h2 j hj h4;omega
   ·exact h4
  have hk:k<(sortU ms).length:=by omega
  refine⟨hk,?_⟩
  rcases Nat.lt_or_ge k j with h4|h4
  ·have:=List.pairwise_iff_getElem.1 (sortU_le ms) k j hk hj h4
   omega
  ·have:k=j:=by omega
   subst this;exact hx.2
 ·rintro⟨hk,hx⟩
  refine⟨(sortU ms)[k],(sortU_mem ms _).1 (List.getElem_mem hk),?_⟩
  simp[h3 k hk (Nat.le_refl _),hx]
theorem keptT_snoc (ms:List UInt64) (x:Ent):∀(t:List Ent) (p:Ent),keptT ms p (t++[x])=keptT ms p t++(if seenE ms x (t.getLastD p) then [x] else [])
 | [],p=>by simp[keptT]
 | e::t,p=>by
  rw[List.cons_append,keptT,keptT,keptT_snoc ms x t e]
  have:(e::t).getLastD p=t.getLastD e:=by cases t <;> rfl
  rw[this]
  split <;> simp
theorem kept_step (ms:List UInt64) {l:List Ent} {j:Nat} (hj1:j+1<l.length):keptG ms (l.take (j+1+1))=keptG ms (l.take (j+1))++(if seenE ms l[j+1] (l[j]'(by omega)) then [l[j+1]] else []):=by
 cases l with
 | nil=>simp at hj1
 | cons e t =>
  have hj:j<t.length:=by simpa using hj1
  rw[List.take_succ_cons,List.take_succ_cons,keptG,keptG,List.take_succ_eq_append_getElem hj,keptT_snoc,List.getElem_cons_succ]
  have:(t.take j).getLastD e=(e::t)[j]'(by simp;omega):=by
   cases j with
   | zero=>rfl
   | succ j =>
    rw[List.take_succ_eq_append_getElem (by omega),List.getLastD_concat]
    rfl
  rw[this]
  simp
theorem keptG_len (ms:List UInt64) (g:List Ent):(keptG ms g).length≤g.length:=by
 cases g with
 | nil=>exact Nat.le_refl _
 | cons e t=>have:=(keptT_sub ms t e).length_le;simpa [keptG] using this
theorem strip_step {K:List Ent} {m:Nat} (hm:m<K.length) (h:isDel K[m]=true):stripD true (K.take (m+1))=stripD true (K.take m):=by
 unfold stripD
 rw[if_pos rfl,if_pos rfl,List.take_succ_eq_append_getElem hm,List.reverse_append,List.reverse_singleton,List.singleton_append,List.dropWhile_cons,if_pos h]
theorem strip_end {K:List Ent} {m:Nat} (hm:m<K.length) (h:isDel K[m]=false):stripD true (K.take (m+1))=K.take (m+1):=by
 unfold stripD
 rw[if_pos rfl,List.take_succ_eq_append_getElem hm,List.reverse_append,List.reverse_singleton,List.singleton_append,List.dropWhile_cons,if_neg (by simp[h])]
 simp
def offU (u:ByteArray) (x:Ent):Bool:=!(x.user.toList==u.toList)
theorem key_of_idx {e:Ent} {t:List Ent} {i:Int} (h:IdxIs (offU e.user) (e::t) i):(if i<0 then ((t.length+1:Nat):Int) else i)=((keyN e.user t+1:Nat):Int):=by
 have hN:∀(t:List Ent),(∀x∈t,offU e.user x=false)→keyN e.user t=t.length:=by
  intro t
  induction t with
  | nil=>intro _;rfl
  | cons a t ih =>
   intro h
   have h1:=h a (by simp)
   unfold offU at h1
   have h2:a.user=e.user:=ext_toList (by simpa using h1)
   rw[keyN,if_pos h2,ih (fun x hx=>h x (List.mem_cons_of_mem _ hx)),List.length_cons]
 have hA:∀(t:List Ent) (k:Nat) (hk:k<t.length),offU e.user t[k]=true→(∀j (hj:j<k),offU e.user (t[j]'(by omega))=false)→keyN e.user t=k:=by
  intro t
  induction t with
  | nil=>intro k hk;simp at hk
  | cons a t ih =>
   intro k hk h1 h2
   cases k with
   | zero =>
    unfold offU at h1
    have h3:¬a.user=e.user:=by intro e2;simp[e2] at h1
    rw[keyN,if_neg h3]
   | succ k =>
    have h3:=h2 0 (by omega)
    unfold offU at h3
    have h4:a.user=e.user:=ext_toList (by simpa using h3)
    rw[keyN,if_pos h4,ih k (by simpa using hk) (by simpa using h1) (fun j hj=>by simpa using h2 (j+1) (by omega))]
 rcases h with ⟨rfl,h⟩|⟨k,hk,rfl,h1,h2⟩
 ·rw[if_pos (by omega),hN t (fun x hx=>h x (List.mem_cons_of_mem _ hx))]
 ·rw[if_neg (by omega)]
  cases k with
  | zero=>unfold offU at h1;simp at h1
  | succ k=>rw[hA t k (by simpa using hk) (by simpa using h1) (fun j hj=>by simpa using h2 (j+1) (by omega))]
theorem kOff_any (x y:Ent) (t:List Ent) (vl:Value) (B0:Nat) (W:World) (hb:W.cell? ⟨B0,0,none⟩=some vl) (hB:B0<W.heap.size) (hl:SE W W.heap.size vl (y::t)) :
  Calls Tryz.prog 88 #[entV x,.pointer (some ⟨B0,0,none⟩)] W fun e w'=>e=.returned (.bool (offU y.user x))∧Below W.heap.size W w':=by
 obtain⟨b,o,c,rfl,hbl,hc1,hc2,y0,_⟩:=head_cells hl
 have hb2:(W.alloc (.cells #[.string x.user,.int .u64 (x.seq.toNat:Int),.int .u8 (x.kind.toNat:Int),.string x.value] 29)).cell? ⟨B0,0,none⟩=some (.slice (some ⟨b,o,none⟩) (t.length+1) c):=(World.cell?_alloc_lt W _ _ hB).trans hb
 have y2:(W.alloc (.cells #[.string x.user,.int .u64 (x.seq.toNat:Int),.int .u8 (x.kind.toNat:Int),.string x.value] 29)).cell? ⟨b,o,none⟩=some (.string y.user):=(World.cell?_alloc_lt W _ _ hbl).trans y0
 have hX:=heap_alloc_new W (.cells #[.string x.user,.int .u64 (x.seq.toNat:Int),.int .u8 (x.kind.toNat:Int),.string x.value] 29)
 have bX:Below W.heap.size W (W.alloc (.cells #[.string x.user,.int .u64 (x.seq.toNat:Int),.int .u8 (x.kind.toNat:Int),.string x.value] 29)):=balloc (bself W) _
 have x0:=cell_of_row _ _ 0 _ _ _ hX
 clear hb hl y0 hX
 obtain⟨tl,htl⟩:∃n,n=t.length:=⟨_,rfl⟩
 rw[←htl] at hb2
 clear htl hc1
 go_enter Tryz.func88,Tryz.ntmps88
 go_upto_region 1 with fail
 generalize World.alloc _ _=wA at hb2 y2 x0 bX ⊢
 go_quiet (fail)
 go_wp2_with fail
 go_ret
 exact⟨ret_bool rfl,bdrewN bX nq⟩
theorem kIndexK_any (l:List Ent) (u:Value) (p:Ent→Bool) (v:Value) (w:World) (hv:SE w w.heap.size v l) (_hl:l.length≤1099511627776)
  (hf:∀x∈l,∀W,Below w.heap.size w W→Calls Tryz.prog 88 #[entV x,u] W fun e w'=>e=.returned (.bool (p x))∧Below W.heap.size W w') :
  Calls Tryz.prog 41 #[v,.func (.func 88) #[] #[u]] w fun e w'=>∃i:Int,e=.returned (.int .i64 i)∧IdxIs p l i∧Below w.heap.size w w':=by
 have HF:=Lib.hid hf
 have HV:=Lib.hid hv
 have eg:∀args w,(callFunc 88 args).run Tryz.prog w=.ok (.enter 88 args) w:=enters_of Tryz.func88 (by kernel_rfl) rfl
 obtain⟨A,c,rfl,hc,hm,hr⟩:=id hv;have hm':c≤9223372036854775807:=by (unfold maxLen at hm;omega)
 clear hf hv
 go_enter Tryz.func41,Tryz.ntmps41
 go_wp2
 go_loopw [5,8] (fun _ i wr=>∃k:Nat,i=.int .i64 (k:Int)∧k≤l.length∧Hid (∀j (hj:j<l.length),j<k→p l[j]=false)∧Below w.heap.size w wr) (fun _ i _=>l.length-(intOf i).toNat)
 case atStart=>exact⟨0,rfl,Nat.zero_le _,Lib.hid (fun j hj h0=>by omega),bself w⟩
 case round =>
  obtain⟨k,rfl,hk,hp,hbr⟩:=hrel
  by_cases hlt:k<l.length
  ·obtain⟨b,o,rfl,hb,c0,c1,c2,c3⟩:=(hr.below hbr).ent rfl (k:=k) hlt
   have hc:=HF.out _ (List.getElem_mem hlt) wr hbr
   obtain⟨x,hx⟩:∃x,x=l[k]:=⟨_,rfl⟩
   rw[←hx] at hc c0 c1 c2 c3
   have HX:=Lib.hid hx
   clear hx
   cases hR:p x with
   | false =>
    rw[hR] at hc
    have HRR:=Lib.hid hR
    have HC:=Lib.hid hc
    clear hR hc
    go_wp2_with (first|(fail)|(go_at_fn 88;refine HC.out.mono ?_;rintro _ w2 ⟨rfl,hb2⟩))
    go_roundw
    case rel =>
     refine⟨k+1,by go_num,by omega,Lib.hid (fun j hj hjk=>?_),bstep hbr hb2⟩
     rcases Nat.lt_or_ge j k with h1|h1
     ·exact hp.out j hj h1
     ·have e:j=k:=by omega
      subst e;rw[←HX.out];exact HRR.out
    case measure=>simp[intOf];omega
   | true =>
    rw[hR] at hc
    have HRR:=Lib.hid hR
    have HC:=Lib.hid hc
    clear hR hc
    go_wp2_with (first|(fail)|(go_at_fn 88;refine HC.out.mono ?_;rintro _ w2 ⟨rfl,hb2⟩))
    go_ret
    refine⟨_,rfl,.inr ⟨k,hlt,rfl,by rw[←HX.out];exact HRR.out,fun j hj=>hp.out j (by omega) hj⟩,bstep hbr hb2⟩
  ·go_wp2
   go_ret
   refine⟨_,rfl,.inl ⟨rfl,fun x hx=>?_⟩,hbr⟩
   obtain⟨j,hj,rfl⟩:=List.getElem_of_mem hx
   exact hp.out j hj (by omega)
end Go.Proofs.YtchjknbideoieaaGreatDoor
namespace Go.Proofs.YtchjknbideoieaaGreatDoor
set_option maxRecDepth 100000
set_option maxHeartbeats 8000000
open Go.RowKit Go.Great Go.Proofs
structure KpAt (w:World) (vl v7 v8:Value) (rest out:List Ent) (S:List UInt64) (W:World):Prop where
 box:W.heap[w.heap.size]? = some (.cells #[vl] 22 (0,0))
 l:SE w w.heap.size vl rest
 s:OG 23 u64C 1 W (w.heap.size+1) v7 S
 o:OE W (w.heap.size+1) v8 out
 a:Ap v7 v8
 b:Below w.heap.size w W
section
variable {w W W':World} {vl v7 v8 v9 v10 v11:Value} {rest out K m:List Ent} {S:List UInt64} {n:Nat}
theorem KpAt.on (h:KpAt w vl v7 v8 rest out S W) (hb:Below W.heap.size W W'):KpAt w vl v7 v8 rest out S W' :=
 ⟨(hb.block _ (Array.getElem?_eq_some_iff.1 h.box).1).trans h.box,h.l,h.s.below hb (Nat.le_refl _),h.o.below hb (Nat.le_refl _),h.a,bstep h.b hb⟩
theorem own_ne {x:Value} {b:Nat} (h:∀k,x.ownBlock=some k→b+1≤k):some b≠x.ownBlock:=fun e=>by have:=h b e.symm;omega
theorem KpAt.app (h:KpAt w vl v7 v8 rest out S W) (ho:OE W' (w.heap.size+1) v9 m) (hg:W.grownBy W' v8.ownBlock) (hf:v9.ownBlock=v8.ownBlock∨v9.ownBlock=some n) (hn:W.heap.size≤n) (hb:Below (w.heap.size+1) W W'):KpAt w vl v7 v9 rest m S W' :=
 ⟨(hg.block _ (Array.getElem?_eq_some_iff.1 h.box).1 (own_ne fun k hk=>(h.o.lt k hk).1)).trans h.box,h.l,h.s.grown hg h.a,ho,h.a.right (fun k hk=>(h.s.lt k hk).2) (fs_of hf hn),h.b.trans (hb.mono (Nat.le_succ _))⟩
theorem KpAt.setL (h:KpAt w vl v7 v8 rest out S W) (hl:SE w w.heap.size v9 m):KpAt w v9 v7 v8 m out S (W.setCell ⟨w.heap.size,0,none⟩ v9):=by
 refine⟨?_,hl,h.s.grown (grown_set W rfl v9) ?_,h.o.grown (grown_set W rfl v9) ?_,h.a,h.b.setCell (Nat.le_refl _) _⟩
 ·simp only[World.setCell,Array.getElem?_modify,h.box]
  simp
 ·exact .inr fun e=>own_ne (fun k hk=>(h.s.lt k hk).1) e.symm
 ·exact .inr fun e=>own_ne (fun k hk=>(h.o.lt k hk).1) e.symm
structure KkAt (w:World) (vl v7 v8 v10:Value) (rest out K:List Ent) (S:List UInt64) (W:World):Prop where
 p:KpAt w vl v7 v8 rest out S W
 k:OE W (w.heap.size+1) v10 K
 a7:Ap v7 v10
 a8:Ap v8 v10
theorem KkAt.on (h:KkAt w vl v7 v8 v10 rest out K S W) (hb:Below W.heap.size W W'):KkAt w vl v7 v8 v10 rest out K S W':=⟨h.p.on hb,h.k.below hb (Nat.le_refl _),h.a7,h.a8⟩
theorem KkAt.app (h:KkAt w vl v7 v8 v10 rest out K S W) (ho:OE W' (w.heap.size+1) v11 m) (hg:W.grownBy W' v10.ownBlock) (hf:v11.ownBlock=v10.ownBlock∨v11.ownBlock=some n) (hn:W.heap.size≤n) (hb:Below (w.heap.size+1) W W'):KkAt w vl v7 v8 v11 rest out m S W' :=
 ⟨⟨(hg.block _ (Array.getElem?_eq_some_iff.1 h.p.box).1 (own_ne fun k hk=>(h.k.lt k hk).1)).trans h.p.box,h.p.l,h.p.s.grown hg h.a7,h.p.o.grown hg h.a8,h.p.a,h.p.b.trans (hb.mono (Nat.le_succ _))⟩,ho,h.a7.right (fun k hk=>(h.p.s.lt k hk).2) (fs_of hf hn),h.a8.right (fun k hk=>(h.p.o.lt k hk).2) (fs_of hf hn)⟩
theorem OE.new1 (W:World) (base:Nat) (e:Ent) (hb:base≤W.heap.size):OE (W.alloc (.cells #[.string e.user,.int .u64 (e.seq.toNat:Int),.int .u8 (e.kind.toNat:Int),.string e.value] 29)) base (.slice (some ⟨W.heap.size,0,none⟩) 1 1) [e] :=
 ⟨rfl,.inr ⟨W.heap.size,1,_,rfl,hb,heap_alloc_new W _,Nat.le_refl _,by simp[maxLen],rfl,rfl⟩⟩
theorem KkAt.new (h:KpAt w vl v7 v8 rest out S W) (e:Ent):KkAt w vl v7 v8 (.slice (some ⟨W.heap.size,0,none⟩) 1 1) rest out [e] S (W.alloc (.cells #[.string e.user,.int .u64 (e.seq.toNat:Int),.int .u8 (e.kind.toNat:Int),.string e.value] 29)):=by
 have hap:∀{x:Value},(∀k,x.ownBlock=some k→k<W.heap.size)→Ap x (.slice (some ⟨W.heap.size,0,none⟩) 1 1):=fun {x} hx=>by
  rcases e:x.ownBlock with _|j
  ·exact .inl e
  ·refine .inr fun e2=>?_
   rw[e] at e2
   have:=hx j e
   have e3:j=W.heap.size:=by injection e2
   omega
 have hz:=(Array.getElem?_eq_some_iff.1 h.box).1
 exact⟨h.on (balloc (bself W) _),OE.new1 W _ e (by omega),hap fun k hk=>(h.s.lt k hk).2,hap fun k hk=>(h.o.lt k hk).2⟩
theorem OE.cut {w:World} {base g n c k:Nat} {K:List Ent} (h:OE w base (.slice (some ⟨g,0,none⟩) n c) K) (hk:k≤K.length):OE w base (.slice (some ⟨g,0,none⟩) k c) (K.take k):=by
 obtain⟨h1,h2⟩:=h
 rcases h2 with ⟨e,_⟩|⟨g',cap,cur,e1,e2,e3,e4,e5,e6,e7⟩
 ·cases e
 ·injection e1 with e11 e12 e13
  injection e11 with e11
  injection e11 with e11
  subst e11;subst e13
  have hl:(K.take k).length=k:=by rw[List.length_take,Nat.min_eq_left hk]
  have hf:(K.take k).flatMap entC=(K.flatMap entC).take (k*4):=flatG_take (f:=entC) (c:=4) entC_length K k hk
  refine⟨by rw[flat_length entC 4 entC_length],.inr ⟨g,c,cur,by rw[hl],e2,e3,by omega,e5,e6,?_⟩⟩
  rw[hl,hf,←e7,List.take_take,Nat.min_eq_left (by omega)]
end
theorem keepG_cons (ms:List UInt64) (last:Bool) (g:List Ent) (G:List (List Ent)):keepG ms last (g::G)=stripD last (keptG ms g)++keepG ms last G:=rfl
theorem keep_fin {ms:List UInt64} {last:Bool} {e:Ent} {t out R K T:List Ent} {f:Nat} (h5:out++keepG ms last (groupsF (f+1) (e::t))=T) (hK:K=keptG ms ((e::t).take (keyN e.user t+1))) (hR:R=stripD last K):(out++R)++keepG ms last (groupsF f ((e::t).drop (keyN e.user t+1)))=T:=by
 rw[←h5,groupsF,keepG_cons,hR,hK,List.take_succ_cons,List.drop_succ_cons,List.append_assoc]
theorem keep_len {ms:List UInt64} {last:Bool} {l R K:List Ent} {n:Nat} (hK:K=keptG ms (l.take n)) (hR:R=stripD last K):R.length≤n:=by
 have q1:=keptG_len ms (l.take n)
 rw[←hK,List.length_take] at q1
 have q2:=(stripD_sub last K).length_le
 rw[←hR] at q2
 omega
theorem cut_se {w:World} {B b o n c k:Nat} {l:List Ent} (h:SE w B (.slice (some ⟨b,o,none⟩) n c) l) (hk:k≤l.length):SE w B (.slice (if c=k then some ⟨b,o,none⟩ else some ⟨b,o+k*4,none⟩) (n-k) (c-k)) (l.drop k):=by
 have hn:n=l.length:=by
  obtain⟨_,_,e,_⟩:=h
  injection e
 subst hn
 have h2:=Sl.cut h hk (A:=some ⟨b,o,none⟩) (c:=c) rfl
 unfold SE
 rw[List.length_drop,flatG_drop (f:=entC) (c:=4) entC_length l k hk]
 simpa [add_lit0] using h2
def slLen:Value→Nat
 | .slice _ n _=>n
 | _=>0
theorem kKeep_any (l:List Ent) (ms:List UInt64) (last:Bool) (vl vm:Value) (w:World) (hl:SE w w.heap.size vl l) (hm:SG u64C 1 w w.heap.size vm ms) (hr:risesE l=true) (hlen:l.length≤100000) (hms:ms.length≤1000000) :
  Calls Tryz.prog 46 #[vl,vm,.bool last] w fun e w'=>∃r,e=.returned r∧OE w' w.heap.size r (keepL ms last l)∧Below w.heap.size w w':=by
 obtain⟨T,hT⟩:∃T,T=keepL ms last l:=⟨_,rfl⟩
 rw[←hT]
 obtain⟨A0,c0,rfl,_,_,_⟩:=id hl
 obtain⟨Am,cm,rfl,_,_⟩:=hm.form
 have b1:=balloc (bself w) (.cells #[.slice A0 l.length c0] 22)
 have r1:=heap_alloc_new w (.cells #[.slice A0 l.length c0] 22)
 have z1:w.heap.size<(w.alloc (.cells #[.slice A0 l.length c0] 22)).heap.size:=by simp
 obtain⟨N,hN⟩:∃N,N=l.length:=⟨_,rfl⟩
 obtain⟨M,hM⟩:∃M,M=ms.length:=⟨_,rfl⟩
 rw[←hN] at hl r1 b1 z1 ⊢
 rw[←hM] at hm ⊢
 have HL:=Lib.hid (And.intro hl (And.intro hm (And.intro hT (And.intro hN (And.intro hM (And.intro hr (And.intro hlen hms)))))))
 have hN1:N≤100000:=by omega
 clear hl hm hT hN hM hr hlen hms
 go_enter Tryz.func46,Tryz.ntmps46
 go_upto_region 1 with fail
 generalize World.alloc w _=w1 at b1 r1 z1 ⊢
 have hRis:Calls Tryz.prog 43 #[.slice (some ⟨w1.heap.size,0,none⟩) 1 1] (w1.alloc (.cells #[.slice A0 N c0] 22)) fun e w'=>e=.returned (.bool true)∧Below (w1.alloc (.cells #[.slice A0 N c0] 22)).heap.size (w1.alloc (.cells #[.slice A0 N c0] 22)) w' :=
  kMRises_any [(.slice A0 N c0,l)] _ _ ⟨SG.new1 w1 prC 1 22 (.slice A0 N c0,l) rfl rfl (by simp),fun p hp=>by
   rw[List.mem_singleton.1 hp];exact SE.on HL.out.1 (balloc b1 _)⟩ (by simp) (fun p hp=>by
   rw[List.mem_singleton.1 hp];exact⟨HL.out.2.2.2.2.2.1,by have:=HL.out.2.2.2.2.2.2.1;show l.length≤_;omega⟩)
 have HRis:=Lib.hid hRis
 have cB:=cell_of_row _ _ 0 _ _ _ r1
 clear hRis
 go_upto_region 3 with (go_at_call 43;refine HRis.out.mono ?_;rintro _ w2 ⟨rfl,hb2⟩)
 have b2:=bstep (balloc b1 (.cells #[.slice A0 N c0] 22)) hb2
 have r2:=(hb2.block _ (by simp;omega)).trans ((heap_alloc_old w1 (.cells #[.slice A0 N c0] 22) z1).trans r1)
 have z2:w.heap.size<w2.heap.size:=(Array.getElem?_eq_some_iff.1 r2).1
 clear HRis hb2 cB r1 b1 z1
 go_upto_region 4 with (first|(go_at_call 87;refine (kValues_any Am M cm w2).mono ?_;rintro _ w3 ⟨rfl,rfl⟩)|(go_at_call 86;refine (kSorted_any (.slice Am M cm) ms w2.heap.size (w2.alloc (.cells #[.slice Am M cm] 58)) HL.out.2.2.2.2.2.2.2 (cell_of_row _ _ 0 _ _ _ (heap_alloc_new w2 _)) (by simp) (HL.out.2.1.on (balloc b2 _))).mono ?_;rintro _ w4 ⟨r7,rfl,ho7,hb7⟩))
 have b4:=bstep (balloc b2 (.cells #[.slice Am M cm] 58)) hb7
 have r4:=(hb7.block _ (by simp;omega)).trans ((heap_alloc_old w2 (.cells #[.slice Am M cm] 58) z2).trans r2)
 obtain⟨A7,c7,rfl,_,hc7⟩:=ho7.sg.form
 obtain⟨n7,hn7⟩:∃n7,n7=(sortU ms).length:=⟨_,rfl⟩
 rw[←hn7] at ho7 ⊢
 have HP0:Hid (KpAt w (.slice A0 N c0) (.slice A7 n7 c7) (.slice none 0 0) l [] (sortU ms) w4):=Lib.hid ⟨r4,HL.out.1,ho7.rebase (by simp;omega),OE.nil_ _ _,Ap.nil_ _,b4⟩
 have HN7:=Lib.hid (And.intro hn7 (show (sortU ms).length=M by rw[HL.out.2.2.2.2.1];simp[sortU]))
 have hn7b:n7≤1000000:=by have:=HN7.out.2;have:=HL.out.2.2.2.2.2.2.2;have:=HL.out.2.2.2.2.1;omega
 clear ho7 hn7 r4 b4 hb7 r2 b2 z2
 go_wp2_with fail
 go_loopg [8] (N+1) (fun gk s8 wr=>∃(A8:Option Addr) (m8 c8:Nat) (vr:Value) (rest out:List Ent),s8=.slice A8 m8 c8∧Hid (m8=out.length∧KpAt w vr (.slice A7 n7 c7) (.slice A8 m8 c8) rest out (sortU ms) wr∧(∃f,rest.length≤f∧out++keepG ms last (groupsF f rest)=T)∧out.length+rest.length≤N∧rest.length<gk))
 case atStart=>exact⟨none,0,0,_,l,[],rfl,Lib.hid ⟨rfl,HP0.out,⟨l.length,Nat.le_refl _,by rw[HL.out.2.2.1];rfl⟩,by rw[HL.out.2.2.2.1];simp,by rw[HL.out.2.2.2.1];omega⟩⟩
 case round =>
  obtain⟨A8,m8,c8,vr,rest,out,rfl,HQ⟩:=hrel
  clear HP0
  have hb5:=HQ.out.2.1.box
  obtain⟨Ar,cr,rfl,_,_,_⟩:=id HQ.out.2.1.l
  have cB:=cell_of_row _ _ 0 _ _ _ hb5
  have hzB:=(Array.getElem?_eq_some_iff.1 hb5).1
  clear hb5
  cases rest with
  | nil =>
   rw[List.length_nil] at cB
   go_wp2_with fail
   go_ret
   refine⟨_,rfl,?_,HQ.out.2.1.b⟩
   obtain⟨f,_,hf⟩:=HQ.out.2.2.1
   have h5:keepG ms last (groupsF f [])=[]:=by cases f <;> rfl
   rw[h5,List.append_nil] at hf
   rw[←hf]
   exact HQ.out.2.1.o.rebase (Nat.le_succ _)
  | cons e t =>
   obtain⟨tl,htl⟩:∃tl,tl=t.length:=⟨_,rfl⟩
   rw[List.length_cons,←htl] at cB HQ
   have hrl:tl+1≤N:=by have h:=HQ.out.2.2.2.1;omega
   obtain⟨n,hn⟩:∃n,n=keyN e.user t+1:=⟨_,rfl⟩
   have hnl:1≤n∧n≤tl+1:=by have:=keyN_le e.user t;omega
   have HIdx:Hid (∀W,Below wr.heap.size wr W→Calls Tryz.prog 41 #[.slice Ar (tl+1) cr,.func (.func 88) #[] #[.pointer (some ⟨w.heap.size,0,none⟩)]] W fun en w'=>∃i,en=.returned (.int .i64 i)∧IdxIs (offU e.user) (e::t) i∧Below W.heap.size W w'):=Lib.hid (fun W hW=>by
    have hP:=HQ.out.2.1.on hW
    refine kIndexK_any (e::t) (.pointer (some ⟨w.heap.size,0,none⟩)) (offU e.user) _ W (hP.l.on hP.b) (by simp;omega) (fun x _ W' hW'=>?_)
    have hP':=hP.on hW'
    exact kOff_any x e t _ w.heap.size W' (cell_of_row _ _ 0 _ _ _ hP'.box) (Array.getElem?_eq_some_iff.1 hP'.box).1 (hP'.l.on hP'.b))
   have HTL:=Lib.hid (And.intro htl hn)
   clear htl hn
   go_upto_region 7 with (go_at_call 41;refine (HIdx.out _ (bself _)).mono ?_;rintro _ w2 ⟨i,rfl,hi,hb2⟩;have HI:=Lib.hid hi;clear hi)
   have hki:=key_of_idx HI.out
   rw[←HTL.out.2,←HTL.out.1] at hki
   have cB2:=(hb2.cell (p:=⟨w.heap.size,0,none⟩) hzB).trans cB
   have HP2:=Lib.hid (HQ.out.2.1.on hb2)
   have hzB2:w.heap.size<w2.heap.size:=by have:=hb2.size;omega
   clear HIdx cB hzB hb2
   go_upto_if 28 with fail
   go_cut [9] (fun s9 wc=>s9=.int .i64 (n:Int)∧wc=w2)
   case first =>
    by_cases hi0:i<0
    ·rw[if_pos hi0] at hki
     go_wp2_with fail
     go_meet
     case rel=>exact⟨by rw[←hki],rfl⟩
    ·rw[if_neg hi0] at hki
     go_wp2_with fail
     go_meet
     case rel=>exact⟨by rw[←hki],rfl⟩
   case rest =>
    obtain⟨rfl,rfl⟩:=hcut
    clear hki
    have hse:=HP2.out.l
    obtain⟨b,o,c,e1,hbl,hc1,hc2,y0,y1,y2,y3⟩:=head_cells hse
    injection e1 with e1 e2 e3
    subst e1;subst e3
    clear e2 hc1
    have y0:=(HP2.out.b.cell hbl).trans y0
    have y1:=(HP2.out.b.cell hbl).trans y1
    have y2:=(HP2.out.b.cell hbl).trans y2
    have y3:=(HP2.out.b.cell hbl).trans y3
    have HSE:=Lib.hid hse
    clear hse
    go_upto_region 10 with fail
    have hK0:=Lib.hid (KkAt.new HP2.out e)
    have hzK:wc.heap.size<(wc.alloc (.cells #[.string e.user,.int .u64 (e.seq.toNat:Int),.int .u8 (e.kind.toNat:Int),.string e.value] 29)).heap.size:=by simp
    obtain⟨gK,hgK⟩:∃gK,gK=wc.heap.size:=⟨_,rfl⟩
    rw[←hgK] at hK0 ⊢
    generalize World.alloc wc _=w3 at hK0 hzK ⊢
    clear y0 y1 y2 y3 cB2 HP2 hgK
    go_wp2_with fail
    go_loopw [10,11] (fun s10 s11 wi=>∃(j:Nat) (A10:Option Addr) (m10 c10:Nat) (K:List Ent),s11=.int .i64 ((j:Int)+1)∧s10=.slice A10 m10 c10∧j+1≤n∧Hid (m10=K.length∧K=keptG ms ((e::t).take (j+1))∧KkAt w (.slice (some ⟨b,o,none⟩) (tl+1) cr) (.slice A7 n7 c7) (.slice A8 m8 c8) (.slice A10 m10 c10) (e::t) out K (sortU ms) wi)) (fun _ s11 _=>n-(intOf s11).toNat)
    case atStart=>exact⟨0,_,1,1,[e],rfl,rfl,by omega,Lib.hid ⟨rfl,rfl,hK0.out⟩⟩
    case round =>
     obtain⟨j,A10,m10,c10,K,rfl,rfl,hj,HK⟩:=hrel
     clear hK0
     by_cases hjn:j+1<n
     ·have hjj:(j:Int)+1<(n:Int):=by omega
      have hj1:j+1<(e::t).length:=by rw[List.length_cons,←HTL.out.1];omega
      have hj0:j<(e::t).length:=by omega
      have hP:=HK.out.2.2.p
      have cB:=cell_of_row _ _ 0 _ _ _ hP.box
      have hzB:=(Array.getElem?_eq_some_iff.1 hP.box).1
      obtain⟨A',c',e',_,_,hrd⟩:=HSE.out
      injection e' with e1 e2 e3
      subst e1
      clear e2 e3
      obtain⟨b',o',he,_,x0,x1,x2,x3⟩:=hrd.ent rfl (k:=j+1) hj1
      injection he with he
      injection he with he1 he2
      subst he1;subst he2
      obtain⟨b',o',he,_,_,z1,_,_⟩:=hrd.ent rfl (k:=j) hj0
      injection he with he
      injection he with he1 he2
      subst he1;subst he2
      clear hrd
      have x0:=(hP.b.cell (by exact hbl)).trans x0
      have x1:=(hP.b.cell (by exact hbl)).trans x1
      have x2:=(hP.b.cell (by exact hbl)).trans x2
      have x3:=(hP.b.cell (by exact hbl)).trans x3
      have z1:=(hP.b.cell (by exact hbl)).trans z1
      obtain⟨x,hx⟩:∃x,x=(e::t)[j+1]:=⟨_,rfl⟩
      obtain⟨y,hy⟩:∃y,y=(e::t)[j]:=⟨_,rfl⟩
      rw[←hx] at x0 x1 x2 x3
      rw[←hy] at z1
      have HXY:=Lib.hid (And.intro hx hy)
      have hjt:(j:Int)+1<(tl:Int)+1:=by omega
      have hjt2:(j:Int)<(tl:Int)+1:=by omega
      have hjt3:(0:Int)≤(j:Int)+1:=by omega
      have gi:IntKind.i64.wrap (j:Int)=(j:Int):=IntWalk.i64_in _ (by omega)
      have HBin:Hid (∀W,Below wr.heap.size wr W→Calls Tryz.prog 89 #[.slice A7 n7 c7,.int .u64 (x.seq.toNat:Int)] W fun en w'=>∃(k:Nat) (f:Bool),en=.returned (.tuple #[.int .i64 (k:Int),.bool f])∧BinOk (sortU ms) x.seq k∧Below W.heap.size W w'):=Lib.hid (fun W hW=>kBin_any _ (sortU ms) x.seq W ((hP.on hW).s.sg) (sortU_le ms) (by rw[←HN7.out.1];exact hn7b))
      clear hP hx hy
      have hbl2:b<wr.heap.size:=by have:=HK.out.2.2.p.b.size;omega
      have hKl:K.length≤100000:=by
       have h:=keptG_len ms ((e::t).take (j+1))
       rw[←HK.out.2.1,List.length_take] at h
       omega
      have hm10:m10≤100000:=by rw[HK.out.1];exact hKl
      have HKL:=Lib.hid hKl
      clear hKl
      go_upto_region 14 with (go_at_call 89;refine (HBin.out _ (bself _)).mono ?_;rintro _ w4 ⟨k,fb,rfl,hk,hb4⟩;have HBk:=Lib.hid hk;clear hk)
      have HK4:=Lib.hid (HK.out.2.2.on hb4)
      have cB4:=(hb4.cell (p:=⟨w.heap.size,0,none⟩) hzB).trans cB
      have x0:=(hb4.cell (by exact hbl2)).trans x0
      have x1:=(hb4.cell (by exact hbl2)).trans x1
      have x2:=(hb4.cell (by exact hbl2)).trans x2
      have x3:=(hb4.cell (by exact hbl2)).trans x3
      have z1:=(hb4.cell (by exact hbl2)).trans z1
      have hz4:w.heap.size+1≤w4.heap.size:=by have:=hb4.size;omega
      clear HBin cB hb4
      have hkept:=kept_step ms hj1
      rw[←HXY.out.1,←HXY.out.2,←HK.out.2.1] at hkept
      by_cases hkn:k<n7
      ·have hkS:k<(sortU ms).length:=by rw[←HN7.out.1];exact hkn
       obtain⟨b7,o7,k7,e7,_,_⟩:=HK4.out.p.s.sg.at_ u64C_length (by omega)
       injection e7 with e71 e72 e73
       subst e71;subst e73
       clear e72
       have cS:=HK4.out.p.s.sg.num hkS
       obtain⟨z,hz⟩:∃z,z=(sortU ms)[k]:=⟨_,rfl⟩
       rw[←hz] at cS
       have hkni:(k:Int)<(n7:Int):=by omega
       by_cases hzy:z.toNat<y.seq.toNat
       ·have hsn:seenE ms x y=true:=(bin_seen HBk.out).2 ⟨hkS,by rw[←hz];exact hzy⟩
        rw[if_pos hsn] at hkept
        have HKT:=Lib.hid hkept
        have hzyi:(z.toNat:Int)<(y.seq.toNat:Int):=by omega
        clear hsn hkept hz hzy
        go_quiet (fail)
        have HK5:=Lib.hid (HK4.out.on (bdrewN (bself w4) nq))
        have cB5:(w4.drewN nq).cell? ⟨w.heap.size,0,none⟩=_:=cB4
        have x0:(w4.drewN nq).cell? ⟨b,o+(j+1)*4,none⟩=_:=x0
        have x1:(w4.drewN nq).cell? ⟨b,o+(j+1)*4+1,none⟩=_:=x1
        have x2:(w4.drewN nq).cell? ⟨b,o+(j+1)*4+2,none⟩=_:=x2
        have x3:(w4.drewN nq).cell? ⟨b,o+(j+1)*4+3,none⟩=_:=x3
        have hz5:w.heap.size+1≤(w4.drewN nq).heap.size:=hz4
        clear cS cB4 z1
        generalize World.drewN w4 nq=w5 at HK5 cB5 x0 x1 x2 x3 hz5 ⊢
        go_upto_region 12 with (at_builtin;refine wl_appEs rfl (.tmp 67) (.tmp 72) rfl (w.heap.size+1) (.slice A10 m10 c10) K rfl (HK5.out.k.alloc _) (w5.heap.size+1) _ [x] rfl (SE.newAt x rfl (by omega)) (by have:=HKL.out;simp[maxLen];omega) (Fits.of _ _ _ (by have:=HKL.out;simp;omega)) (by simp;omega) ?_;intro v6 w6 ho6 hg6 hf6 hb6;obtain⟨g6,k6,rfl⟩:=ho6.formP (by simp);obtain⟨m6,hm6⟩:∃m6,m6=(K++[x]).length:=⟨_,rfl⟩;rw[←hm6] at ho6 ⊢;have H6:=Lib.hid (And.intro hm6 (And.intro ho6 (And.intro hg6 (And.intro hf6 hb6))));clear hm6 ho6 hg6 hf6 hb6)
        go_wp2_with fail
        go_roundw
        case rel =>
         obtain⟨hm6,ho6,hg6,hf6,hb6⟩:=H6.out
         exact⟨j+1,_,m6,_,K++[x],by go_num,rfl,by omega,Lib.hid ⟨hm6,HKT.out.symm,(HK5.out.on (balloc (bself w5) _)).app ho6 hg6 hf6 (Nat.le_refl _) hb6⟩⟩
        case measure=>simp[intOf];omega
       ·have hsn:seenE ms x y=false:=by
         rcases Bool.eq_false_or_eq_true (seenE ms x y) with h|h
         ·obtain⟨_,h2⟩:=(bin_seen HBk.out).1 h
          rw[←hz] at h2
          exact absurd h2 hzy
         ·exact h
        rw[if_neg (by simp[hsn]),List.append_nil] at hkept
        have HKT:=Lib.hid hkept
        have hzyi:¬(z.toNat:Int)<(y.seq.toNat:Int):=by omega
        clear hsn hkept hz hzy
        go_quiet (fail)
        go_wp2_with fail
        go_roundw
        case rel=>exact⟨j+1,_,m10,_,K,by go_num,rfl,by omega,Lib.hid ⟨HK.out.1,HKT.out.symm,HK4.out.on (bdrewN (bself w4) nq)⟩⟩
        case measure=>simp[intOf];omega
      ·have hsn:seenE ms x y=false:=by
        rcases Bool.eq_false_or_eq_true (seenE ms x y) with h|h
        ·obtain⟨h2,_⟩:=(bin_seen HBk.out).1 h
         rw[←HN7.out.1] at h2
         exact absurd h2 hkn
        ·exact h
       rw[if_neg (by simp[hsn]),List.append_nil] at hkept
       have HKT:=Lib.hid hkept
       have hkni:¬(k:Int)<(n7:Int):=by omega
       clear hsn hkept
       go_quiet (fail)
       go_wp2_with fail
       go_roundw
       case rel=>exact⟨j+1,_,m10,_,K,by go_num,rfl,by omega,Lib.hid ⟨HK.out.1,HKT.out.symm,HK4.out.on (bdrewN (bself w4) nq)⟩⟩
       case measure=>simp[intOf];omega
     ·have hjj:¬(j:Int)+1<(n:Int):=by omega
      have hKn:K=keptG ms ((e::t).take n):=by rw[HK.out.2.1,show j+1=n by omega]
      have HKn:=Lib.hid hKn
      clear hKn
      cases last with
      | false =>
       have HR:Hid (m10=K.length∧K=stripD false K∧KkAt w (.slice (some ⟨b,o,none⟩) (tl+1) cr) (.slice A7 n7 c7) (.slice A8 m8 c8) (.slice A10 m10 c10) (e::t) out K (sortU ms) wr):=Lib.hid ⟨HK.out.1,rfl,HK.out.2.2⟩
       go_wp2_with fail
       go_loopw [10] (fun s10 wi=>s10=.slice A10 m10 c10∧wi=wr) (fun _ _=>0)
       case atStart=>exact⟨rfl,rfl⟩
       case round =>
        obtain⟨rfl,rfl⟩:=hrel
        have cB:=cell_of_row _ _ 0 _ _ _ HR.out.2.2.p.box
        have hol:out.length≤100000:=by have:=HQ.out.2.2.2.1;omega
        have hKl:(K).length≤100000:=by
         have h1:=keptG_len ms ((e::t).take n)
         rw[←HKn.out,List.length_take] at h1
         have h2:(K).length≤K.length:=by first|exact Nat.le_refl _|(rw[List.length_take];omega)
         omega
        have HOL:=Lib.hid (And.intro hol hKl)
        have hz6:w.heap.size+1≤wr.heap.size:=by have:=(Array.getElem?_eq_some_iff.1 HR.out.2.2.p.box).1;omega
        clear hol hKl
        go_upto_region 19 with (at_builtin;refine wl_appEs rfl (.tmp 95) (.tmp 96) rfl (w.heap.size+1) (.slice A8 m8 c8) out rfl HR.out.2.2.p.o wr.heap.size (.slice A10 m10 c10) (K) rfl HR.out.2.2.k.se (by have:=HOL.out;simp only[maxLen];omega) (Fits.of _ _ _ (by have:=HOL.out;omega)) hz6 ?_;intro v9 w9 ho9 hg9 hf9 hb9;obtain⟨A9,c9,rfl,h91,h92,h93⟩:=ho9.se;clear h91 h92 h93;obtain⟨m9,hm9⟩:∃m9,m9=(out++(K)).length:=⟨_,rfl⟩;rw[←hm9] at ho9 hf9 ⊢;have H9:=Lib.hid (And.intro ho9 (And.intro hg9 (And.intro hf9 hb9)));have HM9:=Lib.hid hm9;clear hm9 ho9 hg9 hf9 hb9)
        obtain⟨ho9,hg9,hf9,hb9⟩:=H9.out
        have HP9:=Lib.hid (HR.out.2.2.p.app ho9 hg9 hf9 (Nat.le_refl _) hb9)
        have cB9:=cell_of_row _ _ 0 _ _ _ HP9.out.box
        have fB9:=fzS_row HP9.out.box 0
        have hnt:(n:Int)≤(tl:Int)+1:=by omega
        clear ho9 hg9 hf9 hb9 H9
        by_cases hcn:cr=n
        ·have hcn2:(cr==n)=true:=by simpa using hcn
         go_wp2_with fail
         go_roundg (tl+1)
         case measure=>have:=HQ.out.2.2.2.2;omega
         case rel =>
          have hse9:=cut_se HSE.out (k:=n) (by rw[List.length_cons,←HTL.out.1];omega)
          rw[if_pos hcn,show cr-n=0 by omega] at hse9
          obtain⟨h1,h2,⟨f,h4,h5⟩,h6,h7⟩:=HQ.out
          obtain⟨f',rfl⟩:∃f',f=f'+1:=⟨f-1,by omega⟩
          have hRl:=keep_len HKn.out HR.out.2.1
          refine⟨A9,m9,c9,_,(e::t).drop n,out++(K),rfl,Lib.hid ⟨?_,HP9.out.setL hse9,⟨f',?_,?_⟩,?_,?_⟩⟩
          ·exact HM9.out
          ·rw[List.length_drop,List.length_cons,←HTL.out.1];omega
          ·have q5:=keep_fin h5 (by rw[←HTL.out.2];exact HKn.out) HR.out.2.1
           rw[←HTL.out.2] at q5
           exact q5
          ·rw[List.length_append,List.length_drop,List.length_cons,←HTL.out.1];omega
          ·rw[List.length_drop,List.length_cons,←HTL.out.1];omega
        ·have hcn2:(cr==n)=false:=by simpa using hcn
         go_wp2_with fail
         go_roundg (tl+1)
         case measure=>have:=HQ.out.2.2.2.2;omega
         case rel =>
          have hse9:=cut_se HSE.out (k:=n) (by rw[List.length_cons,←HTL.out.1];omega)
          rw[if_neg hcn] at hse9
          obtain⟨h1,h2,⟨f,h4,h5⟩,h6,h7⟩:=HQ.out
          obtain⟨f',rfl⟩:∃f',f=f'+1:=⟨f-1,by omega⟩
          have hRl:=keep_len HKn.out HR.out.2.1
          refine⟨A9,m9,c9,_,(e::t).drop n,out++(K),rfl,Lib.hid ⟨?_,HP9.out.setL hse9,⟨f',?_,?_⟩,?_,?_⟩⟩
          ·exact HM9.out
          ·rw[List.length_drop,List.length_cons,←HTL.out.1];omega
          ·have q5:=keep_fin h5 (by rw[←HTL.out.2];exact HKn.out) HR.out.2.1
           rw[←HTL.out.2] at q5
           exact q5
          ·rw[List.length_append,List.length_drop,List.length_cons,←HTL.out.1];omega
          ·rw[List.length_drop,List.length_cons,←HTL.out.1];omega
      | true =>
       go_wp2_with fail
       go_loopw [10] (fun s10 wi=>∃(A:Option Addr) (m c:Nat),s10=.slice A m c∧m≤100000∧Hid (m≤K.length∧stripD true (K.take m)=stripD true K∧KkAt w (.slice (some ⟨b,o,none⟩) (tl+1) cr) (.slice A7 n7 c7) (.slice A8 m8 c8) (.slice A m c) (e::t) out (K.take m) (sortU ms) wi)) (fun s10 _=>slLen s10)
       case atStart =>
        have hm10:m10≤100000:=by
         have h:=keptG_len ms ((e::t).take (j+1))
         rw[←HK.out.2.1,←HK.out.1,List.length_take] at h
         omega
        have hKt:K.take m10=K:=by rw[HK.out.1,List.take_length]
        exact⟨A10,m10,c10,rfl,hm10,Lib.hid ⟨by rw[HK.out.1];exact Nat.le_refl _,by rw[hKt],by rw[hKt];exact HK.out.2.2⟩⟩
       case round =>
        obtain⟨A,m,c,rfl,hm,HS⟩:=hrel
        cases m with
        | zero =>
         have HR:Hid (0=(K.take 0).length∧K.take 0=stripD true K∧KkAt w (.slice (some ⟨b,o,none⟩) (tl+1) cr) (.slice A7 n7 c7) (.slice A8 m8 c8) (.slice A 0 c) (e::t) out (K.take 0) (sortU ms) wr):=Lib.hid ⟨rfl,by rw[←HS.out.2.1];rfl,HS.out.2.2⟩
         have cB:=cell_of_row _ _ 0 _ _ _ HR.out.2.2.p.box
         have hol:out.length≤100000:=by have:=HQ.out.2.2.2.1;omega
         have hKl:((K.take 0)).length≤100000:=by
          have h1:=keptG_len ms ((e::t).take n)
          rw[←HKn.out,List.length_take] at h1
          have h2:((K.take 0)).length≤K.length:=by first|exact Nat.le_refl _|(rw[List.length_take];omega)
          omega
         have HOL:=Lib.hid (And.intro hol hKl)
         have hz6:w.heap.size+1≤wr.heap.size:=by have:=(Array.getElem?_eq_some_iff.1 HR.out.2.2.p.box).1;omega
         clear hol hKl
         go_upto_region 19 with (at_builtin;refine wl_appEs rfl (.tmp 95) (.tmp 96) rfl (w.heap.size+1) (.slice A8 m8 c8) out rfl HR.out.2.2.p.o wr.heap.size (.slice A 0 c) ((K.take 0)) rfl HR.out.2.2.k.se (by have:=HOL.out;simp only[maxLen];omega) (Fits.of _ _ _ (by have:=HOL.out;omega)) hz6 ?_;intro v9 w9 ho9 hg9 hf9 hb9;obtain⟨A9,c9,rfl,h91,h92,h93⟩:=ho9.se;clear h91 h92 h93;obtain⟨m9,hm9⟩:∃m9,m9=(out++((K.take 0))).length:=⟨_,rfl⟩;rw[←hm9] at ho9 hf9 ⊢;have H9:=Lib.hid (And.intro ho9 (And.intro hg9 (And.intro hf9 hb9)));have HM9:=Lib.hid hm9;clear hm9 ho9 hg9 hf9 hb9)
         obtain⟨ho9,hg9,hf9,hb9⟩:=H9.out
         have HP9:=Lib.hid (HR.out.2.2.p.app ho9 hg9 hf9 (Nat.le_refl _) hb9)
         have cB9:=cell_of_row _ _ 0 _ _ _ HP9.out.box
         have fB9:=fzS_row HP9.out.box 0
         have hnt:(n:Int)≤(tl:Int)+1:=by omega
         clear ho9 hg9 hf9 hb9 H9
         by_cases hcn:cr=n
         ·have hcn2:(cr==n)=true:=by simpa using hcn
          go_wp2_with fail
          go_roundg (tl+1)
          case measure=>have:=HQ.out.2.2.2.2;omega
          case rel =>
           have hse9:=cut_se HSE.out (k:=n) (by rw[List.length_cons,←HTL.out.1];omega)
           rw[if_pos hcn,show cr-n=0 by omega] at hse9
           obtain⟨h1,h2,⟨f,h4,h5⟩,h6,h7⟩:=HQ.out
           obtain⟨f',rfl⟩:∃f',f=f'+1:=⟨f-1,by omega⟩
           have hRl:=keep_len HKn.out HR.out.2.1
           refine⟨A9,m9,c9,_,(e::t).drop n,out++((K.take 0)),rfl,Lib.hid ⟨?_,HP9.out.setL hse9,⟨f',?_,?_⟩,?_,?_⟩⟩
           ·exact HM9.out
           ·rw[List.length_drop,List.length_cons,←HTL.out.1];omega
           ·have q5:=keep_fin h5 (by rw[←HTL.out.2];exact HKn.out) HR.out.2.1
            rw[←HTL.out.2] at q5
            exact q5
           ·rw[List.length_append,List.length_drop,List.length_cons,←HTL.out.1];omega
           ·rw[List.length_drop,List.length_cons,←HTL.out.1];omega
         ·have hcn2:(cr==n)=false:=by simpa using hcn
          go_wp2_with fail
          go_roundg (tl+1)
          case measure=>have:=HQ.out.2.2.2.2;omega
          case rel =>
           have hse9:=cut_se HSE.out (k:=n) (by rw[List.length_cons,←HTL.out.1];omega)
           rw[if_neg hcn] at hse9
           obtain⟨h1,h2,⟨f,h4,h5⟩,h6,h7⟩:=HQ.out
           obtain⟨f',rfl⟩:∃f',f=f'+1:=⟨f-1,by omega⟩
           have hRl:=keep_len HKn.out HR.out.2.1
           refine⟨A9,m9,c9,_,(e::t).drop n,out++((K.take 0)),rfl,Lib.hid ⟨?_,HP9.out.setL hse9,⟨f',?_,?_⟩,?_,?_⟩⟩
           ·exact HM9.out
           ·rw[List.length_drop,List.length_cons,←HTL.out.1];omega
           ·have q5:=keep_fin h5 (by rw[←HTL.out.2];exact HKn.out) HR.out.2.1
            rw[←HTL.out.2] at q5
            exact q5
           ·rw[List.length_append,List.length_drop,List.length_cons,←HTL.out.1];omega
           ·rw[List.length_drop,List.length_cons,←HTL.out.1];omega
        | succ q =>
         have hqK:q<K.length:=by have:=HS.out.1;omega
         have hlt:(K.take (q+1)).length=q+1:=by rw[List.length_take];omega
         obtain⟨g,k',e1⟩:=HS.out.2.2.k.formP (by omega)
         injection e1 with e1 e2 e3
         subst e1;subst e3
         clear e2
         obtain⟨A',c',e',hcl,hcm,hrd⟩:=HS.out.2.2.k.se
         injection e' with e1 e2 e3
         subst e1
         have hqc:(q:Int)≤(c:Int):=by have:=hlt;omega
         clear e2 e3 hcl hcm
         obtain⟨b',o',he,q1,q2,q3,x2,q4⟩:=hrd.ent rfl (k:=q) (by omega)
         injection he with he
         injection he with he1 he2
         subst he1;subst he2
         clear hrd
         obtain⟨x,hx⟩:∃x,x=K[q]:=⟨_,rfl⟩
         rw[List.getElem_take,←hx,Nat.zero_add] at x2
         clear q1 q2 q3 q4 hlt
         have HX:=Lib.hid hx
         have hq0:(0:Int)<(q:Int)+1:=by omega
         cases hd:((x.kind.toNat:Int)==0) with
         | true =>
          have hdel:isDel K[q]=true:=by rw[←hx];unfold isDel;rw[beq_iff_eq] at hd;simpa using hd
          have HD:=Lib.hid hdel
          clear hdel hx
          go_wp2_with fail
          go_roundw
          case rel=>exact⟨_,q,c,rfl,by omega,Lib.hid ⟨by omega,by rw[←HS.out.2.1,strip_step hqK HD.out],⟨HS.out.2.2.p,by have h:=HS.out.2.2.k.cut (k:=q) (by rw[List.length_take];omega);rwa [List.take_take,Nat.min_eq_left (by omega)] at h,HS.out.2.2.a7,HS.out.2.2.a8⟩⟩⟩
          case measure=>simp[slLen]
         | false =>
          have hdel:isDel K[q]=false:=by rw[←hx];unfold isDel;rw[beq_eq_false_iff_ne] at hd;simpa using hd
          have HR:Hid (q+1=(K.take (q+1)).length∧K.take (q+1)=stripD true K∧KkAt w (.slice (some ⟨b,o,none⟩) (tl+1) cr) (.slice A7 n7 c7) (.slice A8 m8 c8) (.slice (some ⟨g,0,none⟩) (q+1) c) (e::t) out (K.take (q+1)) (sortU ms) wr):=Lib.hid ⟨by rw[List.length_take];omega,by rw[←HS.out.2.1,strip_end hqK hdel],HS.out.2.2⟩
          clear hdel hx
          have cB:=cell_of_row _ _ 0 _ _ _ HR.out.2.2.p.box
          have hol:out.length≤100000:=by have:=HQ.out.2.2.2.1;omega
          have hKl:((K.take (q+1))).length≤100000:=by
           have h1:=keptG_len ms ((e::t).take n)
           rw[←HKn.out,List.length_take] at h1
           have h2:((K.take (q+1))).length≤K.length:=by first|exact Nat.le_refl _|(rw[List.length_take];omega)
           omega
          have HOL:=Lib.hid (And.intro hol hKl)
          have hz6:w.heap.size+1≤wr.heap.size:=by have:=(Array.getElem?_eq_some_iff.1 HR.out.2.2.p.box).1;omega
          clear hol hKl
          go_upto_region 19 with (at_builtin;refine wl_appEs rfl (.tmp 95) (.tmp 96) rfl (w.heap.size+1) (.slice A8 m8 c8) out rfl HR.out.2.2.p.o wr.heap.size (.slice (some ⟨g,0,none⟩) (q+1) c) ((K.take (q+1))) rfl HR.out.2.2.k.se (by have:=HOL.out;simp only[maxLen];omega) (Fits.of _ _ _ (by have:=HOL.out;omega)) hz6 ?_;intro v9 w9 ho9 hg9 hf9 hb9;obtain⟨A9,c9,rfl,h91,h92,h93⟩:=ho9.se;clear h91 h92 h93;obtain⟨m9,hm9⟩:∃m9,m9=(out++((K.take (q+1)))).length:=⟨_,rfl⟩;rw[←hm9] at ho9 hf9 ⊢;have H9:=Lib.hid (And.intro ho9 (And.intro hg9 (And.intro hf9 hb9)));have HM9:=Lib.hid hm9;clear hm9 ho9 hg9 hf9 hb9)
          obtain⟨ho9,hg9,hf9,hb9⟩:=H9.out
          have HP9:=Lib.hid (HR.out.2.2.p.app ho9 hg9 hf9 (Nat.le_refl _) hb9)
          have cB9:=cell_of_row _ _ 0 _ _ _ HP9.out.box
          have fB9:=fzS_row HP9.out.box 0
          have hnt:(n:Int)≤(tl:Int)+1:=by omega
          clear ho9 hg9 hf9 hb9 H9
          by_cases hcn:cr=n
          ·have hcn2:(cr==n)=true:=by simpa using hcn
           go_wp2_with fail
           go_roundg (tl+1)
           case measure=>have:=HQ.out.2.2.2.2;omega
           case rel =>
            have hse9:=cut_se HSE.out (k:=n) (by rw[List.length_cons,←HTL.out.1];omega)
            rw[if_pos hcn,show cr-n=0 by omega] at hse9
            obtain⟨h1,h2,⟨f,h4,h5⟩,h6,h7⟩:=HQ.out
            obtain⟨f',rfl⟩:∃f',f=f'+1:=⟨f-1,by omega⟩
            have hRl:=keep_len HKn.out HR.out.2.1
            refine⟨A9,m9,c9,_,(e::t).drop n,out++((K.take (q+1))),rfl,Lib.hid ⟨?_,HP9.out.setL hse9,⟨f',?_,?_⟩,?_,?_⟩⟩
            ·exact HM9.out
            ·rw[List.length_drop,List.length_cons,←HTL.out.1];omega
            ·have q5:=keep_fin h5 (by rw[←HTL.out.2];exact HKn.out) HR.out.2.1
             rw[←HTL.out.2] at q5
             exact q5
            ·rw[List.length_append,List.length_drop,List.length_cons,←HTL.out.1];omega
            ·rw[List.length_drop,List.length_cons,←HTL.out.1];omega
          ·have hcn2:(cr==n)=false:=by simpa using hcn
           go_wp2_with fail
           go_roundg (tl+1)
           case measure=>have:=HQ.out.2.2.2.2;omega
           case rel =>
            have hse9:=cut_se HSE.out (k:=n) (by rw[List.length_cons,←HTL.out.1];omega)
            rw[if_neg hcn] at hse9
            obtain⟨h1,h2,⟨f,h4,h5⟩,h6,h7⟩:=HQ.out
            obtain⟨f',rfl⟩:∃f',f=f'+1:=⟨f-1,by omega⟩
            have hRl:=keep_len HKn.out HR.out.2.1
            refine⟨A9,m9,c9,_,(e::t).drop n,out++((K.take (q+1))),rfl,Lib.hid ⟨?_,HP9.out.setL hse9,⟨f',?_,?_⟩,?_,?_⟩⟩
            ·exact HM9.out
            ·rw[List.length_drop,List.length_cons,←HTL.out.1];omega
            ·have q5:=keep_fin h5 (by rw[←HTL.out.2];exact HKn.out) HR.out.2.1
             rw[←HTL.out.2] at q5
             exact q5
            ·rw[List.length_append,List.length_drop,List.length_cons,←HTL.out.1];omega
            ·rw[List.length_drop,List.length_cons,←HTL.out.1];omega
end Go.Proofs.YtchjknbideoieaaGreatDoor
namespace Go.Proofs.YtchjknbideoieaaGreatDoor
set_option maxRecDepth 100000
set_option maxHeartbeats 8000000
open Go.RowKit Go.Great Go.Proofs
abbrev Pq:=ByteArray × ByteArray
def pqC (p:Pq):List Value:=[.string p.1,.string p.2]
theorem pqC_length (p:Pq):(pqC p).length=2:=rfl
theorem infoPq:(Tryz.prog.info? 130).map (fun i=>(i.zero,i.size,i.bytes))=some (some (.agg #[.string .empty,.string .empty]),2,32):=by kernel_rfl
def DoneOk (l:List Ent) (dn:Int) (d:Option ByteArray):Prop:=(dn=-1∧d=none)∨∃k:Nat,∃h:k<l.length,dn=(k:Int)∧d=some (l[k]'h).user
theorem view_skip {s:Nat} {d:Option ByteArray} {l:List Ent} {i:Nat} (hi:i<l.length) (h:s<l[i].seq.toNat∨d=some l[i].user):viewF s d (l.drop i)=viewF s d (l.drop (i+1)):=by
 rw[List.drop_eq_getElem_cons hi,viewF,if_pos h]
theorem view_take {s:Nat} {d:Option ByteArray} {l:List Ent} {i:Nat} (hi:i<l.length) (h:¬(s<l[i].seq.toNat∨d=some l[i].user)):viewF s d (l.drop i)=(if l[i].kind.toNat=1 then [(l[i].user,l[i].value)] else [])++viewF s (some l[i].user) (l.drop (i+1)):=by
 rw[List.drop_eq_getElem_cons hi,viewF,if_neg h]
theorem user_ne {a b:ByteArray} (h:(a.toList==b.toList)=false):a≠b:=fun e=>by rw[e] at h;simp at h
theorem kView_any (l:List Ent) (s:UInt64) (v:Value) (w:World) (hv:SE w w.heap.size v l) (hr:risesE l=true) (hl:l.length≤100000) :
  Calls Tryz.prog 20 #[v,.int .u64 (s.toNat:Int)] w fun e w'=>∃r,e=.returned r∧OG 130 pqC 2 w' w.heap.size r (viewF s.toNat none l)∧Below w.heap.size w w':=by
 obtain⟨T,hT⟩:∃T,T=viewF s.toNat none l:=⟨_,rfl⟩
 rw[←hT]
 obtain⟨A,c,rfl,hc1,hc2,_⟩:=id hv
 clear hc1 hc2
 have hRis:Calls Tryz.prog 43 #[.slice (some ⟨w.heap.size,0,none⟩) 1 1] (w.alloc (.cells #[.slice A l.length c] 22)) fun e w'=>e=.returned (.bool true)∧Below (w.alloc (.cells #[.slice A l.length c] 22)).heap.size (w.alloc (.cells #[.slice A l.length c] 22)) w' :=
  kMRises_any [(.slice A l.length c,l)] _ _ ⟨SG.new1 w prC 1 22 (.slice A l.length c,l) rfl rfl (by simp),fun p hp=>by
   rw[List.mem_singleton.1 hp];exact SE.on hv (balloc (bself w) _)⟩ (by simp) (fun p hp=>by
   rw[List.mem_singleton.1 hp];exact⟨hr,by show l.length≤_;omega⟩)
 have HRis:=Lib.hid hRis
 have HV:=Lib.hid hv
 have HT:=Lib.hid hT
 obtain⟨n,hn⟩:∃n,n=l.length:=⟨_,rfl⟩
 rw[←hn] at HRis HV ⊢
 have HN:=Lib.hid hn
 have hn1:n≤100000:=by omega
 clear hRis hv hT hn hl hr
 go_enter Tryz.func20,Tryz.ntmps20
 go_upto_region 3 with (go_at_call 43;refine HRis.out.mono ?_;rintro _ w2 ⟨rfl,hb2⟩)
 have b2:=bstep (balloc (bself w) (.cells #[.slice A n c] 22)) hb2
 clear hb2 HRis
 go_wp2_with fail
 go_loopw [5,6,15] (fun s5 s6 s15 wr=>∃(i:Nat) (dn:Int) (A5:Option Addr) (m5 c5:Nat) (D:List Pq),s15=.int .i64 (i:Int)∧s6=.int .i64 dn∧s5=.slice A5 m5 c5∧i≤n∧Hid (m5=D.length∧D.length≤i∧OG 130 pqC 2 wr w.heap.size (.slice A5 m5 c5) D)∧Hid (∃d,DoneOk l dn d∧T=D++viewF s.toNat d (l.drop i))∧Below w.heap.size w wr) (fun _ _ s15 _=>n-(intOf s15).toNat)
 case atStart=>exact⟨0,-1,none,0,0,[],rfl,rfl,rfl,by omega,Lib.hid ⟨rfl,Nat.le_refl _,OG.nil_ _ _ _ _ _⟩,Lib.hid ⟨none,.inl ⟨rfl,rfl⟩,HT.out⟩,b2⟩
 case round =>
  obtain⟨i,dn,A5,m5,c5,D,rfl,rfl,rfl,hi,HD,HI,hbr⟩:=hrel
  clear b2
  by_cases hin:i<n
  ·have hiL:i<l.length:=by rw[←HN.out];exact hin
   have hii:(i:Int)<(n:Int):=by omega
   obtain⟨A',c',e',q1,q2,hrd⟩:=HV.out
   injection e' with e1 e2 e3
   subst e1
   clear e2 e3 q1 q2
   obtain⟨b,o,rfl,hb,x0,x1,x2,x3⟩:=(hrd.below hbr).ent rfl (k:=i) hiL
   obtain⟨x,hx⟩:∃x,x=l[i]:=⟨_,rfl⟩
   rw[←hx] at x0 x1 x2 x3
   have HX:=Lib.hid hx
   clear hx
   go_upto_region 8 with fail
   have rE:=heap_alloc_new wr (.cells #[.string x.user,.int .u64 (x.seq.toNat:Int),.int .u8 (x.kind.toNat:Int),.string x.value] 29)
   have bE:=balloc (bself wr) (.cells #[.string x.user,.int .u64 (x.seq.toNat:Int),.int .u8 (x.kind.toNat:Int),.string x.value] 29)
   have hEB:w.heap.size≤wr.heap.size:=hbr.size
   obtain⟨EB,hEBd⟩:∃EB,EB=wr.heap.size:=⟨_,rfl⟩
   rw[←hEBd] at rE hEB ⊢
   clear hEBd
   have hbr1:=bstep hbr bE
   have HD1:Hid (m5=D.length∧D.length≤i∧OG 130 pqC 2 (wr.alloc (.cells #[.string x.user,.int .u64 (x.seq.toNat:Int),.int .u8 (x.kind.toNat:Int),.string x.value] 29)) w.heap.size (.slice A5 m5 c5) D):=Lib.hid ⟨HD.out.1,HD.out.2.1,HD.out.2.2.below bE (Nat.le_refl _)⟩
   generalize World.alloc wr _=w1 at rE hbr1 HD1 ⊢
   obtain⟨⟨E0,E1,E2,E3⟩,_⟩:=cells4 rE
   clear rE bE x0 x1 x2 x3 HD hbr
   by_cases hs:s.toNat<x.seq.toNat
   ·have hsi:(s.toNat:Int)<(x.seq.toNat:Int):=by omega
    go_quiet (fail)
    go_wp2_with fail
    go_roundw
    case rel =>
     obtain⟨d,h1,h2⟩:=HI.out
     exact⟨i+1,dn,A5,m5,c5,D,by go_num,rfl,rfl,by omega,Lib.hid ⟨HD1.out.1,by have:=HD1.out.2.1;omega,HD1.out.2.2⟩,Lib.hid ⟨d,h1,by rw[h2,view_skip hiL (.inl (by rw[←HX.out];exact hs))]⟩,bdrewN hbr1 nq⟩
    case measure=>simp[intOf];omega
   ·have hsi:¬(s.toNat:Int)<(x.seq.toNat:Int):=by omega
    rcases HI.out with ⟨d,⟨hd1,hd2⟩|⟨k,hk,hd1,hd2⟩,hT⟩
    ·subst hd1
     have HV2:=Lib.hid (show T=D++((if x.kind.toNat=1 then [(x.user,x.value)] else [])++viewF s.toNat (some x.user) (l.drop (i+1))) by
      rw[hT,hd2,view_take hiL (by rw[←HX.out];simp[hs]),←HX.out])
     clear hT hd2
     go_quiet (fail)
     have HD5:Hid (m5=D.length∧D.length≤i∧OG 130 pqC 2 (w1.drewN nq) w.heap.size (.slice A5 m5 c5) D):=Lib.hid HD1.out
     have hbr5:Below w.heap.size w (w1.drewN nq):=bdrewN hbr1 nq
     have E0:(w1.drewN nq).cell? ⟨EB,0,none⟩=some (.string x.user):=E0
     have E2:(w1.drewN nq).cell? ⟨EB,2,none⟩=some (.int .u8 (x.kind.toNat:Int)):=E2
     have E3:(w1.drewN nq).cell? ⟨EB,3,none⟩=some (.string x.value):=E3
     generalize World.drewN w1 nq=w5 at HD5 hbr5 E0 E2 E3 ⊢
     clear E1
     cases hkd:((x.kind.toNat:Int)==1) with
     | false =>
      have hk1:¬x.kind.toNat=1:=by rw[beq_eq_false_iff_ne] at hkd;omega
      go_wp2_with fail
      go_roundw
      case rel=>exact⟨i+1,(i:Int),A5,m5,c5,D,by go_num,rfl,rfl,by omega,Lib.hid ⟨HD5.out.1,by have:=HD5.out.2.1;omega,HD5.out.2.2⟩,Lib.hid ⟨some x.user,.inr ⟨i,hiL,rfl,by rw[HX.out]⟩,by rw[HV2.out,if_neg hk1];rfl⟩,hbr5⟩
      case measure=>simp[intOf];omega
     | true =>
      have hk1:x.kind.toNat=1:=by rw[beq_iff_eq] at hkd;omega
      have HK1:=Lib.hid hk1
      have hz5:w.heap.size≤w5.heap.size:=hbr5.size
      clear hk1
      go_upto_region 12 with (at_builtin;refine wl_appG rfl 69 130 _ 32 infoPq Tryz.underlying69 rfl (by omega) (.tmp 42) (.tmp 48) rfl w.heap.size (.slice A5 m5 c5) D rfl (HD5.out.2.2.alloc _) (w5.heap.size+1) _ [(x.user,x.value)] (fun p hp u hu=>by rw[List.mem_singleton.1 hp] at hu;simp only[pqC,List.mem_cons,List.not_mem_nil,or_false] at hu;rcases hu with rfl|rfl <;> rfl) rfl (SG.new1 w5 pqC 2 130 (x.user,x.value) rfl rfl (by omega)) (by have:=HD5.out.2.1;simp[maxLen];omega) (by have:=HD5.out.2.1;simp;omega) (by simp;omega) ?_;intro v6 w6 ho6 hg6 hf6 hb6;obtain⟨g6,k6,rfl⟩:=ho6.form0 (by simp);obtain⟨m6,hm6⟩:∃m6,m6=(D++[(x.user,x.value)]).length:=⟨_,rfl⟩;rw[←hm6] at ho6 ⊢;have H6:=Lib.hid (And.intro hm6 (And.intro ho6 hb6));clear hm6 ho6 hg6 hf6 hb6)
      go_wp2_with fail
      go_roundw
      case rel =>
       obtain⟨hm6,ho6,hb6⟩:=H6.out
       exact⟨i+1,(i:Int),_,m6,k6,D++[(x.user,x.value)],by go_num,rfl,rfl,by omega,Lib.hid ⟨hm6,by have:=HD5.out.2.1;simp;omega,ho6⟩,Lib.hid ⟨some x.user,.inr ⟨i,hiL,rfl,by rw[HX.out]⟩,by rw[HV2.out,if_pos HK1.out,List.append_assoc]⟩,(hbr5.alloc hz5 _).trans hb6⟩
      case measure=>simp[intOf];omega
    ·subst hd1
     obtain⟨A',c',e',q1,q2,hrd⟩:=HV.out
     injection e' with e1 e2 e3
     subst e1
     clear e2 e3 q1 q2
     obtain⟨b',o',he,_,y0,q1,q2,q3⟩:=(hrd.below hbr1).ent rfl (k:=k) hk
     injection he with he
     injection he with he1 he2
     subst he1;subst he2
     clear q1 q2 q3 hrd
     have HDK:Hid (DoneOk l (k:Int) d):=Lib.hid (.inr ⟨k,hk,rfl,hd2⟩)
     obtain⟨y,hy⟩:∃y,y=l[k]:=⟨_,rfl⟩
     rw[←hy] at y0 hd2
     have hkn:(k:Int)<(n:Int):=by have:=HN.out;omega
     have hk0:(0:Int)≤(k:Int):=by omega
     clear hy
     cases hq:(y.user.toList==x.user.toList) with
     | true =>
      have HS:=Lib.hid (show T=D++viewF s.toNat d (l.drop (i+1)) by
       rw[hT,view_skip hiL (.inr (by rw[←HX.out,hd2,ext_toList (show y.user.toList=x.user.toList by simpa using hq)]))])
      clear hT hd2
      go_quiet (fail)
      go_wp2_with fail
      go_roundw
      case rel =>
       exact⟨i+1,(k:Int),A5,m5,c5,D,by go_num,rfl,rfl,by omega,Lib.hid ⟨HD1.out.1,by have:=HD1.out.2.1;omega,HD1.out.2.2⟩,Lib.hid ⟨d,HDK.out,HS.out⟩,bdrewN hbr1 nq⟩
      case measure=>simp[intOf];omega
     | false =>
      have HV2:=Lib.hid (show T=D++((if x.kind.toNat=1 then [(x.user,x.value)] else [])++viewF s.toNat (some x.user) (l.drop (i+1))) by
       have hne:=user_ne hq
       rw[hT,view_take hiL (by rw[←HX.out,hd2];simp[hs,hne]),←HX.out])
      clear hT hd2
      go_quiet (fail)
      have HD5:Hid (m5=D.length∧D.length≤i∧OG 130 pqC 2 (w1.drewN nq) w.heap.size (.slice A5 m5 c5) D):=Lib.hid HD1.out
      have hbr5:Below w.heap.size w (w1.drewN nq):=bdrewN hbr1 nq
      have E0:(w1.drewN nq).cell? ⟨EB,0,none⟩=some (.string x.user):=E0
      have E2:(w1.drewN nq).cell? ⟨EB,2,none⟩=some (.int .u8 (x.kind.toNat:Int)):=E2
      have E3:(w1.drewN nq).cell? ⟨EB,3,none⟩=some (.string x.value):=E3
      generalize World.drewN w1 nq=w5 at HD5 hbr5 E0 E2 E3 ⊢
      clear E1
      cases hkd:((x.kind.toNat:Int)==1) with
      | false =>
       have hk1:¬x.kind.toNat=1:=by rw[beq_eq_false_iff_ne] at hkd;omega
       go_wp2_with fail
       go_roundw
       case rel=>exact⟨i+1,(i:Int),A5,m5,c5,D,by go_num,rfl,rfl,by omega,Lib.hid ⟨HD5.out.1,by have:=HD5.out.2.1;omega,HD5.out.2.2⟩,Lib.hid ⟨some x.user,.inr ⟨i,hiL,rfl,by rw[HX.out]⟩,by rw[HV2.out,if_neg hk1];rfl⟩,hbr5⟩
       case measure=>simp[intOf];omega
      | true =>
       have hk1:x.kind.toNat=1:=by rw[beq_iff_eq] at hkd;omega
       have HK1:=Lib.hid hk1
       have hz5:w.heap.size≤w5.heap.size:=hbr5.size
       clear hk1
       go_upto_region 12 with (at_builtin;refine wl_appG rfl 69 130 _ 32 infoPq Tryz.underlying69 rfl (by omega) (.tmp 42) (.tmp 48) rfl w.heap.size (.slice A5 m5 c5) D rfl (HD5.out.2.2.alloc _) (w5.heap.size+1) _ [(x.user,x.value)] (fun p hp u hu=>by rw[List.mem_singleton.1 hp] at hu;simp only[pqC,List.mem_cons,List.not_mem_nil,or_false] at hu;rcases hu with rfl|rfl <;> rfl) rfl (SG.new1 w5 pqC 2 130 (x.user,x.value) rfl rfl (by omega)) (by have:=HD5.out.2.1;simp[maxLen];omega) (by have:=HD5.out.2.1;simp;omega) (by simp;omega) ?_;intro v6 w6 ho6 hg6 hf6 hb6;obtain⟨g6,k6,rfl⟩:=ho6.form0 (by simp);obtain⟨m6,hm6⟩:∃m6,m6=(D++[(x.user,x.value)]).length:=⟨_,rfl⟩;rw[←hm6] at ho6 ⊢;have H6:=Lib.hid (And.intro hm6 (And.intro ho6 hb6));clear hm6 ho6 hg6 hf6 hb6)
       go_wp2_with fail
       go_roundw
       case rel =>
        obtain⟨hm6,ho6,hb6⟩:=H6.out
        exact⟨i+1,(i:Int),_,m6,k6,D++[(x.user,x.value)],by go_num,rfl,rfl,by omega,Lib.hid ⟨hm6,by have:=HD5.out.2.1;simp;omega,ho6⟩,Lib.hid ⟨some x.user,.inr ⟨i,hiL,rfl,by rw[HX.out]⟩,by rw[HV2.out,if_pos HK1.out,List.append_assoc]⟩,(hbr5.alloc hz5 _).trans hb6⟩
       case measure=>simp[intOf];omega
  ·have hii:¬(i:Int)<(n:Int):=by omega
   go_wp2_with fail
   go_ret
   obtain⟨d,_,hd⟩:=HI.out
   rw[List.drop_of_length_le (by rw[←HN.out];omega),viewF,List.append_nil] at hd
   exact⟨_,rfl,by rw[hd];exact HD.out.2.2,hbr⟩
theorem kSamePairs_any (D:List Pq) (v1 v2:Value) (w:World) (h1:SG pqC 2 w w.heap.size v1 D) (h2:SG pqC 2 w w.heap.size v2 D) (hl:D.length≤100000) :
  Calls Tryz.prog 19 #[v1,v2] w fun e w'=>e=.returned (.bool true)∧Below w.heap.size w w':=by
 obtain⟨A1,c1,rfl,q1,q2⟩:=h1.form
 obtain⟨A2,c2,rfl,q3,q4⟩:=h2.form
 have H1:=Lib.hid h1
 have H2:=Lib.hid h2
 obtain⟨n,hn⟩:∃n,n=D.length:=⟨_,rfl⟩
 rw[←hn] at H1 H2 ⊢
 have HN:=Lib.hid hn
 have hn1:n≤100000:=by omega
 clear h1 h2 q1 q2 q3 q4 hn hl
 go_enter Tryz.func19,Tryz.ntmps19
 go_wp2_with fail
 go_loopw [5] (fun s5 wr=>∃i:Nat,s5=.int .i64 (i:Int)∧i≤n∧Below w.heap.size w wr) (fun s5 _=>n-(intOf s5).toNat)
 case atStart=>exact⟨0,rfl,by omega,bself w⟩
 case round =>
  obtain⟨i,rfl,hi,hbr⟩:=hrel
  by_cases hin:i<n
  ·have hiD:i<D.length:=by rw[←HN.out];exact hin
   have hii:(i:Int)<(n:Int):=by omega
   obtain⟨b1,o1,k1,e1,hb1,hr1⟩:=H1.out.at_ pqC_length (by omega)
   injection e1 with e11 e12 e13
   subst e11;subst e13
   clear e12
   obtain⟨b2,o2,k2,e1,hb2,hr2⟩:=H2.out.at_ pqC_length (by omega)
   injection e1 with e11 e12 e13
   subst e11;subst e13
   clear e12
   obtain⟨p,hp⟩:∃p,p=D[i]:=⟨_,rfl⟩
   have y0:=(hbr.cell (p:=⟨b1,o1+i*2,none⟩) hb1).trans (by simpa using hr1 i hiD 0 (.string p.1) (by rw[hp];rfl))
   have y1:=(hbr.cell (p:=⟨b1,o1+i*2+1,none⟩) hb1).trans (by simpa using hr1 i hiD 1 (.string p.2) (by rw[hp];rfl))
   have z0:=(hbr.cell (p:=⟨b2,o2+i*2,none⟩) hb2).trans (by simpa using hr2 i hiD 0 (.string p.1) (by rw[hp];rfl))
   have z1:=(hbr.cell (p:=⟨b2,o2+i*2+1,none⟩) hb2).trans (by simpa using hr2 i hiD 1 (.string p.2) (by rw[hp];rfl))
   clear hp hr1 hr2
   go_upto_region 6 with fail
   go_quiet (fail)
   go_wp2_with fail
   go_roundw
   case rel=>exact⟨i+1,by go_num,by omega,bdrewN hbr nq⟩
   case measure=>simp[intOf];omega
  ·have hii:¬(i:Int)<(n:Int):=by omega
   go_wp2_with fail
   go_ret
   exact⟨rfl,hbr⟩
theorem kSJoin_any (P:List Pr) (ms:List UInt64) (last:Bool) (most:Int) (v vm:Value) (w:World) (hv:SpKept w w.heap.size v P) (h0:0<P.length) (hl:P.length≤1000) (hr:∀p∈P,risesE p.2=true) (hN:lenL (P.map (·.2))≤1000) (hpl:∀p∈P,p.2.length≤1000)
  (hm:SG u64C 1 w w.heap.size vm ms) (hms:ms.length≤1000000) (hz:∀p∈P,∀e∈p.2,e.user.size≤1048576∧e.value.size≤1048576) (hmost:0≤most∧most≤1000000) :
  Calls Tryz.prog 16 #[v,vm,.bool last,.int .i64 most] w fun e w'=>∃r R,e=.returned r∧OL w' w.heap.size r R∧R.map (·.2)=splitL most (keepL ms last (mergeL (P.map (·.2))))∧Below w.heap.size w w':=by
 obtain⟨M,hM⟩:∃M,M=mergeL (P.map (·.2)):=⟨_,rfl⟩
 obtain⟨K,hK⟩:∃K,K=keepL ms last M:=⟨_,rfl⟩
 obtain⟨m1,m2,m3,_⟩:=mergeL_is (L:=P.map (·.2)) (fun x hx=>by obtain⟨p,hp,rfl⟩:=List.mem_map.1 hx;exact hr p hp)
 rw[←hM] at m1 m2 m3
 have hKs:=keepL_sub ms last M
 rw[←hK] at hKs
 have hKr:=rises_sub m1 hKs
 have hKl:=hKs.length_le
 have hKz:∀e∈K,e.user.size≤1048576∧e.value.size≤1048576:=fun e he=>by
  obtain⟨x,hx,hxe⟩:=m2 e (hKs.subset he)
  obtain⟨p,hp,rfl⟩:=List.mem_map.1 hx
  exact hz p hp e hxe
 have HMg:=Lib.hid (kMerge_any P v w hv h0 hl hr (by omega) (fun p hp=>by have:=hpl p hp;omega))
 have HKp:Hid (∀u W,SE W W.heap.size u M→Below w.heap.size w W→Calls Tryz.prog 46 #[u,vm,.bool last] W fun e w'=>∃r,e=.returned r∧OE w' W.heap.size r K∧Below W.heap.size W w'):=Lib.hid (fun u W hu hW=>by
  rw[hK];exact kKeep_any M ms last u vm W hu (hm.on hW) m1 (by omega) hms)
 have HSp:Hid (∀u W,SE W W.heap.size u K→Calls Tryz.prog 21 #[u,.int .i64 most] W fun e w'=>∃r P,e=.returned r∧OL w' W.heap.size r P∧P.map (·.2)=splitL most K∧Below W.heap.size W w'):=Lib.hid (fun u W hu=>kSplit_any K u most W hu hKr (by omega) hKz hmost)
 rw[←hM] at HMg ⊢
 rw[←hK]
 obtain⟨A,c,rfl,_,_⟩:=(id hv.1).form
 obtain⟨Am,cm,rfl,_,_⟩:=hm.form
 clear hv hr hN hpl hm hz hM hK m1 m2 m3 hKs hKr hKl hKz
 go_enter Tryz.func16,Tryz.ntmps16
 go_wp2_with (first|(go_at_call 15;refine HMg.out.mono ?_;rintro _ w1 ⟨r1,rfl,ho1,hb1⟩;have HS1:=Lib.hid ho1.se;clear ho1)|(go_at_call 46;refine (HKp.out _ _ HS1.out hb1).mono ?_;rintro _ w2 ⟨r2,rfl,ho2,hb2⟩;have HS2:=Lib.hid ho2.se;clear ho2)|(go_at_call 21;refine (HSp.out _ _ HS2.out).mono ?_;rintro _ w3 ⟨r3,R,rfl,ho3,hR,hb3⟩;have HO3:=Lib.hid (And.intro ho3 hR);clear ho3 hR))
 go_ret
 have b2:=bstep hb1 hb2
 exact⟨_,R,rfl,⟨OG.rebase HO3.out.1.o b2.size,fun p hp=>(HO3.out.1.i p hp).rebase b2.size,HO3.out.1.a,HO3.out.1.t⟩,HO3.out.2,bstep b2 hb3⟩
end Go.Proofs.YtchjknbideoieaaGreatDoor
namespace Go.Proofs.YtchjknbideoieaaGreatDoor
set_option maxRecDepth 100000
set_option maxHeartbeats 8000000
open Go.RowKit Go.Great Go.Proofs
theorem textE_sub {l m:List Ent} (h:l.Sublist m):textE l≤textE m:=by
 induction h with
 | slnil=>exact Nat.le_refl _
 | cons a _ ih=>rw[textE_cons];omega
 | cons_cons a _ ih=>rw[textE_cons,textE_cons];omega
structure TwoL (a b:List Ent):Prop where
 ra:rightL a=true
 rb:rightL b=true
 la:a.length≤200
 lb:b.length≤200
 ta:textE a≤3000
 tb:textE b≤3000
theorem TwoL.merge {a b:List Ent} (h:TwoL a b):rightL (mergeL [a,b])=true∧(mergeL [a,b]).length≤400∧textE (mergeL [a,b])≤6000:=by
 obtain⟨m1,m2,m3,m4⟩:=mergeL_is (L:=[a,b]) (fun x hx=>by
  simp only[List.mem_cons,List.not_mem_nil,or_false] at hx
  rcases hx with rfl|rfl
  ·exact (rightL_all h.ra).1
  ·exact (rightL_all h.rb).1)
 have e1:=h.la;have e2:=h.lb;have e3:=h.ta;have e4:=h.tb
 simp only[lenL,List.flatten_cons,List.flatten_nil,List.append_nil,List.length_append,textE_append] at m3 m4
 refine⟨?_,by omega,by omega⟩
 unfold rightL
 rw[Bool.and_eq_true,List.all_eq_true]
 refine⟨m1,fun y hy=>?_⟩
 obtain⟨x,hx,hxy⟩:=m2 y hy
 simp only[List.mem_cons,List.not_mem_nil,or_false] at hx
 rcases hx with rfl|rfl
 ·exact (rightL_all h.ra).2 y hxy
 ·exact (rightL_all h.rb).2 y hxy
theorem keep_right {ms:List UInt64} {last:Bool} {M:List Ent} (h:rightL M=true∧M.length≤400∧textE M≤6000):rightL (keepL ms last M)=true∧(keepL ms last M).length≤400∧textE (keepL ms last M)≤6000:=by
 have hs:=keepL_sub ms last M
 have h1:=hs.length_le
 have h2:=textE_sub hs
 refine⟨?_,by omega,by omega⟩
 unfold rightL
 rw[Bool.and_eq_true,List.all_eq_true]
 exact⟨rises_sub (rightL_all h.1).1 hs,fun y hy=>(rightL_all h.1).2 y (hs.subset hy)⟩
theorem TwoL.sp {a b:List Ent} {va vb:Value} {w W:World} (ha:SE w w.heap.size va a) (hb:SE w w.heap.size vb b) (hW:Below w.heap.size w W):SpKept (W.alloc (.cells #[va,vb] 22)) (W.alloc (.cells #[va,vb] 22)).heap.size (.slice (some ⟨W.heap.size,0,none⟩) 2 2) [(va,a),(vb,b)]:=by
 refine⟨⟨_,_,rfl,by simp,by simp[maxLen],?_⟩,fun p hp=>?_⟩
 ·have h:=Rd.newBlock (size:=1) W #[va,vb] 22 (g:=W.heap.size) (B:=(W.alloc (.cells #[va,vb] 22)).heap.size) rfl (by simp) (n:=2) (by simp)
  simpa [prC] using h
 ·simp only[List.mem_cons,List.not_mem_nil,or_false] at hp
  rcases hp with rfl|rfl
  ·exact ha.on (balloc hW _)
  ·exact hb.on (balloc hW _)
theorem rightE_small {l:List Ent} (h:rightL l=true):∀e∈l,e.user.size≤1048576∧e.value.size≤1048576:=fun e he=>by have:=rightE_le ((rightL_all h).2 e he);omega
theorem kMergeT_any {a b:List Ent} (h:TwoL a b) {va vb:Value} {w:World} (ha:SE w w.heap.size va a) (hb:SE w w.heap.size vb b) (W:World) (hW:Below w.heap.size w W) :
  Calls Tryz.prog 15 #[.slice (some ⟨W.heap.size,0,none⟩) 2 2] (W.alloc (.cells #[va,vb] 22)) fun e w'=>∃r,e=.returned r∧OE w' w.heap.size r (mergeL [a,b])∧Below W.heap.size W w':=by
 have e1:=h.la;have e2:=h.lb
 refine (kMerge_any [(va,a),(vb,b)] _ _ (TwoL.sp ha hb hW) (by simp) (by simp) (fun p hp=>?_) (by simp[lenL];omega) (fun p hp=>?_)).mono ?_
 ·simp only[List.mem_cons,List.not_mem_nil,or_false] at hp
  rcases hp with rfl|rfl
  ·exact (rightL_all h.ra).1
  ·exact (rightL_all h.rb).1
 ·simp only[List.mem_cons,List.not_mem_nil,or_false] at hp
  rcases hp with rfl|rfl
  ·show a.length≤_;omega
  ·show b.length≤_;omega
 ·rintro e w' ⟨r,rfl,ho,hb'⟩
  have:=hW.size
  exact⟨r,rfl,ho.rebase (by simp;omega),bstep (balloc (bself W) _) hb'⟩
def JoinPost (w:World) (base:Nat) (ms:List UInt64) (M:List Ent) (most:Int) (e:Ending) (w':World):Prop:=∃r R last,e=.returned r∧OL w' base r R∧R.map (·.2)=splitL most (keepL ms last M)∧Below w.heap.size w w'
theorem kJoinT_any {a b:List Ent} (h:TwoL a b) {va vb:Value} {w:World} (ha:SE w w.heap.size va a) (hb:SE w w.heap.size vb b) (ms:List UInt64) (hms:ms.length≤1000000) (vm:Value) (hm:SG u64C 1 w w.heap.size vm ms) (last:Bool) (most:Int) (hmost:0≤most∧most≤1000000) (W:World) (hW:Below w.heap.size w W) :
  Calls Tryz.prog 16 #[.slice (some ⟨W.heap.size,0,none⟩) 2 2,vm,.bool last,.int .i64 most] (W.alloc (.cells #[va,vb] 22)) (JoinPost W w.heap.size ms (mergeL [a,b]) most):=by
 have e1:=h.la;have e2:=h.lb
 refine (kSJoin_any [(va,a),(vb,b)] ms last most _ vm _ (TwoL.sp ha hb hW) (by simp) (by simp) (fun p hp=>?_) (by simp[lenL];omega) (fun p hp=>?_) (hm.on (balloc hW _)) hms (fun p hp=>?_) hmost).mono ?_
 ·simp only[List.mem_cons,List.not_mem_nil,or_false] at hp
  rcases hp with rfl|rfl
  ·exact (rightL_all h.ra).1
  ·exact (rightL_all h.rb).1
 ·simp only[List.mem_cons,List.not_mem_nil,or_false] at hp
  rcases hp with rfl|rfl
  ·show a.length≤_;omega
  ·show b.length≤_;omega
 ·simp only[List.mem_cons,List.not_mem_nil,or_false] at hp
  rcases hp with rfl|rfl
  ·exact rightE_small h.ra
  ·exact rightE_small h.rb
 ·rintro e w' ⟨r,R,rfl,ho,hR,hb'⟩
  have hz:=hW.size
  have hz2:w.heap.size≤(W.alloc (.cells #[va,vb] 22)).heap.size:=by simp;omega
  exact⟨r,R,last,rfl,⟨ho.o.rebase hz2,fun p hp=>(ho.i p hp).rebase hz2,ho.a,ho.t⟩,hR,bstep (balloc (bself W) _) hb'⟩
abbrev hd2 (n:Nat):Hd:=⟨2,2,0,0,n⟩
def IsT2 (n ev:Nat) (blk:Int) (T:List Ent) (Y:Md) (b:List UInt8):Prop :=
 ∃filt,FiltOk filt T∧MtOf Y.1 (hd2 n) (keyOfUse oneR (layH (hd2 n))) (layH (hd2 n)) ev blk T filt∧Y.1.count=T.length∧Y.1.mn=(T.getD 0 ent0).user∧Y.1.mx=(T.getD (T.length-1) ent0).user∧b=tabB (keyOfUse oneR (layH (hd2 n))) (layH (hd2 n)) ev blk T filt
theorem hd2_ok {n:Nat} (hn:n<18446744073709551616):(hd2 n).ok:=⟨by show 2<256;omega,by show 2<256;omega,by show 0<18446744073709551616;omega,by show 0<18446744073709551616;omega,hn⟩
theorem hd2_right (n:Nat):rightH (hd2 n)=true:=rfl
theorem kBuild2_any (n blk ev bits:Nat) (T:List Ent) (v:Value) (W:World) (hn:n<18446744073709551616) (hblk:1≤blk∧blk≤1048576) (hev:1≤ev∧ev≤1024) (hbits:1≤bits∧bits≤64) (hv:SE W W.heap.size v T) (hL:rightL T=true) (hne:0<T.length) (hlen:T.length≤1000) (htx:textE T≤10000) (hk:KTab W 0) (h1:0<W.heap.size) :
  Calls Tryz.prog 17 #[.agg oneA,.agg #[.int .u8 2,.int .u8 2,.int .u64 0,.int .u64 0,.int .u64 (n:Int)],v,.agg (rowSh blk ev bits)] W fun e w'=>∃r Y bts,e=.returned (.tuple #[r,.agg (mdC Y).toArray,.int .i64 0])∧IsT2 n ev (blk:Int) T Y bts∧OB w' W.heap.size r bts∧Below W.heap.size W w':=by
 refine (kBuild_tab oneR rfl (hd2 n) (hd2_ok hn) rfl (hd2_right n) T blk ev bits hblk hev hbits oneA rfl v W hv hL hne hlen htx hk h1).mono ?_
 rintro e w' ⟨r,filt,rfl,hf,hob,hb⟩
 exact⟨r,⟨⟨2,0,0,n,_,_,_,_,_⟩,(rootR jnD zD (tabL (keyOfUse oneR (layH (hd2 n))) (layH (hd2 n)) ev (blk:Int) T filt)).2⟩,_,rfl,⟨filt,hf,⟨rfl,rfl,rfl,rfl,rfl,rfl⟩,rfl,rfl,rfl,rfl⟩,hob,hb⟩
theorem kAll2_any (n ev:Nat) (blk:Int) (T:List Ent) (Y:Md) (b:List UInt8) (v:Value) (W:World) (hn:n<18446744073709551616) (hi:IsT2 n ev blk T Y b) (hev:1≤ev∧ev≤1024) (hL:rightL T=true) (hne:0<T.length) (hlen:T.length≤1000) (htx:textE T≤10000) (hv:SB W W.heap.size v b) (hk:KTab W 0) (h1:0<W.heap.size) :
  Calls Tryz.prog 18 #[.agg oneA,.agg (mdC Y).toArray,v] W (AllPost W T):=by
 obtain⟨filt,hf,mt,c1,c2,c3,hb⟩:=hi
 rw[hb] at hv
 exact kAll_any oneR rfl (hd2 n) (hd2_ok hn) rfl (hd2_right n) Y.1 _ _ rfl rfl ev blk T filt mt c1 c2 c3 hev hf hL hne hlen htx oneA _ rfl rfl v W hv hk h1
end Go.Proofs.YtchjknbideoieaaGreatDoor
namespace Go.Proofs.YtchjknbideoieaaGreatDoor
set_option maxRecDepth 100000
set_option maxHeartbeats 8000000
open Go.RowKit Go.Great Go.Proofs
def maxU:UInt64:=72057594037927935
theorem OG.maxU (w:World):OG 23 u64C 1 (w.alloc (.cells #[.int .u64 72057594037927935] 23)) w.heap.size (.slice (some ⟨w.heap.size,0,none⟩) 1 1) [maxU] :=
 ⟨rfl,.inr ⟨w.heap.size,1,_,rfl,Nat.le_refl _,heap_alloc_new w _,Nat.le_refl _,by simp[maxLen],rfl,rfl⟩⟩
theorem view_len (s:Nat):∀(l:List Ent) (d:Option ByteArray),(viewF s d l).length≤l.length
 | [],_=>Nat.le_refl _
 | e::t,d=>by
  rw[viewF,List.length_cons]
  split
  ·have:=view_len s t d;omega
  ·rw[List.length_append]
   have:=view_len s t (some e.user)
   split <;> simp <;> omega
theorem topJoins_any (va vb vm:Value) (a b:List Ent) (ms:List UInt64) (n:UInt8) (w:World) (ha:SE w w.heap.size va a) (hb:SE w w.heap.size vb b) (hm:SG u64C 1 w w.heap.size vm ms) (hla:a.length≤140737488351232) (hlb:b.length≤140737488351232)
  (hza:∀e∈a,e.user.size≤9223372036854775807∧e.value.size≤9223372036854775807) (hzb:∀e∈b,e.user.size≤9223372036854775807∧e.value.size≤9223372036854775807) (hk:KTab w 0) (h1:0<w.heap.size) :
  Calls Tryz.prog 4 #[va,vb,vm,.int .u8 (n.toNat:Int)] w fun e w'=>e=.returned (.bool true)∧Below w.heap.size w w':=by
 have HStands:=Lib.hid (kStandsT w hk h1)
 have HFa:Hid (∀W,Below w.heap.size w W→Calls Tryz.prog 6 #[va] W fun e w'=>e=.returned (.bool (fewB a))∧Below W.heap.size W w'):=Lib.hid (fun W hW=>few_any va a W (ha.on hW) hza)
 have HFb:Hid (∀W,Below w.heap.size w W→Calls Tryz.prog 6 #[vb] W fun e w'=>e=.returned (.bool (fewB b))∧Below W.heap.size W w'):=Lib.hid (fun W hW=>few_any vb b W (hb.on hW) hzb)
 have HRa:Hid (∀W,Below w.heap.size w W→Calls Tryz.prog 7 #[va] W fun e w'=>e=.returned (.bool (risesE a))∧Below W.heap.size W w'):=Lib.hid (fun W hW=>iRises_any va a W (ha.on hW) hla)
 have HRb:Hid (∀W,Below w.heap.size w W→Calls Tryz.prog 7 #[vb] W fun e w'=>e=.returned (.bool (risesE b))∧Below W.heap.size W w'):=Lib.hid (fun W hW=>iRises_any vb b W (hb.on hW) hlb)
 obtain⟨Aa,ca,rfl,q1,q2,q3⟩:=id ha
 obtain⟨Ab,cb,rfl,q4,q5,q6⟩:=id hb
 obtain⟨Am,cm,rfl,hcm,hcm2⟩:=hm.form
 obtain⟨la,hlad⟩:∃la,la=a.length:=⟨_,rfl⟩
 obtain⟨lb,hlbd⟩:∃lb,lb=b.length:=⟨_,rfl⟩
 obtain⟨M,hMd⟩:∃M,M=ms.length:=⟨_,rfl⟩
 rw[←hlad] at ha HFa HRa ⊢
 rw[←hlbd] at hb HFb HRb ⊢
 rw[←hMd] at hm hcm ⊢
 have HAB:=Lib.hid (And.intro ha (And.intro hb (And.intro hm (And.intro hlad (And.intro hlbd (And.intro hMd (And.intro hza hzb)))))))
 have HK:=Lib.hid hk
 clear q1 q2 q3 q4 q5 q6 ha hb hm hlad hlbd hMd hza hzb hk hla hlb
 go_enter Tryz.func4,Tryz.ntmps4
 cases hfa:fewB a with
 | false =>
  rw[hfa] at HFa
  go_upto_region 2 with (go_at_call 5;refine HStands.out.mono ?_;rintro _ w1 ⟨rfl,b1⟩)
  go_upto_region 3 with (first|(go_at_call 6;refine (HFa.out _ b1).mono ?_;clear HFa;rintro _ w2 ⟨rfl,hb2⟩;have b2:=bstep b1 hb2;clear hb2)|(go_at_call 6;refine (HFb.out _ b2).mono ?_;clear HFb;rintro _ w3 ⟨rfl,hb3⟩;have b3:=bstep b2 hb3;clear hb3)|(go_at_call 7;refine (HRa.out _ b3).mono ?_;clear HRa;rintro _ w4 ⟨rfl,hb4⟩;have b4:=bstep b3 hb4;clear hb4)|(go_at_call 7;refine (HRb.out _ b4).mono ?_;clear HRb;rintro _ w5 ⟨rfl,hb5⟩;have b5:=bstep b4 hb5;clear hb5))
  go_wp2_with fail
  go_ret
  exact⟨rfl,b2⟩
 | true =>
 rw[hfa] at HFa
 cases hfb:fewB b with
 | false =>
  rw[hfb] at HFb
  go_upto_region 2 with (go_at_call 5;refine HStands.out.mono ?_;rintro _ w1 ⟨rfl,b1⟩)
  go_upto_region 3 with (first|(go_at_call 6;refine (HFa.out _ b1).mono ?_;clear HFa;rintro _ w2 ⟨rfl,hb2⟩;have b2:=bstep b1 hb2;clear hb2)|(go_at_call 6;refine (HFb.out _ b2).mono ?_;clear HFb;rintro _ w3 ⟨rfl,hb3⟩;have b3:=bstep b2 hb3;clear hb3)|(go_at_call 7;refine (HRa.out _ b3).mono ?_;clear HRa;rintro _ w4 ⟨rfl,hb4⟩;have b4:=bstep b3 hb4;clear hb4)|(go_at_call 7;refine (HRb.out _ b4).mono ?_;clear HRb;rintro _ w5 ⟨rfl,hb5⟩;have b5:=bstep b4 hb5;clear hb5))
  go_wp2_with fail
  go_ret
  exact⟨rfl,b3⟩
 | true =>
 rw[hfb] at HFb
 cases hra:risesE a with
 | false =>
  rw[hra] at HRa
  go_upto_region 2 with (go_at_call 5;refine HStands.out.mono ?_;rintro _ w1 ⟨rfl,b1⟩)
  go_upto_region 3 with (first|(go_at_call 6;refine (HFa.out _ b1).mono ?_;clear HFa;rintro _ w2 ⟨rfl,hb2⟩;have b2:=bstep b1 hb2;clear hb2)|(go_at_call 6;refine (HFb.out _ b2).mono ?_;clear HFb;rintro _ w3 ⟨rfl,hb3⟩;have b3:=bstep b2 hb3;clear hb3)|(go_at_call 7;refine (HRa.out _ b3).mono ?_;clear HRa;rintro _ w4 ⟨rfl,hb4⟩;have b4:=bstep b3 hb4;clear hb4)|(go_at_call 7;refine (HRb.out _ b4).mono ?_;clear HRb;rintro _ w5 ⟨rfl,hb5⟩;have b5:=bstep b4 hb5;clear hb5))
  go_wp2_with fail
  go_ret
  exact⟨rfl,b4⟩
 | true =>
 rw[hra] at HRa
 cases hrb:risesE b with
 | false =>
  rw[hrb] at HRb
  go_upto_region 2 with (go_at_call 5;refine HStands.out.mono ?_;rintro _ w1 ⟨rfl,b1⟩)
  go_upto_region 3 with (first|(go_at_call 6;refine (HFa.out _ b1).mono ?_;clear HFa;rintro _ w2 ⟨rfl,hb2⟩;have b2:=bstep b1 hb2;clear hb2)|(go_at_call 6;refine (HFb.out _ b2).mono ?_;clear HFb;rintro _ w3 ⟨rfl,hb3⟩;have b3:=bstep b2 hb3;clear hb3)|(go_at_call 7;refine (HRa.out _ b3).mono ?_;clear HRa;rintro _ w4 ⟨rfl,hb4⟩;have b4:=bstep b3 hb4;clear hb4)|(go_at_call 7;refine (HRb.out _ b4).mono ?_;clear HRb;rintro _ w5 ⟨rfl,hb5⟩;have b5:=bstep b4 hb5;clear hb5))
  go_wp2_with fail
  go_ret
  exact⟨rfl,b5⟩
 | true =>
 rw[hrb] at HRb
 have HFR:=Lib.hid (And.intro hfa (And.intro hfb (And.intro hra hrb)))
 clear hfa hfb hra hrb
 go_upto_region 2 with (go_at_call 5;refine HStands.out.mono ?_;rintro _ w1 ⟨rfl,b1⟩)
 go_upto_region 4 with (first|(go_at_call 6;refine (HFa.out _ b1).mono ?_;clear HFa;rintro _ w2 ⟨rfl,hb2⟩;have b2:=bstep b1 hb2;clear hb2)|(go_at_call 6;refine (HFb.out _ b2).mono ?_;clear HFb;rintro _ w3 ⟨rfl,hb3⟩;have b3:=bstep b2 hb3;clear hb3)|(go_at_call 7;refine (HRa.out _ b3).mono ?_;clear HRa;rintro _ w4 ⟨rfl,hb4⟩;have b4:=bstep b3 hb4;clear hb4)|(go_at_call 7;refine (HRb.out _ b4).mono ?_;clear HRb;rintro _ w5 ⟨rfl,hb5⟩;have b5:=bstep b4 hb5;clear hb5))
 have hfe:=few_le a 0 3000 HFR.out.1
 have hfe2:=few_le b 0 3000 HFR.out.2.1
 have hla2:la≤200:=by have:=HAB.out.2.2.2.1;omega
 have hlb2:lb≤200:=by have:=HAB.out.2.2.2.2.1;omega
 have HTX:=Lib.hid (And.intro hfe hfe2)
 have hz5:w.heap.size≤w5.heap.size:=b5.size
 clear hfe hfe2 HStands b1 b2 b3 b4
 go_upto_region 5 with (first|(at_builtin;refine wl_appEs rfl (.tmp 44) (.tmp 45) rfl w5.heap.size (.slice (some ⟨w5.heap.size,0,none⟩) 0 0) [] rfl (OG.lit w5 29 entC 4) w.heap.size (.slice Aa la ca) a rfl (Sl.below HAB.out.1 (balloc b5 _)) (by have:=HAB.out.2.2.2.1;simp[maxLen];omega) (Fits.of _ _ _ (by have:=HAB.out.2.2.2.1;simp;omega)) (by simp) ?_;intro v6 w6 ho6 hg6 hf6 hb6;obtain⟨A6,c6,rfl,q1,q2,q3⟩:=ho6.se;clear q1 q2 q3;obtain⟨m6,hm6⟩:∃m6,m6=([]++a).length:=⟨_,rfl⟩;rw[←hm6] at ho6 hf6 ⊢;have H6:=Lib.hid (And.intro hm6 (And.intro ho6 hb6));have hz6:w5.heap.size≤w6.heap.size:=(by have:=hb6.size;rw[World.size_alloc] at this;omega);clear hm6 ho6 hg6 hf6 hb6)|(at_builtin;refine wl_appEs rfl (.tmp 46) (.tmp 47) rfl w5.heap.size (.slice A6 m6 c6) ([]++a) rfl H6.out.2.1 w.heap.size (.slice Ab lb cb) b rfl (Sl.below HAB.out.2.1 ((balloc b5 _).trans (H6.out.2.2.mono hz5))) (by have:=HAB.out.2.2.2.1;have:=HAB.out.2.2.2.2.1;simp[maxLen];omega) (Fits.of _ _ _ (by have:=HAB.out.2.2.2.1;have:=HAB.out.2.2.2.2.1;simp;omega)) hz6 ?_;intro v7 w7 ho7 hg7 hf7 hb7;obtain⟨A7,c7,rfl,q1,q2,q3⟩:=ho7.se;clear q1 q2 q3;obtain⟨m7,hm7⟩:∃m7,m7=(([]++a)++b).length:=⟨_,rfl⟩;rw[←hm7] at ho7 hf7 ⊢;have H7:=Lib.hid (And.intro hm7 (And.intro ho7.se hb7));clear hm7 ho7 hg7 hf7 hb7))
 have b7:Below w.heap.size w w7:=(balloc b5 _).trans ((H6.out.2.2.mono hz5).trans (H7.out.2.2.mono hz5))
 obtain⟨L,hL⟩:∃L,L=a++b:=⟨_,rfl⟩
 have hS7:m7=L.length∧SE w7 w7.heap.size (.slice A7 m7 c7) L:=by rw[hL];exact⟨H7.out.1,H7.out.2.1⟩
 have HS7:=Lib.hid hS7
 have HLd:=Lib.hid hL
 have hm7:m7≤400:=by rw[hS7.1,hL,List.length_append];have:=HAB.out.2.2.2.1;have:=HAB.out.2.2.2.2.1;omega
 clear hS7 hL H6 H7 b5 hz5 hz6
 go_loopw [50] (fun s50 wi=>∃i:Nat,s50=.int .i64 (i:Int)∧i≤m7∧Hid (∀j (h:j<L.length),j<i→rightE L[j]=true)∧Below w7.heap.size w7 wi) (fun s50 _=>m7-(intOf s50).toNat)
 case atStart=>exact⟨0,rfl,by omega,Lib.hid (fun j h h0=>by omega),bself w7⟩
 case round =>
  obtain⟨i,rfl,hi,hall,hbi⟩:=hrel
  by_cases hin:i<m7
  ·have hiL:i<L.length:=by rw[←HS7.out.1];exact hin
   obtain⟨A',c',e',q1,q2,hrd⟩:=HS7.out.2
   injection e' with e1 e2 e3
   subst e1
   clear e2 e3 q1 q2
   obtain⟨bb,o,rfl,hb,c0,c1,c2,c3⟩:=(hrd.below hbi).ent rfl (k:=i) hiL
   obtain⟨x,hx⟩:∃x,x=L[i]:=⟨_,rfl⟩
   have hxz:x.user.size≤9223372036854775807∧x.value.size≤9223372036854775807:=by
    have h5:x∈a++b:=by rw[hx,←HLd.out];exact List.getElem_mem hiL
    rcases List.mem_append.1 h5 with h5|h5
    ·exact HAB.out.2.2.2.2.2.2.1 x h5
    ·exact HAB.out.2.2.2.2.2.2.2 x h5
   rw[←hx] at c0 c1 c2 c3
   have HX:=Lib.hid hx
   have hii:(i:Int)<(m7:Int):=by omega
   have HRt:=Lib.hid (fun W=>iRight_any x W hxz.1 hxz.2)
   have hbi2:=bstep b7 hbi
   clear hx hxz hrd
   cases hR:rightE x with
   | false =>
    rw[hR] at HRt
    go_wp2_with (go_at_call 8;refine (HRt.out _).mono ?_;rintro _ w4 ⟨rfl,hb4⟩)
    go_ret
    exact⟨rfl,bstep (balloc hbi2 _) hb4⟩
   | true =>
    rw[hR] at HRt
    have HRR:=Lib.hid hR
    clear hR
    go_wp2_with (go_at_call 8;refine (HRt.out _).mono ?_;rintro _ w4 ⟨rfl,hb4⟩)
    go_roundw
    case rel =>
     refine⟨i+1,by go_num,by omega,Lib.hid (fun j h hj=>?_),bstep (balloc hbi _) hb4⟩
     rcases Nat.lt_or_ge j i with h1|h1
     ·exact hall.out j h h1
     ·obtain rfl:i=j:=by omega
      rw[←HX.out];exact HRR.out
    case measure=>simp[intOf];omega
  ·have hii:¬(i:Int)<(m7:Int):=by omega
   have hallR:∀x∈a++b,rightE x=true:=fun x hx=>by
    rw[←HLd.out] at hx
    obtain⟨j,hj,rfl⟩:=List.getElem_of_mem hx
    exact hall.out j hj (by have:=HS7.out.1;omega)
   have hTwo:TwoL a b:=by
    refine⟨?_,?_,by have:=HTX.out.1.1;omega,by have:=HTX.out.2.1;omega,HTX.out.1.2,HTX.out.2.2⟩
    ·unfold rightL
     rw[Bool.and_eq_true,List.all_eq_true]
     exact⟨HFR.out.2.2.1,fun x hx=>hallR x (List.mem_append_left _ hx)⟩
    ·unfold rightL
     rw[Bool.and_eq_true,List.all_eq_true]
     exact⟨HFR.out.2.2.2,fun x hx=>hallR x (List.mem_append_right _ hx)⟩
   have hbw:=bstep b7 hbi
   obtain⟨k,hk⟩:∃k,k=min M 20:=⟨_,rfl⟩
   have gk:min (M:Int) 20=(k:Int):=by omega
   have hkc:(k:Int)≤(cm:Int):=by omega
   have hk20:k≤20:=by omega
   have hkM:k≤M:=by omega
   obtain⟨ms',hms'⟩:∃l,l=ms.take k:=⟨_,rfl⟩
   have hmk:SG u64C 1 w w.heap.size (.slice Am k cm) ms':=by rw[hms'];exact HAB.out.2.2.1.take u64C_length (by rw[←HAB.out.2.2.2.2.2.1];exact hkM) rfl
   have hmkl:ms'.length=k:=by rw[hms',List.length_take,←HAB.out.2.2.2.2.2.1];omega
   obtain⟨MM,hMM⟩:∃l,l=mergeL [a,b]:=⟨_,rfl⟩
   have hMR:=hTwo.merge
   rw[←hMM] at hMR
   have HMg:Hid (∀W,Below w.heap.size w W→Calls Tryz.prog 15 #[.slice (some ⟨W.heap.size,0,none⟩) 2 2] (W.alloc (.cells #[.slice Aa la ca,.slice Ab lb cb] 22)) fun e w'=>∃r,e=.returned r∧OE w' w.heap.size r MM∧Below W.heap.size W w'):=Lib.hid (fun W hW=>by rw[hMM];exact kMergeT_any hTwo HAB.out.1 HAB.out.2.1 W hW)
   have hn:=u8_lt n
   have HJn:Hid (∀(last:Bool) W,Below w.heap.size w W→Calls Tryz.prog 16 #[.slice (some ⟨W.heap.size,0,none⟩) 2 2,.slice Am k cm,.bool last,.int .i64 (n.toNat:Int)] (W.alloc (.cells #[.slice Aa la ca,.slice Ab lb cb] 22)) (JoinPost W w.heap.size ms' MM (n.toNat:Int))):=Lib.hid (fun last W hW=>by rw[hMM];exact kJoinT_any hTwo HAB.out.1 HAB.out.2.1 ms' (by omega) _ hmk last (n.toNat:Int) ⟨by omega,by omega⟩ W hW)
   have HF:=Lib.hid (And.intro hTwo (And.intro hmk (And.intro hmkl hMR)))
   clear hallR hTwo hmk hmkl hMM hMR hms' hk HLd HS7 HTX hall
   go_upto_region 12 with (go_at_call 15;refine (HMg.out _ hbw).mono ?_;rintro _ w8 ⟨r8,rfl,ho8,hb8⟩;have H8:=Lib.hid ho8.se;obtain⟨A8,c8,rfl,q1,q2,q3⟩:=ho8.se;clear q1 q2 q3 ho8)
   have b8:=bstep hbw hb8
   obtain⟨l8,hl8⟩:∃l8,l8=MM.length:=⟨_,rfl⟩
   rw[←hl8] at H8 ⊢
   have hMR:=HF.out.2.2.2
   clear hl8 hb8 HMg hbi hbw
   go_wp2_with (go_at_call 16;refine (HJn.out _ _ b8).mono ?_;rintro _ w9 ⟨r9,R,last,rfl,hol,hR,hb9⟩;have H9:=Lib.hid (And.intro hol (And.intro hR hb9));obtain⟨A9,c9,rfl,_,_⟩:=hol.o.sg.form;clear hol hR hb9)
   obtain⟨hol,hR,hb9⟩:=H9.out
   have b9:=bstep b8 hb9
   obtain⟨np,hnp⟩:∃np,np=R.length:=⟨_,rfl⟩
   rw[←hnp] at H9 ⊢
   obtain⟨K,hK⟩:∃K,K=keepL ms' last MM:=⟨_,rfl⟩
   rw[←hK] at hR
   have hKR:=keep_right (ms:=ms') (last:=last) hMR
   rw[←hK] at hKR
   obtain⟨Ts,hTs⟩:∃Ts,Ts=splitL (n.toNat:Int) K:=⟨_,rfl⟩
   rw[←hTs] at hR
   have hPT:∀T∈Ts,rightL T=true∧0<T.length∧T.length≤1000∧textE T≤10000:=fun T hT=>part_ok hKR.1 (by omega) (by omega) (by rw[←hTs];exact hT)
   have hTsf:Ts.flatten=K:=by rw[hTs];exact splitL_flat _ K
   have hnT:np=Ts.length:=by rw[hnp,←hR,List.length_map]
   have hnp4:np≤400:=by
    have h5:=flat_len_ge Ts (fun T hT=>(hPT T hT).2.1)
    rw[hTsf] at h5
    omega
   have HSP:Hid (SpKept w9 w9.heap.size (.slice A9 np c9) R):=Lib.hid (by rw[hnp] at *;exact⟨hol.o.sg,fun p hp=>(hol.i p hp).se⟩)
   have HW8:Hid (SE w9 w9.heap.size (.slice A8 l8 c8) MM):=Lib.hid (SE.on H8.out hb9)
   have HKK:=Lib.hid (And.intro hK (And.intro hKR (And.intro hPT (And.intro hTsf (And.intro hnT (And.intro hnp hR))))))
   clear H8 H9 hol hR hb9 hK hKR hTs hPT hTsf hnT hnp b8 hMR
   obtain⟨blk,hblk⟩:∃blk,blk=n.toNat%60+1:=⟨_,rfl⟩
   obtain⟨ev,hev⟩:∃ev,ev=n.toNat%7+1:=⟨_,rfl⟩
   obtain⟨bits,hbits⟩:∃bits,bits=n.toNat%20+1:=⟨_,rfl⟩
   have hev1:1≤ev∧ev≤1024:=by omega
   have hbk1:1≤blk∧blk≤1048576:=by omega
   have hbt1:1≤bits∧bits≤64:=by omega
   have HSh:Hid (∀W,Calls Tryz.prog 10 #[.int .u8 (n.toNat:Int)] W fun e w'=>e=.returned (.agg (rowSh blk ev bits))∧Below W.heap.size W w'):=Lib.hid (fun W=>by rw[hblk,hev,hbits];exact kShape_any n W)
   clear hblk hev hbits
   go_loopw [14,79] (fun s14 s79 wi=>∃(i:Nat) (A:Option Addr) (m c:Nat) (D:List Ent),s79=.int .i64 (i:Int)∧s14=.slice A m c∧i≤np∧Hid (m=D.length∧D=(Ts.take i).flatten∧OE wi w9.heap.size (.slice A m c) D)∧Below w9.heap.size w9 wi) (fun _ s79 _=>np-(intOf s79).toNat)
   case atStart=>exact⟨0,none,0,0,[],rfl,rfl,by omega,Lib.hid ⟨rfl,rfl,OE.nil_ _ _⟩,bself w9⟩
   case round =>
    obtain⟨i,A,m,c,D,rfl,rfl,hi,HD,hbr⟩:=hrel
    by_cases hin:i<np
    ·have hiR:i<R.length:=by rw[←HKK.out.2.2.2.2.2.1];exact hin
     have hii:(i:Int)<(np:Int):=by omega
     obtain⟨bb,o,kk,e,hb,hr⟩:=HSP.out.1.at_ prC_length (by omega)
     injection e with e1 e2 e3
     subst e1;subst e3
     clear e2
     have cP:=hr i hiR 0 (R[i]).1 rfl
     rw[Nat.mul_one,Nat.add_zero] at cP
     have cP:=(hbr.cell (p:=⟨bb,o+i,none⟩) hb).trans cP
     have hse:=SE.on (HSP.out.2 R[i] (List.getElem_mem hiR)) hbr
     have hTi:Ts[i]? = some (R[i]).2:=by rw[←HKK.out.2.2.2.2.2.2,List.getElem?_map,List.getElem?_eq_getElem hiR];rfl
     obtain⟨p,hp⟩:∃p:Pr,p=R[i]:=⟨_,rfl⟩
     rw[←hp] at cP hse hTi
     obtain⟨v3,T⟩:=p
     dsimp only at cP hse hTi
     obtain⟨A3,k3,rfl,q1,q2,q3⟩:=id hse
     obtain⟨tl,htl⟩:∃tl,tl=T.length:=⟨_,rfl⟩
     rw[←htl] at cP hse
     have hTm:T∈Ts:=List.mem_of_getElem? hTi
     have hTf:=HKK.out.2.2.1 T hTm
     have HT:=Lib.hid (And.intro hTi (And.intro hse (And.intro hTf htl)))
     have hbr9:=bstep b9 hbr
     have gi8:IntKind.u8.wrap 2=2:=by decide
     have giw:IntKind.u64.wrap (i:Int)=(i:Int):=by rw[IntKind.wrap_u64];omega
     have HBuild:Hid (∀W,Below wr.heap.size wr W→Calls Tryz.prog 17 #[.agg oneA,.agg #[.int .u8 2,.int .u8 2,.int .u64 0,.int .u64 0,.int .u64 (i:Int)],.slice A3 tl k3,.agg (rowSh blk ev bits)] W fun e w'=>∃r Y bts,e=.returned (.tuple #[r,.agg (mdC Y).toArray,.int .i64 0])∧IsT2 i ev (blk:Int) T Y bts∧OB w' W.heap.size r bts∧Below W.heap.size W w'):=Lib.hid (fun W hW=>by
      obtain⟨t1,t2,t3,t4⟩:=HT.out.2.2.1
      have hbw:=bstep hbr9 hW
      exact kBuild2_any i blk ev bits T _ W (by omega) hbk1 hev1 hbt1 (HT.out.2.1.on hW) t1 t2 t3 t4 (HK.out.on hbw h1) (by have:=hbw.size;omega))
     clear hp q1 q2 q3 htl hTi hse hTm hTf hr
     go_upto_region 16 with fail
     go_upto_region 17 with (first|(refine wl_bldOne rfl rfl ?_)|(go_at_call 10;refine (HSh.out _).mono ?_;rintro _ w10 ⟨rfl,hb10⟩)|(go_at_call 17;refine (HBuild.out _ hb10).mono ?_;rintro _ w3 ⟨r3,Y,bts,rfl,hit,hob,hb3⟩;obtain⟨xc,hxc⟩:∃xc,(mdC Y).toArray=xc:=⟨_,rfl⟩;rw[hxc];obtain⟨A4,k4,rfl,_,_⟩:=hob.sb;obtain⟨bl,hbl⟩:∃bl,bl=bts.length:=⟨_,rfl⟩;rw[←hbl] at hob ⊢;have HXP:Hid (xc.size=40∧∀v∈xc.toList,v.oneCell'=true):=Lib.hid (by rw[←hxc];exact⟨by simp[mdC_length],fun v hv=>mdC_one Y v (by simpa using hv)⟩);have HY:=Lib.hid (And.intro hxc (And.intro hit (And.intro hob hb3)));clear hxc hbl hit hob hb3)|(refine wl_storeT 55 (n:=40) infoMd rfl (.tmp 18) (.tmp 94) rfl _ rfl _ xc rfl (heap_alloc_new _ _) (by rfl) HXP.out.1 HXP.out.2 ?_))
     try simp only[Act.put]
     generalize hW4:World.setRow _ _ _=w4
     have hX4:w4.heap[w3.heap.size]? = some (.cells xc 55 (0,0)):=by rw[←hW4];exact setRow_heap _ _ _ _ _ _ (heap_alloc_new _ _)
     have b34:Below w3.heap.size w3 w4:=by rw[←hW4];exact below_setRow (balloc (bself w3) _) (Nat.le_refl _) _
     obtain⟨hxc,hit,hob,hb3⟩:=HY.out
     have br4:=bstep (bstep hb10 hb3) b34
     have bw4:=bstep hbr9 br4
     have HAll:Hid (Calls Tryz.prog 18 #[.agg oneA,.agg xc,.slice A4 bl k4] w4 (AllPost w4 T)):=Lib.hid (by
      obtain⟨t1,t2,t3,t4⟩:=HT.out.2.2.1
      rw[←hxc]
      exact kAll2_any i ev (blk:Int) T Y bts _ w4 (by omega) hit hev1 t1 t2 t3 t4 (hob.sb.on b34) (HK.out.on bw4 h1) (by have:=bw4.size;omega))
     clear hW4 hxc hit hob hb3 b34 hb10 HBuild HY cP gi8 giw
     go_upto_region 18 with (first|(refine wl_bldOne rfl rfl ?_)|(refine wpList_load_row rfl 55 (.tmp 18) rfl _ rfl _ xc (0,0) _ hX4 Tryz.underlying55 rfl (by rw[HXP.out.1];exact infoMd) ?_)|(go_at_call 18;refine HAll.out.mono ?_;rintro _ w11 ⟨r11,rfl,ho11,hb11⟩;have H11:=Lib.hid (And.intro ho11.se hb11);obtain⟨A11,c11,rfl,q1,q2,q3⟩:=ho11.se;clear q1 q2 q3 ho11 hb11))
     have hDl:D.length≤400:=by
      have h5:=HKK.out.2.2.2.1
      have h6:=HKK.out.2.1.2.1
      rw[←List.take_append_drop i Ts,List.flatten_append,←HD.out.2.1] at h5
      have h7:=congrArg List.length h5
      rw[List.length_append] at h7
      omega
     have hTl:T.length≤1000:=HT.out.2.2.1.2.2.1
     have HDT:=Lib.hid (And.intro hDl hTl)
     have br11:=bstep br4 H11.out.2
     have hz11:w9.heap.size≤w11.heap.size:=by have:=hbr.size;have:=br11.size;omega
     have HD11:=Lib.hid (HD.out.2.2.below br11 (Nat.le_refl _))
     clear hDl hTl hX4 HAll
     go_upto_region 21 with (at_builtin;refine wl_appEs rfl (.tmp 109) (.tmp 110) rfl w9.heap.size (.slice A m c) D rfl HD11.out w11.heap.size (.slice A11 T.length c11) T rfl H11.out.1 (by have:=HDT.out;simp only[maxLen];omega) (Fits.of _ _ _ (by have:=HDT.out;omega)) hz11 ?_;intro v12 w12 ho12 hg12 hf12 hb12;obtain⟨A12,c12,rfl,q1,q2,q3⟩:=ho12.se;clear q1 q2 q3;obtain⟨m12,hm12⟩:∃m12,m12=(D++T).length:=⟨_,rfl⟩;rw[←hm12] at ho12 hf12 ⊢;have H12:=Lib.hid (And.intro hm12 (And.intro ho12 hb12));clear hm12 ho12 hg12 hf12 hb12)
     go_wp2_with fail
     go_roundw
     case rel =>
      obtain⟨hi2,hi4⟩:=List.getElem?_eq_some_iff.1 HT.out.1
      exact⟨i+1,A12,m12,c12,D++T,by go_num,rfl,by omega,Lib.hid ⟨H12.out.1,by rw[List.take_succ_eq_append_getElem hi2,List.flatten_append,←HD.out.2.1,hi4];simp,H12.out.2.1⟩,(bstep hbr br11).trans (H12.out.2.2)⟩
     case measure=>simp[intOf];omega
    ·have hii:¬(i:Int)<(np:Int):=by omega
     have hDK:D=K:=by rw[HD.out.2.1,List.take_of_length_le (by rw[←HKK.out.2.2.2.2.1];omega)];exact HKK.out.2.2.2.1
     obtain⟨hml,_,hoD⟩:=HD.out
     rw[hDK] at hml hoD
     have HOD:=Lib.hid (And.intro hml hoD)
     have hbr9:=bstep b9 hbr
     have HWr:=Lib.hid (SE.on HW8.out hbr)
     have hmr:SG u64C 1 wr w.heap.size (.slice Am k cm) ms':=HF.out.2.1.below hbr9
     have HMr:=Lib.hid hmr
     have HMl:=Lib.hid HF.out.2.2.1
     have hzr:w.heap.size≤wr.heap.size:=hbr9.size
     clear hDK hml hoD hmr HSP HW8
     go_upto_region 23 with (at_builtin;refine wl_appG rfl 58 23 (.int .u64 0) 8 infoU Tryz.underlying58 rfl (by omega) (.tmp 113) (.tmp 114) rfl wr.heap.size (.slice (some ⟨wr.heap.size,0,none⟩) 1 1) [maxU] rfl (OG.maxU wr) w.heap.size (.slice Am k cm) ms' (fun x hx u hu=>by rw[List.mem_singleton.1 hu];rfl) rfl (HMr.out.alloc hzr _) (by have:=HMl.out;simp[maxLen];omega) (by have:=HMl.out;simp;omega) (by simp) ?_;intro v13 w13 ho13 hg13 hf13 hb13;obtain⟨g13,c13,rfl⟩:=ho13.form0 (by simp);obtain⟨q13,hq13⟩:∃q,q=([maxU]++ms').length:=⟨_,rfl⟩;rw[←hq13] at ho13 ⊢;have H13:=Lib.hid (And.intro hq13 (And.intro ho13.sg hb13));clear hq13 ho13 hg13 hf13 hb13)
     have hb13:Below wr.heap.size wr w13:=(balloc (bself wr) _).trans H13.out.2.2
     have b13:=bstep hbr9 hb13
     have HA13:=Lib.hid (SE.on HOD.out.2.se hb13)
     have HW13:=Lib.hid (SE.on HWr.out hb13)
     have HS13:=Lib.hid H13.out.2.1
     have hq13:q13≤21:=by rw[H13.out.1,List.length_append,HMl.out];simp;omega
     have hMR:=HF.out.2.2.2
     have hKR:=HKK.out.2.1
     clear HOD HWr hb13 hbr9 hbr
     go_loopw [117] (fun s117 wi=>∃j:Nat,s117=.int .i64 (j:Int)∧j≤q13∧Below w13.heap.size w13 wi) (fun s117 _=>q13-(intOf s117).toNat)
     case atStart=>exact⟨0,rfl,by omega,bself w13⟩
     case round =>
      obtain⟨j,rfl,hj,hbj⟩:=hrel
      have bj:=bstep b13 hbj
      by_cases hjq:j<q13
      ·have hjj:(j:Int)<(q13:Int):=by omega
       have hjL:j<([maxU]++ms').length:=by rw[←H13.out.1];exact hjq
       have cS:=(hbj.cell (p:=⟨g13,0+j,none⟩) (by have h5:=HS13.out.at_ u64C_length (by omega);obtain⟨b',o',k',e',hb',_⟩:=h5;injection e' with e1 _ _;injection e1 with e1;injection e1 with e1 _;subst e1;exact hb')).trans (HS13.out.num hjL)
       obtain⟨s,hs⟩:∃s,s=([maxU]++ms')[j]:=⟨_,rfl⟩
       rw[←hs,Nat.zero_add] at cS
       have hseen:s∈ms'∨∀e∈MM,e.seq.toNat≤s.toNat:=by
        have h5:s∈[maxU]++ms':=by rw[hs];exact List.getElem_mem hjL
        rcases List.mem_append.1 h5 with h5|h5
        ·refine .inr fun e he=>?_
         rw[List.mem_singleton.1 h5]
         have h6:=(rightL_all hMR.1).2 e he
         have h7:e.seq.toNat≤72057594037927935:=by
          simp only[rightE,Bool.and_eq_true,decide_eq_true_eq] at h6
          exact h6.1.1.2
         exact h7
        ·exact .inl h5
       have hvk:viewF s.toNat none K=viewF s.toNat none MM:=by rw[HKK.out.1];exact view_keep (rightL_all hMR.1).1 hseen
       obtain⟨VV,hVV⟩:∃VV,VV=viewF s.toNat none MM:=⟨_,rfl⟩
       have hVl:VV.length≤100000:=by rw[hVV];have:=view_len s.toNat MM none;omega
       have HV1:Hid (Calls Tryz.prog 20 #[.slice A m c,.int .u64 (s.toNat:Int)] wr fun e w'=>∃r,e=.returned r∧OG 130 pqC 2 w' wr.heap.size r VV∧Below wr.heap.size wr w'):=Lib.hid (by
        have h5:=kView_any K s _ wr (HA13.out.on hbj) (rightL_all hKR.1).1 (by omega)
        rw[hvk,←hVV] at h5
        exact h5)
       have HV2:Hid (∀W,Below wr.heap.size wr W→Calls Tryz.prog 20 #[.slice A8 l8 c8,.int .u64 (s.toNat:Int)] W fun e w'=>∃r,e=.returned r∧OG 130 pqC 2 w' W.heap.size r VV∧Below W.heap.size W w'):=Lib.hid (fun W hW=>by
        have h5:=kView_any MM s _ W (HW13.out.on (bstep hbj hW)) (rightL_all hMR.1).1 (by omega)
        rw[←hVV] at h5
        exact h5)
       have HSm:Hid (∀v1 v2 W,SG pqC 2 W W.heap.size v1 VV→SG pqC 2 W W.heap.size v2 VV→Calls Tryz.prog 19 #[v1,v2] W fun e w'=>e=.returned (.bool true)∧Below W.heap.size W w'):=Lib.hid (fun v1 v2 W x1 x2=>kSamePairs_any VV v1 v2 W x1 x2 hVl)
       clear hs hseen hvk hVV hVl
       go_wp2_with (first|(go_at_call 20;refine HV1.out.mono ?_;clear HV1;rintro _ wa ⟨ra,rfl,hoa,hba⟩;have HOa:=Lib.hid hoa.sg;clear hoa)|(go_at_call 20;refine (HV2.out _ hba).mono ?_;clear HV2;rintro _ wb ⟨rb,rfl,hob,hbb⟩;have HOb:=Lib.hid hob.sg;clear hob)|(go_at_call 19;refine (HSm.out _ _ _ (HOa.out.on hbb) HOb.out).mono ?_;clear HSm;rintro _ wc ⟨rfl,hbc⟩))
       go_roundw
       case rel=>exact⟨j+1,by go_num,by omega,bstep hbj (bstep (bstep hba hbb) hbc)⟩
       case measure=>simp[intOf];omega
      ·have hjj:¬(j:Int)<(q13:Int):=by omega
       have HRk:Hid (Calls Tryz.prog 7 #[.slice A m c] wr fun e w'=>e=.returned (.bool true)∧Below wr.heap.size wr w'):=Lib.hid (by
        have h5:=iRises_any _ K wr (HA13.out.on hbj) (by omega)
        rw[(rightL_all hKR.1).1] at h5
        exact h5)
       go_wp2_with (go_at_call 7;refine HRk.out.mono ?_;rintro _ wz ⟨rfl,hbz⟩)
       go_ret
       exact⟨rfl,bstep bj hbz⟩
end Go.Proofs.YtchjknbideoieaaGreatDoor
