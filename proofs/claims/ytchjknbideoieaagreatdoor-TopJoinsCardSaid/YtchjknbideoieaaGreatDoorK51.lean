/- What is proved here: lists of entries: do all rise, a copy of their list, which entry stands ahead (package merge), at this seat's numbers. Conditions: the lists' lengths. what Merge of package merge gives: the lists' entries in order, at this seat's numbers. Conditions: the lists rise; their lengths. -/
import Derived.Test.YtchjknbideoieaaGreatDoorK08
import Derived.Test.YtchjknbideoieaaGreatDoorK50
import Derived.Test.YtchjknbideoieaaGreatDoorK47
import Derived.WalkSpells
namespace Go.Proofs.YtchjknbideoieaaGreatDoor
set_option maxRecDepth 100000
set_option maxHeartbeats 8000000
open Go.RowKit Go.Great Go.Proofs
theorem OG.lit {α:Type} (w:World) (t:TypeId) (f:α→List Value) (c:Nat):OG t f c (w.alloc (.cells #[] t)) w.heap.size (.slice (some ⟨w.heap.size,0,none⟩) 0 0) [] :=
 ⟨by simp,.inr ⟨w.heap.size,0,#[],rfl,Nat.le_refl _,heap_alloc_new w _,Nat.le_refl _,Nat.zero_le _,by simp,by simp⟩⟩
theorem kRises1_any (v:Value) (l:List Ent) (w:World) (hv:SE w w.heap.size v l) (hl:l.length≤140737488351232) :
  Calls Tryz.prog 85 #[v] w fun e w'=>e=.returned (.bool (!risesE l))∧Below w.heap.size w w':=by
 have HI:=Lib.hid (iRises_any v l w hv hl)
 obtain⟨A,c,rfl,_,_,_⟩:=hv
 go_enter Tryz.func85,Tryz.ntmps85
 go_wp2_with (go_at_call 7;refine HI.out.mono ?_;rintro _ w2 ⟨rfl,hb2⟩)
 go_ret
 exact⟨rfl,hb2⟩
theorem kIndexL_any (P:List Pr) (v:Value) (w:World) (hv:SpKept w w.heap.size v P) (hl:P.length≤1099511627776) (hr:∀p∈P,risesE p.2=true∧p.2.length≤1099511627776) :
  Calls Tryz.prog 106 #[v,.func (.func 85) #[] #[]] w fun e w'=>e=.returned (.int .i64 (-1))∧Below w.heap.size w w':=by
 have HV:=Lib.hid hv
 have HR:=Lib.hid hr
 have eg:∀args w,(callFunc 85 args).run Tryz.prog w=.ok (.enter 85 args) w:=enters_of Tryz.func85 (by kernel_rfl) rfl
 obtain⟨A,c,rfl,hc,hm'⟩:=(id hv.1).form
 clear hv hr
 go_enter Tryz.func106,Tryz.ntmps106
 go_wp2
 go_loopw [5,8] (fun _ i wr=>∃k:Nat,i=.int .i64 (k:Int)∧k≤P.length∧Below w.heap.size w wr) (fun _ i _=>P.length-(intOf i).toNat)
 case atStart=>exact⟨0,rfl,Nat.zero_le _,bself w⟩
 case round =>
  obtain⟨k,rfl,hk,hbr⟩:=hrel
  by_cases hlt:k<P.length
  ·obtain⟨b,o,k',e,hb,hrg⟩:=HV.out.1.at_ prC_length (by omega)
   injection e with e1 _ e3
   subst e1;subst e3
   have c0:=(hbr.cell (p:=⟨b,o+k,none⟩) hb).trans (by simpa using hrg k hlt 0 (P[k]).1 rfl)
   have hse:=SE.on (HV.out.2 P[k] (List.getElem_mem hlt)) hbr
   have hpr:=HR.out P[k] (List.getElem_mem hlt)
   obtain⟨p,hp⟩:∃p,p=P[k]:=⟨_,rfl⟩
   rw[←hp] at c0 hse hpr
   have HC:=Lib.hid (kRises1_any p.1 p.2 wr hse (by have:=hpr.2;omega))
   rw[hpr.1] at HC
   obtain⟨A2,k2,e2,_,_⟩:=id hse
   rw[e2] at c0 HC
   clear hse hpr hp e2 hrg
   go_wp2_with (go_at_fn 85;refine HC.out.mono ?_;rintro _ w2 ⟨rfl,hb2⟩)
   go_roundw
   case rel=>exact⟨k+1,by go_num,by omega,bstep hbr hb2⟩
   case measure=>simp[intOf];omega
  ·go_wp2
   go_ret
   exact⟨rfl,hbr⟩
theorem kContainsL_any (P:List Pr) (v:Value) (w:World) (hv:SpKept w w.heap.size v P) (hl:P.length≤1099511627776) (hr:∀p∈P,risesE p.2=true∧p.2.length≤1099511627776) :
  Calls Tryz.prog 84 #[v,.func (.func 85) #[] #[]] w fun e w'=>e=.returned (.bool false)∧Below w.heap.size w w':=by
 have HI:=Lib.hid (kIndexL_any P v w hv hl hr)
 obtain⟨A,c,rfl,_,_⟩:=(id hv.1).form
 go_enter Tryz.func84,Tryz.ntmps84
 go_wp2_with (go_at_call 106;refine HI.out.mono ?_;rintro _ w2 ⟨rfl,hb2⟩)
 go_ret
 exact⟨rfl,hb2⟩
theorem kMRises_any (P:List Pr) (v:Value) (w:World) (hv:SpKept w w.heap.size v P) (hl:P.length≤1099511627776) (hr:∀p∈P,risesE p.2=true∧p.2.length≤1099511627776) :
  Calls Tryz.prog 43 #[v] w fun e w'=>e=.returned (.bool true)∧Below w.heap.size w w':=by
 have HI:=Lib.hid (kContainsL_any P v w hv hl hr)
 obtain⟨A,c,rfl,_,_⟩:=(id hv.1).form
 go_enter Tryz.func43,Tryz.ntmps43
 go_wp2_with (go_at_call 84;refine HI.out.mono ?_;rintro _ w2 ⟨rfl,hb2⟩)
 go_ret
 exact⟨rfl,hb2⟩
theorem kAheadM_any (a b:Ent) (w:World) :
  Calls Tryz.prog 45 #[entV a,entV b] w fun e w'=>e=.returned (.bool (aheadE a b))∧Below w.heap.size w w':=by
 have hb:Below w.heap.size w ((w.alloc (.cells #[.string a.user,.int .u64 (a.seq.toNat:Int),.int .u8 (a.kind.toNat:Int),.string a.value] 29)).alloc (.cells #[.string b.user,.int .u64 (b.seq.toNat:Int),.int .u8 (b.kind.toNat:Int),.string b.value] 29)):=balloc (balloc (bself w) _) _
 have HB:=Lib.hid hb
 clear hb
 rcases three a b with ⟨k1,k2,k3⟩|⟨k1,k2,k3⟩|⟨k1,k2,k3⟩
 all_goals
  rw[k3]
  clear k3
  go_enter Tryz.func45,Tryz.ntmps45
  go_wp2
  all_goals go_ret
  all_goals exact⟨ret_bool (by simp[*]),HB.out⟩
theorem kCloneL_any (P:List Pr) (v:Value) (w:World) (hv:SpKept w w.heap.size v P) (h0:0<P.length) (hl:P.length≤1000000) :
  Calls Tryz.prog 44 #[v] w fun e w'=>∃r,e=.returned r∧OG 22 prC 1 w' w.heap.size r P∧Below w.heap.size w w':=by
 obtain⟨b,o,k',rfl,hb,hrg⟩:=(id hv.1).at_ prC_length h0
 have hone:∀x∈P,∀u∈prC x,u.oneCell'=true:=fun x hx u hu=>by
  rw[List.mem_singleton.1 hu]
  obtain⟨_,_,e,_⟩:=hv.2 x hx
  rw[e];rfl
 have HV:=Lib.hid hv.1
 have HO:=Lib.hid hone
 have hnil:=fun W:World=>Lib.run_eql_slice_nil (P:=Tryz.prog) W 60 22 (some ⟨b,o,none⟩) P.length k' 0 0 Tryz.underlying60
 clear hv hrg hone
 go_enter Tryz.func44,Tryz.ntmps44
 go_wp2_with (at_builtin;refine wl_appG rfl 60 22 (.slice none 0 0) 24 infoSl Tryz.underlying60 rfl (by omega) (.tmp 5) (.tmp 6) rfl w.heap.size _ [] rfl (OG.lit w 22 prC 1) w.heap.size _ P HO.out rfl (HV.out.alloc (Nat.le_refl _) _) (by simp[maxLen];omega) (by simp;omega) (by simp) ?_;intro v' w' h1 h2 h3 h4;have HH:=Lib.hid (And.intro h1 h4);clear h1 h2 h3 h4)
 go_ret
 exact⟨v',rfl,HH.out.1,(balloc (bself w) _).trans HH.out.2⟩
end Go.Proofs.YtchjknbideoieaaGreatDoor
namespace Go.Proofs.YtchjknbideoieaaGreatDoor
set_option maxRecDepth 100000
set_option maxHeartbeats 8000000
open Go.RowKit Go.Great Go.Proofs
theorem flat_set {α:Type} {f:α→List Value} (hf:∀x,(f x).length=1) {y:α} {u:Value} (hy:f y=[u]):∀(l:List α) (i:Nat),(l.set i y).flatMap f=(l.flatMap f).set i u
 | [],_=>rfl
 | x::l,0=>by
  obtain⟨z,hz⟩:=List.length_eq_one_iff.1 (hf x)
  simp[hz,hy]
 | x::l,i+1=>by
  obtain⟨z,hz⟩:=List.length_eq_one_iff.1 (hf x)
  have:=flat_set hf hy l i
  simp[hz,this]
theorem OG.putAt {α:Type} {f:α→List Value} {w:World} {base g n k i:Nat} {t:TypeId} {l:List α} {y:α} {u:Value} (h:OG t f 1 w base (.slice (some ⟨g,0,none⟩) n k) l) (hf:∀x,(f x).length=1) (_hi:i<l.length) (hy:f y=[u]) :
  OG t f 1 (w.setCell ⟨g,i,none⟩ u) base (.slice (some ⟨g,0,none⟩) n k) (l.set i y):=by
 have hfl:=flat_length f 1 hf l
 obtain⟨h1,h2⟩:=h
 rcases h2 with ⟨e,_⟩|⟨g',cap,cur,e1,e2,e3,e4,e5,e6,e7⟩
 ·cases e
 ·injection e1 with e11 e12 e13
  injection e11 with e11
  injection e11 with e11
  subst e11
  refine⟨by rw[flat_set hf hy];simp[hfl],.inr ⟨g,cap,cur.setIfInBounds i u,by simp[e12,e13],e2,?_,by simpa using e4,e5,by simp[e6],?_⟩⟩
  ·simp only[World.setCell,Array.getElem?_modify,e3]
   simp
  ·rw[Array.toList_setIfInBounds,List.take_set,flat_set hf hy]
   rw[List.length_set,e7]
theorem OG.cellAt {α:Type} {f:α→List Value} {w:World} {base g n k i:Nat} {t:TypeId} {l:List α} {u:Value} (h:OG t f 1 w base (.slice (some ⟨g,0,none⟩) n k) l) (hf:∀x,(f x).length=1) (hi:i<l.length) (hy:f l[i]=[u]):w.cell? ⟨g,i,none⟩=some u:=by
 obtain⟨b,o,k',e,hb,hr⟩:=h.sg.at_ hf (by omega)
 injection e with e1 _ _
 injection e1 with e1
 injection e1 with e1 e2
 subst e1;subst e2
 have:=hr i hi 0 u (by simp[hy])
 simpa using this
theorem OG.frz {α:Type} {f:α→List Value} {w:World} {base g n k:Nat} {t:TypeId} {l:List α} (h:OG t f 1 w base (.slice (some ⟨g,0,none⟩) n k) l) (j:Nat):w.frozen? ⟨g,j,none⟩=false:=by
 obtain⟨_,h2⟩:=h
 rcases h2 with ⟨e,_⟩|⟨g',cap,cur,e1,_,e3,_⟩
 ·cases e
 ·injection e1 with e1 _ _
  injection e1 with e1
  injection e1 with e1 _
  subst e1
  exact fzS_row e3 j
structure MgAt (w:World) (v3 v4:Value) (Q:List Pr) (out:List Ent) (W:World):Prop where
 o:OG 22 prC 1 W w.heap.size v3 Q
 s:∀p∈Q,SE w w.heap.size p.1 p.2
 e:OE W w.heap.size v4 out
 a:Ap v3 v4
 b:Below w.heap.size w W
theorem MgAt.on {w W W':World} {v3 v4:Value} {Q:List Pr} {out:List Ent} (h:MgAt w v3 v4 Q out W) (hb:Below W.heap.size W W'):MgAt w v3 v4 Q out W' :=
 ⟨h.o.below hb (Nat.le_refl _),h.s,h.e.below hb (Nat.le_refl _),h.a,bstep h.b hb⟩
theorem MgAt.app {w W W':World} {v3 v4 v5:Value} {n:Nat} {Q:List Pr} {out m:List Ent} (h:MgAt w v3 v4 Q out W) (ho:OE W' w.heap.size v5 m) (hg:W.grownBy W' v4.ownBlock) (hf:v5.ownBlock=v4.ownBlock∨v5.ownBlock=some n) (hn:W.heap.size≤n) (hb:Below w.heap.size W W'):MgAt w v3 v5 Q m W' :=
 ⟨h.o.grown hg h.a,h.s,ho,h.a.right (fun k hk=>(h.o.lt k hk).2) (fs_of hf hn),h.b.trans hb⟩
theorem MgAt.put {w W:World} {g n k i:Nat} {v4:Value} {Q:List Pr} {out:List Ent} {p:Pr} (h:MgAt w (.slice (some ⟨g,0,none⟩) n k) v4 Q out W) (hi:i<Q.length) (hp:SE w w.heap.size p.1 p.2):MgAt w (.slice (some ⟨g,0,none⟩) n k) v4 (Q.set i p) out (W.setCell ⟨g,i,none⟩ p.1):=by
 have hl:=(h.o.lt g rfl)
 refine⟨h.o.putAt prC_length hi rfl,fun q hq=>?_,h.e.grown (grown_set W rfl p.1) (Ap.symm h.a),h.a,h.b.setCell hl.1 _⟩
 rcases List.mem_or_eq_of_mem_set hq with hq|rfl
 ·exact h.s q hq
 ·exact hp
def BestI (Q:List Pr) (i:Nat) (b:Int):Prop:=(b=-1∧bestH ((Q.map (·.2)).take i)=none)∨∃k:Nat,∃h:k<Q.length,b=(k:Int)∧k<i∧∃e t,(Q[k]'h).2=e::t∧bestH ((Q.map (·.2)).take i)=some e
theorem best_take {Q:List Pr} {i:Nat} (hi:i<Q.length):bestH ((Q.map (·.2)).take (i+1))=bestS (bestH ((Q.map (·.2)).take i)) Q[i].2:=by
 rw[List.take_succ_eq_append_getElem (by simpa using hi),bestH_snoc]
 simp
theorem BestI.le {Q:List Pr} {i:Nat} {b:Int} (h:BestI Q i b):-1≤b∧b<(Q.length:Int):=by
 rcases h with ⟨rfl,_⟩|⟨k,hk,rfl,_⟩
 ·omega
 ·omega
theorem BestI.nil {Q:List Pr} {i:Nat} {b:Int} (h:BestI Q i b) (hi:i<Q.length) (he:Q[i].2=[]):BestI Q (i+1) b:=by
 rcases h with ⟨rfl,hn⟩|⟨k,hk,rfl,hki,e,t,h1,h2⟩
 ·exact .inl ⟨rfl,by rw[best_take hi,he,hn];rfl⟩
 ·exact .inr ⟨k,hk,rfl,by omega,e,t,h1,by rw[best_take hi,he,h2];rfl⟩
theorem BestI.one {Q:List Pr} {i:Nat} {y:Ent} {t:List Ent} (h:BestI Q i (-1)) (hi:i<Q.length) (he:Q[i].2=y::t):BestI Q (i+1) i:=by
 rcases h with ⟨_,hn⟩|⟨k,hk,hb,_⟩
 ·exact .inr ⟨i,hi,rfl,by omega,y,t,he,by rw[best_take hi,he,hn];rfl⟩
 ·omega
theorem BestI.more {Q:List Pr} {i k:Nat} {y e:Ent} {t t':List Ent} (h:BestI Q i k) (hi:i<Q.length) (he:Q[i].2=y::t) (hk:k<Q.length) (hke:Q[k].2=e::t'):BestI Q (i+1) (if aheadE y e then i else k):=by
 rcases h with ⟨hb,_⟩|⟨k',hk',hb,hki,e',t2,h1,h2⟩
 ·omega
 ·obtain rfl:k'=k:=by omega
  rw[h1] at hke
  injection hke with hke _
  subst hke
  have hs:=best_take hi
  rw[he,h2,bestS] at hs
  cases hx:aheadE y e' with
  | true =>
   rw[hx,if_pos rfl] at hs
   rw[if_pos rfl]
   exact .inr ⟨i,hi,rfl,by omega,y,t,he,hs⟩
  | false =>
   rw[hx,if_neg (by simp)] at hs
   rw[if_neg (by simp)]
   exact .inr ⟨k',hk',rfl,by omega,e',t2,h1,hs⟩
theorem BestI.all {Q:List Pr} {b:Int} (h:BestI Q Q.length b):(b=-1∧bestH (Q.map (·.2))=none)∨∃k:Nat,∃h:k<Q.length,b=(k:Int)∧∃e t,(Q[k]'h).2=e::t∧bestH (Q.map (·.2))=some e:=by
 have e:(Q.map (·.2)).take Q.length=Q.map (·.2):=by rw[List.take_of_length_le (by simp)]
 unfold BestI at h
 rw[e] at h
 rcases h with h|⟨k,hk,rfl,_,e,t,h1,h2⟩
 ·exact .inl h
 ·exact .inr ⟨k,hk,rfl,e,t,h1,h2⟩
theorem head_cells {w:World} {B:Nat} {v:Value} {y:Ent} {t:List Ent} (h:SE w B v (y::t)):∃b o c,v=.slice (some ⟨b,o,none⟩) (t.length+1) c∧b<B∧t.length+1≤c∧c≤9223372036854775807∧w.cell? ⟨b,o,none⟩=some (.string y.user)∧w.cell? ⟨b,o+1,none⟩=some (.int .u64 (y.seq.toNat:Int))∧w.cell? ⟨b,o+2,none⟩=some (.int .u8 (y.kind.toNat:Int))∧w.cell? ⟨b,o+3,none⟩=some (.string y.value):=by
 obtain⟨A,c,rfl,h1,h2,hr⟩:=h
 obtain⟨b,o,rfl,hb,c0,c1,c2,c3⟩:=hr.ent rfl (k:=0) (by simp)
 unfold maxLen at h2
 exact⟨b,o,c,by simp,hb,by simpa using h1,by omega,by simpa using c0,by simpa using c1,by simpa using c2,by simpa using c3⟩
theorem tail_se {w:World} {B b o c:Nat} {y:Ent} {t:List Ent} (h:SE w B (.slice (some ⟨b,o,none⟩) (t.length+1) c) (y::t)):SE w B (.slice (if c=1 then some ⟨b,o,none⟩ else some ⟨b,o+4,none⟩) t.length (c-1)) t:=by
 have h2:=Sl.cut h (k:=1) (by simp) (A:=some ⟨b,o,none⟩) (c:=c) (by simp)
 unfold SE
 simpa [Addr.add,entC] using h2
section
variable {α:Type} (f:α→α) {L M:List α} {i:Nat}
theorem drop_at (hi:i<L.length) (hM:M=(L.take i).map f++L.drop i):M[i]? = some L[i]:=by
 have hlt:((L.take i).map f).length=i:=by rw[List.length_map,List.length_take,Nat.min_eq_left (by omega)]
 rw[hM,List.getElem?_append_right (by omega),hlt,Nat.sub_self,List.getElem?_drop,Nat.add_zero,List.getElem?_eq_getElem hi]
theorem drop_same (hi:i<L.length) (hM:M=(L.take i).map f++L.drop i) (hs:f L[i]=L[i]):M=(L.take (i+1)).map f++L.drop (i+1):=by
 rw[hM,List.take_succ_eq_append_getElem hi,List.map_append,List.append_assoc,List.drop_eq_getElem_cons hi,List.map_cons,List.map_nil,hs]
 rfl
theorem drop_set (hi:i<L.length) (hM:M=(L.take i).map f++L.drop i) {y:α} (hs:f L[i]=y):M.set i y=(L.take (i+1)).map f++L.drop (i+1):=by
 have hlt:((L.take i).map f).length=i:=by rw[List.length_map,List.length_take,Nat.min_eq_left (by omega)]
 rw[hM,List.set_append_right _ _ (by omega),hlt,Nat.sub_self,List.drop_eq_getElem_cons hi,List.set_cons_zero,List.take_succ_eq_append_getElem hi,List.map_append,List.append_assoc,List.map_cons,List.map_nil,hs]
 rfl
end
theorem kMerge_any (P:List Pr) (v:Value) (w:World) (hv:SpKept w w.heap.size v P) (h0:0<P.length) (hl:P.length≤1000) (hr:∀p∈P,risesE p.2=true) (hN:lenL (P.map (·.2))≤100000) (hpl:∀p∈P,p.2.length≤100000) :
  Calls Tryz.prog 15 #[v] w fun e w'=>∃r,e=.returned r∧OE w' w.heap.size r (mergeL (P.map (·.2)))∧Below w.heap.size w w':=by
 have HRis:=Lib.hid (kMRises_any P v w hv (by omega) (fun p hp=>⟨hr p hp,by have:=hpl p hp;omega⟩))
 have HCl:Hid (∀W,Below w.heap.size w W→Calls Tryz.prog 44 #[v] W fun e w'=>∃r,e=.returned r∧OG 22 prC 1 w' W.heap.size r P∧Below W.heap.size W w'):=Lib.hid (fun W hW=>by
  refine kCloneL_any P v W ?_ h0 (by omega)
  exact⟨(hv.1.keep fun p hp=>hW.cell hp).more hW.size,fun p hp=>SE.on (hv.2 p hp) hW⟩)
 obtain⟨b0,o0,c0,rfl,_,_⟩:=(id hv.1).at_ prC_length h0
 have hs:=hv.2
 obtain⟨T,hT⟩:∃T,T=mergeL (P.map (·.2)):=⟨_,rfl⟩
 rw[←hT]
 obtain⟨np,hnp⟩:∃np,np=P.length:=⟨_,rfl⟩
 rw[←hnp] at HRis HCl ⊢
 obtain⟨N,hNd⟩:∃N,N=lenL (P.map (·.2)):=⟨_,rfl⟩
 have HT:=Lib.hid (And.intro hT (And.intro hnp (And.intro hNd hs)))
 have hnp1:0<np∧np≤1000:=by omega
 have hN1:N≤100000:=by omega
 clear hv h0 hl hr hN hpl hT hnp hs hNd
 go_enter Tryz.func15,Tryz.ntmps15
 go_upto_region 3 with (go_at_call 43;refine HRis.out.mono ?_;rintro _ w1 ⟨rfl,hb1⟩)
 go_upto_region 4 with (go_at_call 44;refine (HCl.out _ hb1).mono ?_;rintro _ w2 ⟨r2,rfl,ho2,hb2⟩;obtain⟨g3,k3,rfl⟩:=ho2.form0 (by rw[←HT.out.2.1];omega);rw[←HT.out.2.1] at ho2 ⊢)
 have HM0:Hid (MgAt w (.slice (some ⟨g3,0,none⟩) np k3) (.slice none 0 0) P [] w2):=Lib.hid ⟨ho2.rebase hb1.size,HT.out.2.2.2,OE.nil_ _ _,Ap.nil_ _,bstep hb1 hb2⟩
 clear ho2 hb2 hb1 HRis HCl
 go_wp2_with fail
 go_loopg [4] (N+1) (fun gk s4 wr=>∃(A4:Option Addr) (m4 c4:Nat) (Q:List Pr) (out:List Ent),s4=.slice A4 m4 c4∧m4≤N∧Hid (m4=out.length∧np=Q.length∧MgAt w (.slice (some ⟨g3,0,none⟩) np k3) (.slice A4 m4 c4) Q out wr∧(∃f,lenL (Q.map (·.2))≤f∧out++mergeF f (Q.map (·.2))=T)∧out.length+lenL (Q.map (·.2))≤N∧lenL (Q.map (·.2))<gk))
 case atStart=>exact⟨none,0,0,P,[],rfl,by omega,Lib.hid ⟨rfl,HT.out.2.1,HM0.out,⟨N,by rw[HT.out.2.2.1];exact Nat.le_refl _,by rw[HT.out.1,HT.out.2.2.1];rfl⟩,by rw[HT.out.2.2.1];simp,by rw[HT.out.2.2.1];omega⟩⟩
 case round =>
  obtain⟨A4,m4,c4,Q,out,rfl,hm4,HQ⟩:=hrel
  clear HM0
  go_wp2_with fail
  go_loopw [5,18] (fun s5 s18 wi=>∃(i:Nat) (bv:Int),s18=.int .i64 (i:Int)∧s5=.int .i64 bv∧i≤np∧Hid (BestI Q i bv)∧Hid (MgAt w (.slice (some ⟨g3,0,none⟩) np k3) (.slice A4 m4 c4) Q out wi)) (fun _ s18 _=>np-(intOf s18).toNat)
  case atStart=>exact⟨0,-1,rfl,rfl,by omega,Lib.hid (.inl ⟨rfl,rfl⟩),Lib.hid HQ.out.2.2.1⟩
  case round =>
   obtain⟨i,bv,rfl,rfl,hi,HB,HM⟩:=hrel
   by_cases hin:i<np
   ·have hiQ:i<Q.length:=by rw[←HQ.out.2.1];exact hin
    have hii:(i:Int)<(np:Int):=by omega
    have cX:=HM.out.o.cellAt prC_length hiQ rfl
    have hse:=HM.out.s Q[i] (List.getElem_mem hiQ)
    obtain⟨q,hq⟩:∃q:Pr,q=Q[i]:=⟨_,rfl⟩
    rw[←hq] at cX hse
    obtain⟨v5,l5⟩:=q
    dsimp only at cX hse
    have HX:=Lib.hid hq
    clear hq
    have hgl:=(HM.out.o.lt g3 rfl).2
    cases l5 with
    | nil =>
     obtain⟨A5,c5,rfl,_,_,_⟩:=id hse
     rw[List.length_nil] at cX hse
     clear hse
     go_upto_region 9 with fail
     go_quiet (fail)
     go_wp2_with fail
     go_roundw
     case rel=>exact⟨i+1,bv,by go_num,rfl,by omega,Lib.hid (HB.out.nil hiQ (by rw[←HX.out])),Lib.hid (HM.out.on (bdrewN (bself _) nq))⟩
     case measure=>simp[intOf];omega
    | cons y t =>
     obtain⟨b5,o5,c5,rfl,hb5,_,hc5,y0,y1,y2,y3⟩:=head_cells hse
     clear hse
     rcases HB.out with ⟨hb0,_⟩|⟨k,hk,hbk,hki,e,t2,he,hbe⟩
     ·subst hb0
      go_upto_region 9 with fail
      go_quiet (fail)
      go_wp2_with fail
      go_roundw
      case rel=>exact⟨i+1,(i:Int),by go_num,rfl,by omega,Lib.hid (HB.out.one hiQ (by rw[←HX.out])),Lib.hid (HM.out.on (bdrewN (bself _) nq))⟩
      case measure=>simp[intOf];omega
     ·subst hbk
      have hki0:¬(k:Int)<0:=by omega
      have hknp:(k:Int)<(np:Int):=by have:=HQ.out.2.1;omega
      have cK:=HM.out.o.cellAt prC_length hk rfl
      have hse2:=HM.out.s Q[k] (List.getElem_mem hk)
      rw[he] at hse2
      obtain⟨b6,o6,c6,e6,hb6,_,hc6,z0,z1,z2,z3⟩:=head_cells hse2
      rw[e6] at cK
      have HE:=Lib.hid (And.intro he hk)
      obtain⟨tl2,htl2⟩:∃n,n=t2.length:=⟨_,rfl⟩
      obtain⟨tl,htl⟩:∃n,n=t.length:=⟨_,rfl⟩
      rw[←htl2] at cK
      rw[←htl] at cX
      clear hse2 e6 he hbe htl2 htl
      cases hq:aheadE y e with
      | true =>
       have HA:Hid (aheadE y e=true∧∀W,Calls Tryz.prog 45 #[.agg #[.string y.user,.int .u64 (y.seq.toNat:Int),.int .u8 (y.kind.toNat:Int),.string y.value],.agg #[.string e.user,.int .u64 (e.seq.toNat:Int),.int .u8 (e.kind.toNat:Int),.string e.value]] W fun en w'=>en=.returned (.bool true)∧Below W.heap.size W w'):=Lib.hid ⟨hq,fun W=>by have h:=kAheadM_any y e W;rw[hq] at h;exact h⟩
       clear hq
       go_upto_region 9 with fail
       have KS:Hid (∀W,Below wr.heap.size wr W→True∧W.cell? ⟨b5,o5,none⟩=some (.string y.user)∧W.cell? ⟨b5,o5+1,none⟩=some (.int .u64 (y.seq.toNat:Int))∧W.cell? ⟨b5,o5+2,none⟩=some (.int .u8 (y.kind.toNat:Int))∧W.cell? ⟨b5,o5+3,none⟩=some (.string y.value)∧W.cell? ⟨g3,k,none⟩=some (.slice (some ⟨b6,o6,none⟩) (tl2+1) c6)∧W.cell? ⟨b6,o6,none⟩=some (.string e.user)∧W.cell? ⟨b6,o6+1,none⟩=some (.int .u64 (e.seq.toNat:Int))∧W.cell? ⟨b6,o6+2,none⟩=some (.int .u8 (e.kind.toNat:Int))∧W.cell? ⟨b6,o6+3,none⟩=some (.string e.value)):=Lib.hid (fun W hW=>by
        have hB:=bstep HM.out.b hW
        exact⟨trivial,(hB.cell hb5).trans y0,(hB.cell hb5).trans y1,(hB.cell hb5).trans y2,(hB.cell hb5).trans y3,(hW.cell hgl).trans cK,(hB.cell hb6).trans z0,(hB.cell hb6).trans z1,(hB.cell hb6).trans z2,(hB.cell hb6).trans z3⟩)
       refine wp_region_noPanic ?_
       refine wp_region_held_drew (S:=fun W=>True∧W.cell? ⟨b5,o5,none⟩=some (.string y.user)∧W.cell? ⟨b5,o5+1,none⟩=some (.int .u64 (y.seq.toNat:Int))∧W.cell? ⟨b5,o5+2,none⟩=some (.int .u8 (y.kind.toNat:Int))∧W.cell? ⟨b5,o5+3,none⟩=some (.string y.value)∧W.cell? ⟨g3,k,none⟩=some (.slice (some ⟨b6,o6,none⟩) (tl2+1) c6)∧W.cell? ⟨b6,o6,none⟩=some (.string e.user)∧W.cell? ⟨b6,o6+1,none⟩=some (.int .u64 (e.seq.toNat:Int))∧W.cell? ⟨b6,o6+2,none⟩=some (.int .u8 (e.kind.toNat:Int))∧W.cell? ⟨b6,o6+3,none⟩=some (.string e.value)) (by kernel_rfl) (KS.out _ (bdrew (bself wr))) (fun hHeld=>?_)
       refine rtk 0 ?_
       refine rtk 1 ?_
       refine rtk 2 ?_
       refine rtk 3 ?_
       refine rtk 4 ?_
       refine rtk 5 ?_
       refine rtk 6 ?_
       refine rtk 7 ?_
       refine rtk 8 ?_
       refine rtk 9 ?_
       refine rtk 10 ?_
       refine rtk 11 ?_
       refine rtk 12 ?_
       refine rtk 13 ?_
       refine rtk 14 ?_
       refine rtk 15 ?_
       refine ro 16 (fun K hK=>?_)
       (go_simp;go_at_call 45;refine (HA.out.2 _).mono ?_;rintro _ w9 ⟨rfl,hb9⟩;have hb9':=bstep (bdrew (bself wr)) hb9;go_wp2_with fail)
       refine hK.out _ _ ?_ (fun hHeld=>?_)
       ·exact KS.out _ hb9'
       clear hK K
       try simp only[Act.put,q1,q2,q3]
       refine rtk 17 ?_
       refine rtk 18 ?_
       refine rdn ?_
       clear hHeld
       go_wp2_with fail
       go_roundw
       case rel=>exact⟨i+1,(i:Int),by go_num,rfl,by omega,Lib.hid (by have h:=HB.out.more hiQ (by rw[←HX.out]) hk HE.out.1;rwa [HA.out.1,if_pos rfl] at h),Lib.hid (HM.out.on hb9')⟩
       case measure=>simp[intOf];omega
      | false =>
       have HA:Hid (aheadE y e=false∧∀W,Calls Tryz.prog 45 #[.agg #[.string y.user,.int .u64 (y.seq.toNat:Int),.int .u8 (y.kind.toNat:Int),.string y.value],.agg #[.string e.user,.int .u64 (e.seq.toNat:Int),.int .u8 (e.kind.toNat:Int),.string e.value]] W fun en w'=>en=.returned (.bool false)∧Below W.heap.size W w'):=Lib.hid ⟨hq,fun W=>by have h:=kAheadM_any y e W;rw[hq] at h;exact h⟩
       clear hq
       go_upto_region 9 with fail
       have KS:Hid (∀W,Below wr.heap.size wr W→True∧W.cell? ⟨b5,o5,none⟩=some (.string y.user)∧W.cell? ⟨b5,o5+1,none⟩=some (.int .u64 (y.seq.toNat:Int))∧W.cell? ⟨b5,o5+2,none⟩=some (.int .u8 (y.kind.toNat:Int))∧W.cell? ⟨b5,o5+3,none⟩=some (.string y.value)∧W.cell? ⟨g3,k,none⟩=some (.slice (some ⟨b6,o6,none⟩) (tl2+1) c6)∧W.cell? ⟨b6,o6,none⟩=some (.string e.user)∧W.cell? ⟨b6,o6+1,none⟩=some (.int .u64 (e.seq.toNat:Int))∧W.cell? ⟨b6,o6+2,none⟩=some (.int .u8 (e.kind.toNat:Int))∧W.cell? ⟨b6,o6+3,none⟩=some (.string e.value)):=Lib.hid (fun W hW=>by
        have hB:=bstep HM.out.b hW
        exact⟨trivial,(hB.cell hb5).trans y0,(hB.cell hb5).trans y1,(hB.cell hb5).trans y2,(hB.cell hb5).trans y3,(hW.cell hgl).trans cK,(hB.cell hb6).trans z0,(hB.cell hb6).trans z1,(hB.cell hb6).trans z2,(hB.cell hb6).trans z3⟩)
       refine wp_region_noPanic ?_
       refine wp_region_held_drew (S:=fun W=>True∧W.cell? ⟨b5,o5,none⟩=some (.string y.user)∧W.cell? ⟨b5,o5+1,none⟩=some (.int .u64 (y.seq.toNat:Int))∧W.cell? ⟨b5,o5+2,none⟩=some (.int .u8 (y.kind.toNat:Int))∧W.cell? ⟨b5,o5+3,none⟩=some (.string y.value)∧W.cell? ⟨g3,k,none⟩=some (.slice (some ⟨b6,o6,none⟩) (tl2+1) c6)∧W.cell? ⟨b6,o6,none⟩=some (.string e.user)∧W.cell? ⟨b6,o6+1,none⟩=some (.int .u64 (e.seq.toNat:Int))∧W.cell? ⟨b6,o6+2,none⟩=some (.int .u8 (e.kind.toNat:Int))∧W.cell? ⟨b6,o6+3,none⟩=some (.string e.value)) (by kernel_rfl) (KS.out _ (bdrew (bself wr))) (fun hHeld=>?_)
       refine rtk 0 ?_
       refine rtk 1 ?_
       refine rtk 2 ?_
       refine rtk 3 ?_
       refine rtk 4 ?_
       refine rtk 5 ?_
       refine rtk 6 ?_
       refine rtk 7 ?_
       refine rtk 8 ?_
       refine rtk 9 ?_
       refine rtk 10 ?_
       refine rtk 11 ?_
       refine rtk 12 ?_
       refine rtk 13 ?_
       refine rtk 14 ?_
       refine rtk 15 ?_
       refine ro 16 (fun K hK=>?_)
       (go_simp;go_at_call 45;refine (HA.out.2 _).mono ?_;rintro _ w9 ⟨rfl,hb9⟩;have hb9':=bstep (bdrew (bself wr)) hb9;go_wp2_with fail)
       refine hK.out _ _ ?_ (fun hHeld=>?_)
       ·exact KS.out _ hb9'
       clear hK K
       try simp only[Act.put,q1,q2,q3]
       refine rtk 17 ?_
       refine rtk 18 ?_
       refine rdn ?_
       clear hHeld
       go_wp2_with fail
       go_roundw
       case rel=>exact⟨i+1,(k:Int),by go_num,rfl,by omega,Lib.hid (by have h:=HB.out.more hiQ (by rw[←HX.out]) hk HE.out.1;rwa [HA.out.1,if_neg (by simp)] at h),Lib.hid (HM.out.on hb9')⟩
       case measure=>simp[intOf];omega
   ·have hii:¬(i:Int)<(np:Int):=by omega
    have hB:=HB.out
    rw[show i=Q.length by have:=HQ.out.2.1;omega] at hB
    rcases hB.all with ⟨hb0,hbn⟩|⟨k,hk,hbk,e,t2,he,hbe⟩
    ·subst hb0
     go_wp2_with fail
     go_ret
     refine⟨_,rfl,?_,HM.out.b⟩
     obtain⟨f,_,hf⟩:=HQ.out.2.2.2.1
     have h5:mergeF f (Q.map (·.2))=[]:=by
      cases f with
      | zero=>rfl
      | succ f=>rw[mergeF,hbn]
     rw[h5,List.append_nil] at hf
     rw[←hf]
     exact HM.out.e
    ·subst hbk
     have hk0:¬(k:Int)<0:=by omega
     have hknp:(k:Int)<(np:Int):=by have:=HQ.out.2.1;omega
     have cK:=HM.out.o.cellAt prC_length hk rfl
     have hse2:=HM.out.s Q[k] (List.getElem_mem hk)
     rw[he] at hse2
     obtain⟨b6,o6,c6,e6,hb6,_,hc6,z0,z1,z2,z3⟩:=head_cells hse2
     rw[e6] at cK
     have z0:=(HM.out.b.cell hb6).trans z0
     have z1:=(HM.out.b.cell hb6).trans z1
     have z2:=(HM.out.b.cell hb6).trans z2
     have z3:=(HM.out.b.cell hb6).trans z3
     have HE:=Lib.hid (And.intro hk (And.intro he hbe))
     obtain⟨tl2,htl2⟩:∃n,n=t2.length:=⟨_,rfl⟩
     rw[←htl2] at cK
     clear hse2 e6 he hbe htl2 hB
     go_upto_region 15 with fail
     have rE:=heap_alloc_new wr (.cells #[.string e.user,.int .u64 (e.seq.toNat:Int),.int .u8 (e.kind.toNat:Int),.string e.value] 29)
     have bE:=balloc (bself wr) (.cells #[.string e.user,.int .u64 (e.seq.toNat:Int),.int .u8 (e.kind.toNat:Int),.string e.value] 29)
     have hzE:w.heap.size≤wr.heap.size:=HM.out.b.size
     have HM1:=Lib.hid (HM.out.on bE)
     have zE:wr.heap.size<(wr.alloc (.cells #[.string e.user,.int .u64 (e.seq.toNat:Int),.int .u8 (e.kind.toNat:Int),.string e.value] 29)).heap.size:=by simp
     generalize World.alloc wr _=w1 at rE bE HM1 zE ⊢
     obtain⟨⟨E0,E1,E2,E3⟩,_⟩:=cells4 rE
     have hm4':(m4:Int)≤100000:=by omega
     have hon:out.length≤100000:=by have:=HQ.out.1;omega
     clear cK z0 z1 z2 z3
     go_upto_region 16 with (at_builtin;refine wl_appEs rfl (.tmp 53) (.tmp 55) rfl w.heap.size (.slice A4 m4 c4) out rfl (HM1.out.e.alloc _) (w1.heap.size+1) _ [e] rfl (SE.newAt e rfl (by omega)) (by simp[maxLen];omega) (Fits.of _ _ _ (by simp;omega)) (by simp;omega) ?_;intro v5 w5 ho5 hg5 hf5 hb5;obtain⟨g5,k5,rfl⟩:=ho5.formP (by simp);obtain⟨m5,hm5⟩:∃m5,m5=(out++[e]).length:=⟨_,rfl⟩;rw[←hm5] at ho5 ⊢;have H5:=Lib.hid (And.intro hm5 (And.intro ho5 (And.intro hg5 (And.intro hf5 hb5))));clear hm5 ho5 hg5 hf5 hb5)
     obtain⟨hm5,ho5,hg5,hf5,hb5⟩:=H5.out
     have hg5':=(World.grownBy_alloc w1 (.cells #[.string e.user,.int .u64 (e.seq.toNat:Int),.int .u8 (e.kind.toNat:Int),.string e.value] 29) _).trans hg5
     have hb5':=((Below.refl w.heap.size w1).alloc (by omega) (.cells #[.string e.user,.int .u64 (e.seq.toNat:Int),.int .u8 (e.kind.toNat:Int),.string e.value] 29)).trans hb5
     have hM5:=HM1.out.app ho5 hg5' hf5 (by simp) hb5'
     have hneE:some wr.heap.size≠(Value.slice A4 m4 c4).ownBlock:=fun e=>by have:=(HM.out.e.lt _ e.symm).2;omega
     have rE5:=(hg5'.block _ zE hneE).trans rE
     have hg3E:g3<wr.heap.size:=(HM.out.o.lt g3 rfl).2
     have HM5:=Lib.hid hM5
     have HRE:=Lib.hid rE5
     have hm5N:m5≤N:=by
      rw[hm5,List.length_append]
      have h1:=HQ.out.2.2.2.2.1
      have h2:=drops_lt (best_some HE.out.2.2).1
      simp only[List.length_cons,List.length_nil]
      omega
     have HM5L:=Lib.hid hm5
     obtain⟨EB,hEB⟩:∃EB,EB=wr.heap.size:=⟨_,rfl⟩
     rw[←hEB] at HRE hg3E ⊢
     have hEBw:w.heap.size≤EB:=by omega
     clear hm5 ho5 hg5 hf5 hb5 hg5' hb5' hM5 rE5 rE bE HM1 zE H5 E0 E1 E2 E3 hneE hEB
     go_wp2_with fail
     go_loopw [59] (fun s59 wi=>∃(i:Nat) (Q':List Pr),s59=.int .i64 (i:Int)∧i≤np∧Hid (np=Q'.length∧Q'.map (·.2)=((Q.map (·.2)).take i).map (dropH e)++(Q.map (·.2)).drop i∧MgAt w (.slice (some ⟨g3,0,none⟩) np k3) (.slice (some ⟨g5,0,none⟩) m5 k5) Q' (out++[e]) wi)∧Hid (wi.heap[EB]? = some (.cells #[.string e.user,.int .u64 (e.seq.toNat:Int),.int .u8 (e.kind.toNat:Int),.string e.value] 29 (0,0)))) (fun s59 _=>np-(intOf s59).toNat)
     case atStart=>exact⟨0,Q,rfl,by omega,Lib.hid ⟨HQ.out.2.1,by simp,HM5.out⟩,HRE⟩
     case round =>
      obtain⟨j,Q',rfl,hj,HJ,HRj⟩:=hrel
      clear HM5 HRE HB HM
      by_cases hjn:j<np
      ·have hjQ:j<Q'.length:=by rw[←HJ.out.1];exact hjn
       have hjL:j<(Q.map (·.2)).length:=by rw[List.length_map,←HQ.out.2.1];exact hjn
       have hjj:(j:Int)<(np:Int):=by omega
       have cX:=HJ.out.2.2.o.cellAt prC_length hjQ rfl
       have fX:=HJ.out.2.2.o.frz j
       have hse:=HJ.out.2.2.s Q'[j] (List.getElem_mem hjQ)
       have hat:=drop_at (dropH e) hjL HJ.out.2.1
       rw[List.getElem?_map,List.getElem?_eq_getElem hjQ,Option.map_some] at hat
       injection hat with hat
       obtain⟨q,hq⟩:∃q:Pr,q=Q'[j]:=⟨_,rfl⟩
       rw[←hq] at cX hse hat
       obtain⟨v7,l7⟩:=q
       dsimp only at cX hse hat
       have HX:=Lib.hid (And.intro hq hat)
       clear hq hat
       have hgl:=(HJ.out.2.2.o.lt g3 rfl).2
       cases l7 with
       | nil =>
        obtain⟨A7,c7,rfl,_,_,_⟩:=id hse
        rw[List.length_nil] at cX hse
        clear hse
        go_upto_region 19 with fail
        go_quiet (fail)
        go_wp2_with fail
        go_roundw
        case rel=>exact⟨j+1,Q',by go_num,by omega,Lib.hid ⟨HJ.out.1,drop_same (dropH e) hjL HJ.out.2.1 (by rw[←HX.out.2];rfl),HJ.out.2.2.on (bdrewN (bself _) nq)⟩,Lib.hid (((bdrewN (bself _) nq).block _ (Array.getElem?_eq_some_iff.1 HRj.out).1).trans HRj.out)⟩
        case measure=>simp[intOf];omega
       | cons y t =>
        obtain⟨b7,o7,c7,rfl,hb7,htc,hc7,y0,y1,y2,y3⟩:=head_cells hse
        obtain⟨⟨E0,E1,E2,E3⟩,_⟩:=cells4 HRj.out
        have hEl:=(Array.getElem?_eq_some_iff.1 HRj.out).1
        have HSE:=Lib.hid hse
        clear hse
        obtain⟨tl,htl⟩:∃n,n=t.length:=⟨_,rfl⟩
        rw[←htl] at cX htc
        have HTL:=Lib.hid htl
        clear htl
        cases hq:aheadE e y with
        | true =>
         have HA:Hid (aheadE e y=true∧∀W,Calls Tryz.prog 45 #[.agg #[.string e.user,.int .u64 (e.seq.toNat:Int),.int .u8 (e.kind.toNat:Int),.string e.value],.agg #[.string y.user,.int .u64 (y.seq.toNat:Int),.int .u8 (y.kind.toNat:Int),.string y.value]] W fun en w'=>en=.returned (.bool true)∧Below W.heap.size W w'):=Lib.hid ⟨hq,fun W=>by have h:=kAheadM_any e y W;rw[hq] at h;exact h⟩
         clear hq
         go_upto_region 19 with fail
         have KS:Hid (∀W,Below wr.heap.size wr W→True∧W.cell? ⟨b7,o7,none⟩=some (.string y.user)∧W.cell? ⟨b7,o7+1,none⟩=some (.int .u64 (y.seq.toNat:Int))∧W.cell? ⟨b7,o7+2,none⟩=some (.int .u8 (y.kind.toNat:Int))∧W.cell? ⟨b7,o7+3,none⟩=some (.string y.value)∧W.cell? ⟨EB,0,none⟩=some (.string e.user)∧W.cell? ⟨EB,1,none⟩=some (.int .u64 (e.seq.toNat:Int))∧W.cell? ⟨EB,2,none⟩=some (.int .u8 (e.kind.toNat:Int))∧W.cell? ⟨EB,3,none⟩=some (.string e.value)):=Lib.hid (fun W hW=>by
          have hB:=bstep HJ.out.2.2.b hW
          exact⟨trivial,(hB.cell hb7).trans y0,(hB.cell hb7).trans y1,(hB.cell hb7).trans y2,(hB.cell hb7).trans y3,(hW.cell hEl).trans E0,(hW.cell hEl).trans E1,(hW.cell hEl).trans E2,(hW.cell hEl).trans E3⟩)
         refine wp_region_noPanic ?_
         refine wp_region_held_drew (S:=fun W=>True∧W.cell? ⟨b7,o7,none⟩=some (.string y.user)∧W.cell? ⟨b7,o7+1,none⟩=some (.int .u64 (y.seq.toNat:Int))∧W.cell? ⟨b7,o7+2,none⟩=some (.int .u8 (y.kind.toNat:Int))∧W.cell? ⟨b7,o7+3,none⟩=some (.string y.value)∧W.cell? ⟨EB,0,none⟩=some (.string e.user)∧W.cell? ⟨EB,1,none⟩=some (.int .u64 (e.seq.toNat:Int))∧W.cell? ⟨EB,2,none⟩=some (.int .u8 (e.kind.toNat:Int))∧W.cell? ⟨EB,3,none⟩=some (.string e.value)) (by kernel_rfl) (KS.out _ (bdrew (bself wr))) (fun hHeld=>?_)
         refine rtk 0 ?_
         refine rtk 1 ?_
         refine rtk 2 ?_
         refine rtk 3 ?_
         refine rtk 4 ?_
         refine rtk 5 ?_
         refine rtk 6 ?_
         refine rtk 7 ?_
         refine ro 8 (fun K hK=>?_)
         (go_simp;go_at_call 45;refine (HA.out.2 _).mono ?_;rintro _ w9 ⟨rfl,hb9⟩;have hb9':=bstep (bdrew (bself wr)) hb9;go_wp2_with fail)
         refine hK.out _ _ ?_ (fun hHeld=>?_)
         ·exact KS.out _ hb9'
         clear hK K
         try simp only[Act.put,q1,q2,q3]
         refine rtk 9 ?_
         refine rtk 10 ?_
         refine rdn ?_
         clear hHeld E0 E1 E2 E3 y0 y1 y2 y3
         go_wp2_with fail
         go_roundw
         case rel=>exact⟨j+1,Q',by go_num,by omega,Lib.hid ⟨HJ.out.1,drop_same (dropH e) hjL HJ.out.2.1 (by rw[←HX.out.2,dropH,HA.out.1,if_pos rfl]),HJ.out.2.2.on hb9'⟩,Lib.hid ((hb9'.block _ hEl).trans HRj.out)⟩
         case measure=>simp[intOf];omega
        | false =>
         have HA:Hid (aheadE e y=false∧∀W,Calls Tryz.prog 45 #[.agg #[.string e.user,.int .u64 (e.seq.toNat:Int),.int .u8 (e.kind.toNat:Int),.string e.value],.agg #[.string y.user,.int .u64 (y.seq.toNat:Int),.int .u8 (y.kind.toNat:Int),.string y.value]] W fun en w'=>en=.returned (.bool false)∧Below W.heap.size W w'):=Lib.hid ⟨hq,fun W=>by have h:=kAheadM_any e y W;rw[hq] at h;exact h⟩
         clear hq
         go_upto_region 19 with fail
         have KS:Hid (∀W,Below wr.heap.size wr W→True∧W.cell? ⟨b7,o7,none⟩=some (.string y.user)∧W.cell? ⟨b7,o7+1,none⟩=some (.int .u64 (y.seq.toNat:Int))∧W.cell? ⟨b7,o7+2,none⟩=some (.int .u8 (y.kind.toNat:Int))∧W.cell? ⟨b7,o7+3,none⟩=some (.string y.value)∧W.cell? ⟨EB,0,none⟩=some (.string e.user)∧W.cell? ⟨EB,1,none⟩=some (.int .u64 (e.seq.toNat:Int))∧W.cell? ⟨EB,2,none⟩=some (.int .u8 (e.kind.toNat:Int))∧W.cell? ⟨EB,3,none⟩=some (.string e.value)):=Lib.hid (fun W hW=>by
          have hB:=bstep HJ.out.2.2.b hW
          exact⟨trivial,(hB.cell hb7).trans y0,(hB.cell hb7).trans y1,(hB.cell hb7).trans y2,(hB.cell hb7).trans y3,(hW.cell hEl).trans E0,(hW.cell hEl).trans E1,(hW.cell hEl).trans E2,(hW.cell hEl).trans E3⟩)
         refine wp_region_noPanic ?_
         refine wp_region_held_drew (S:=fun W=>True∧W.cell? ⟨b7,o7,none⟩=some (.string y.user)∧W.cell? ⟨b7,o7+1,none⟩=some (.int .u64 (y.seq.toNat:Int))∧W.cell? ⟨b7,o7+2,none⟩=some (.int .u8 (y.kind.toNat:Int))∧W.cell? ⟨b7,o7+3,none⟩=some (.string y.value)∧W.cell? ⟨EB,0,none⟩=some (.string e.user)∧W.cell? ⟨EB,1,none⟩=some (.int .u64 (e.seq.toNat:Int))∧W.cell? ⟨EB,2,none⟩=some (.int .u8 (e.kind.toNat:Int))∧W.cell? ⟨EB,3,none⟩=some (.string e.value)) (by kernel_rfl) (KS.out _ (bdrew (bself wr))) (fun hHeld=>?_)
         refine rtk 0 ?_
         refine rtk 1 ?_
         refine rtk 2 ?_
         refine rtk 3 ?_
         refine rtk 4 ?_
         refine rtk 5 ?_
         refine rtk 6 ?_
         refine rtk 7 ?_
         refine ro 8 (fun K hK=>?_)
         (go_simp;go_at_call 45;refine (HA.out.2 _).mono ?_;rintro _ w9 ⟨rfl,hb9⟩;have hb9':=bstep (bdrew (bself wr)) hb9;go_wp2_with fail)
         refine hK.out _ _ ?_ (fun hHeld=>?_)
         ·exact KS.out _ hb9'
         clear hK K
         try simp only[Act.put,q1,q2,q3]
         refine rtk 9 ?_
         refine rtk 10 ?_
         refine rdn ?_
         clear hHeld E0 E1 E2 E3 y0 y1 y2 y3
         have cX9:=(hb9'.cell (p:=⟨g3,j,none⟩) hgl).trans cX
         have HM9:=Lib.hid (HJ.out.2.2.on hb9')
         have fX9:=HM9.out.o.frz j
         clear cX fX
         go_upto_region 21 with fail
         obtain⟨v8,hv8⟩:∃v8,v8=Value.slice (if c7=1 then some ⟨b7,o7,none⟩ else some ⟨b7,o7+4,none⟩) tl (c7-1):=⟨_,rfl⟩
         rw[←hv8]
         have hse8:SE w w.heap.size v8 t:=by rw[hv8,HTL.out];exact tail_se HSE.out
         have hM8:=HM9.out.put (i:=j) (p:=(v8,t)) hjQ hse8
         have hR8:=(Below.heap_setCell w9 ⟨g3,j,none⟩ v8 EB (by show EB≠g3;omega)).trans ((hb9'.block _ hEl).trans HRj.out)
         dsimp only at hM8
         have H8:=Lib.hid (And.intro hM8 hR8)
         clear hv8 hse8 hM8 hR8
         go_wp2_with fail
         go_roundw
         case rel=>exact⟨j+1,Q'.set j (v8,t),by go_num,by omega,Lib.hid ⟨by rw[List.length_set];exact HJ.out.1,by rw[List.map_set];exact drop_set (dropH e) hjL HJ.out.2.1 (by rw[←HX.out.2,dropH,HA.out.1,if_neg (by simp)]),H8.out.1⟩,Lib.hid H8.out.2⟩
         case measure=>simp[intOf];omega
      ·have hjj:¬(j:Int)<(np:Int):=by omega
       go_wp2_with fail
       go_roundg (lenL (Q.map (·.2)))
       case measure=>exact HQ.out.2.2.2.2.2
       case rel =>
        have hlt:=drops_lt (best_some HE.out.2.2).1
        obtain⟨h1,h2,h3,⟨f,h4,h5⟩,h6,h7⟩:=HQ.out
        obtain⟨f',rfl⟩:∃f',f=f'+1:=⟨f-1,by omega⟩
        have hQm:Q'.map (·.2)=(Q.map (·.2)).map (dropH e):=by
         have h8:=HJ.out.2.1
         have h9:(Q.map (·.2)).length≤j:=by rw[List.length_map,←h2];omega
         rw[List.take_of_length_le h9,List.drop_of_length_le h9,List.append_nil] at h8
         exact h8
        refine⟨_,m5,_,Q',out++[e],rfl,by omega,Lib.hid ⟨HM5L.out,HJ.out.1,HJ.out.2.2,⟨f',by rw[hQm];omega,?_⟩,?_,by rw[hQm];omega⟩⟩
        ·rw[hQm,←h5,mergeF,HE.out.2.2,List.append_assoc]
         rfl
        ·rw[hQm,List.length_append,List.length_cons,List.length_nil]
         omega
end Go.Proofs.YtchjknbideoieaaGreatDoor
