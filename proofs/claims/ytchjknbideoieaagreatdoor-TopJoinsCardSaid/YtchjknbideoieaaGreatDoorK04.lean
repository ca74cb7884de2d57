/- What is proved here: how a statement's arguments are opened (numbers, texts, slices of bytes, of operations, of entries), and that a call that returns true and turns nothing that was there meets the row. No condition. how a statement's arguments are opened: whole numbers, texts, slices of any element whose cells are known. No condition. how the cells of a struct of one-cell .. -/
import Derived.Test.YtchjknbideoieaaGreatDoorRows
import Derived.Test.YtchjknbideoieaaGreatDoorK03
import Derived.ProofKit
import Derived.JoinedCond
import Derived.SizedLaws
import Derived.Deep.Slices
import Derived.Deep.Fields
import Derived.ChangeMaps5
namespace Go.Proofs.YtchjknbideoieaaGreatDoor
set_option maxRecDepth 100000
set_option maxHeartbeats 8000000
open Go.ChangeShapes Go.WideShapes Go.ChangeAt Go.RowKit Go.Deep
theorem own:ownKnob Tryz.prog.godebug=none:=by kernel_rfl
theorem laidOut:laidOutB Tryz.prog=true:=by kernel_rfl
section
variable {H:Type} {enc:TypeId × Value→H} {P:Program}
theorem trodAll_below (hl:laidOutB P=true) {W W':World} (hb:Below W.heap.size W W'):∀(ts:List TypeId) (vs:List Value) (ds:List (DataW H)) (ps:List MemPlace),
  (∀t∈ts,P.readableRec t=true∧t<P.types.size)→(∀x∈ps,x.block<W.heap.size)→DataW.TrodAll enc P W 0 (fun _=>true) true ts vs ds ps →
  DataW.TrodAll enc P W' 0 (fun b=>decide (b<W.heap.size)) true ts vs ds ps
 | [],[],[],_,_,_,h=>h
 | t::ts,v::vs,d::ds,ps,ht,hps,⟨p,q,h1,h2,e⟩=>by
  subst e
  refine⟨p,q,Below.trod hl (ht t (by simp)).1 (ht t (by simp)).2 h1 hb (fun x hx=>hps x (by simp[hx])),?_,rfl⟩
  exact trodAll_below hl hb ts vs ds q (fun t' h'=>ht t' (by simp[h'])) (fun x hx=>hps x (by simp[hx])) h2
 | [],[],_::_,_,_,_,h=>h.elim
 | [],_::_,_,_,_,_,h=>h.elim
 | _::_,[],_,_,_,_,h=>h.elim
 | _::_,_::_,[],_,_,_,h=>h.elim
theorem law_post (hl:laidOutB P=true) {f:Func} {s:ChangeSpec} {W W':World} {args:Array Value} {ds gs:List (DataW H)} {before:List MemPlace} {tb:TypeId}
  (hts:∀t∈f.params.toList,P.readableRec t=true∧t<P.types.size) (hres:f.resultTypes=#[tb]) (htb:P.underlying tb=some .bool) (hvars:s.vars=[])
  (hfn:s.fn H (ds++gs)={ results:=[.lit (.bool true)],args:=ds })
  (hW:DataW.Whole enc P f.params.toList s.vars false W args.toList ds gs before) (hb:Below W.heap.size W W') :
  s.post enc P f false true false false W args (.bool true) W':=by
 have hlt:∀p∈before,p.block<W.heap.size:=fun p hp=>hW.lt p hp
 obtain⟨p,q,hA,hV,e,hfz,hnd⟩:=id hW
 refine⟨ds,gs,before,[],p,q,hW,?_,?_,?_,World.keptBut_mono (fun x hx=>⟨hx,?_⟩) (hb.frame (·∈before)),fun h=>by cases h⟩
 ·rw[hfn,hres]
  exact trodAll_mk1 (shut_bool htb _)
 ·rw[hfn]
  exact trodAll_below hl hb _ _ _ _ hts (fun x hx=>hlt x (by rw[e];simp[hx])) hA
 ·rw[hfn,hvars]
  rw[hvars] at hV
  obtain⟨_,rfl⟩:=trodVars_none hV
  rfl
 ·rw[e,List.mem_append] at hx
  exact Or.inr hx
end
theorem exists_list {α:Type} {p:Nat→α→Prop}:∀(n:Nat),(∀i,i<n→∃x,p i x)→∃l:List α,l.length=n∧∀i (hi:i<l.length),p i l[i]
 | 0,_=>⟨[],rfl,fun i hi=>by simp at hi⟩
 | n+1,h=>by
  obtain⟨l,hl,hp⟩:=exists_list n (fun i hi=>h i (by omega))
  obtain⟨x,hx⟩:=h n (by omega)
  refine⟨l++[x],by simp[hl],fun i hi=>?_⟩
  rcases Nat.lt_or_ge i l.length with h'|h'
  ·rw[List.getElem_append_left h']
   exact hp i h'
  ·have e:i=l.length:=by simp at hi;omega
   subst e
   rw[List.getElem_append_right (Nat.le_refl _)]
   simp only[Nat.sub_self,List.getElem_cons_zero]
   rw[hl]
   exact hx
theorem Rd.of_elems {α:Type} (f:α→List Value) (c:Nat) (hf:∀x,(f x).length=c) {w:World} {B:Nat} {a:Addr} {l:List α} (hs:0<l.length→a.spot=none∧a.block<B)
  (h:∀k (hk:k<l.length) j u,(f l[k])[j]? = some u→w.cell? ⟨a.block,a.off+(k*c+j),none⟩=some u):Rd w B c (some a) l.length (l.flatMap f):=by
 refine⟨flat_length f c hf l,(fun h=>by cases h),fun ad e hn=>?_⟩
 injection e with e
 subst e
 refine⟨(hs hn).1,(hs hn).2,fun j u hu=>?_⟩
 have hj:=(List.getElem?_eq_some_iff.1 hu).1
 rw[flat_length f c hf] at hj
 have hc:0<c:=by
  rcases Nat.eq_zero_or_pos c with h0|h0
  ·rw[h0,Nat.mul_zero] at hj;omega
  ·exact h0
 have hk:j/c<l.length:=by rw[Nat.div_lt_iff_lt_mul hc];exact hj
 have e:j/c*c+j%c=j:=by rw[Nat.mul_comm];exact Nat.div_add_mod j c
 have:=h (j/c) hk (j%c) u (by rw[←flat_get f c hf l _ _ hk (Nat.mod_lt _ hc),e];exact hu)
 rwa [e] at this
theorem addr_of_cell {w:World} {a:Addr} {v:Value} (h:w.cell? a=some v):a.spot=none∧a.block<w.heap.size:=by
 refine⟨?_,World.block_lt_of_cell? w a h⟩
 unfold World.cell? at h
 split at h
 ·split at h
  ·cases h
  ·rename_i hx;simpa using hx
 ·cases h
theorem add_spot {a:Addr} (h:a.spot=none) (j:Nat):a.add j=⟨a.block,a.off+j,none⟩:=by
 cases a;simp only at h;subst h;rw[add_lit0]
section
variable {H:Type} {enc:TypeId × Value→H} {W:World} {base b0:Nat} {spare:Nat→Bool} {held:Bool} {v:Value} {d:DataW H} {ps:List MemPlace}
theorem u64_of (n:Int) (h:(Lit.int .u64 n).wf=true):∃x:UInt64,n=(x.toNat:Int):=by
 have hx:0≤n∧n≤18446744073709551615:=by simpa [Lit.wf,IntKind.min,IntKind.max,IntKind.signed,IntKind.bits] using h
 refine⟨UInt64.ofNat n.toNat,?_⟩
 rw[UInt64.toNat_ofNat']
 omega
theorem u8_of (n:Int) (h:(Lit.int .u8 n).wf=true):∃x:UInt8,n=(x.toNat:Int):=by
 have hx:0≤n∧n≤255:=by simpa [Lit.wf,IntKind.min,IntKind.max,IntKind.signed,IntKind.bits] using h
 refine⟨UInt8.ofNat n.toNat,?_⟩
 rw[UInt8.toNat_ofNat']
 omega
theorem sized_len {P:Program} {ts:List TypeId} {ds:List (DataW H)} (hsz:(DataW.weightsEach P ts ds).all (·≤reachBytes)=true) {j:Nat} {t e:TypeId} {d:DataW H} {n:Nat} (ht:ts[j]? = some t) (hd:ds[j]? = some d) (hu:P.underlying t=some (.slice e))
  (h:n=0∨∃elems rest,d=.slice elems rest∧elems.length=n):n*P.bytesOf e≤140737488351232:=by
 rcases h with rfl|⟨elems,rest,rfl,rfl⟩
 ·simp
 ·have h1:=sized_slice hsz ht hd hu
  unfold reachBytes at h1
  exact Nat.le_trans (Nat.mul_le_mul_right _ (Nat.le_add_right _ _)) h1
end
end Go.Proofs.YtchjknbideoieaaGreatDoor
namespace Go.Proofs.YtchjknbideoieaaGreatDoor
set_option maxRecDepth 100000
set_option maxHeartbeats 8000000
open Go.ChangeShapes Go.WideShapes Go.ChangeAt Go.RowKit Go.Deep
section
variable {H:Type} {enc:TypeId × Value→H} {W:World} {base b0:Nat} {spare:Nat→Bool} {held:Bool} {v:Value} {d:DataW H} {ps:List MemPlace}
theorem arg_u8 {t:TypeId} (ht:Tryz.prog.underlying t=some (.int .u8)) (hval:Value.okWide Tryz.prog W .any b0 t v) (hd:DataW.Trod enc Tryz.prog W base spare held t v d ps):∃x:UInt8,v=.int .u8 (x.toNat:Int):=by
 obtain⟨n,rfl,_,_,hw⟩:=open_int ht hval hd
 obtain⟨x,rfl⟩:=u8_of n hw
 exact⟨x,rfl⟩
theorem arg_sl {α:Type} (f:α→List Value) (c:Nat) (hc0:0<c) (hf:∀x,(f x).length=c) (Ok:α→Prop) {t e:TypeId} (ht:Tryz.prog.underlying t=some (.slice e)) (hce:Tryz.prog.cellsOf e=c)
  (hopen:∀(fuel:Nat) (cs:List Value) (x:DataW H × List MemPlace),DataW.trod enc Tryz.prog W base spare held fuel e cs=some x→∃o:α,cs=f o∧Ok o)
  (hval:Value.okWide Tryz.prog W .any b0 t v) (hd:DataW.Trod enc Tryz.prog W base spare held t v d ps) :
  ∃l:List α,Sl W W.heap.size c v l.length (l.flatMap f)∧(∀o∈l,Ok o)∧(l.length=0∨∃elems rest,d=.slice elems rest∧elems.length=l.length):=by
 obtain⟨a0,len0,cap0,rfl⟩:=okWide_slice ht hval
 obtain⟨fuel,hfu⟩:=hd
 rcases open_slice ht hfu with ⟨hcs,_⟩|⟨a,len,cap,m,n,D,Pl,hcs,hb,hl,hm,hmm,hx,hi⟩
 ·have e:Value.slice a0 len0 cap0=.slice none 0 0:=by simpa [Value.cells] using hcs
  rw[e]
  exact⟨[],Sl.nil_ _ _ _,(fun o ho=>by simp at ho),.inl rfl⟩
 ·have e:Value.slice a0 len0 cap0=.slice (some a) len cap:=by simpa [Value.cells] using hcs
  rw[e]
  have hlm:len≤m:=by rw[hmm];split <;> omega
  rw[hce] at hi
  obtain⟨l,hll,hp⟩:=exists_list (p:=fun i (o:α)=>Ok o∧∀j u,(f o)[j]? = some u→W.cell? ((a.add (i*c)).add j)=some u) len (fun i him=>by
   obtain⟨cs',hc,ht⟩:=hi i (by omega)
   obtain⟨o,rfl,hok⟩:=hopen _ _ _ ht
   obtain⟨_,hcl,hat⟩:=World.cells?_some hc
   refine⟨o,hok,fun j u hu=>?_⟩
   have hj:=(List.getElem?_eq_some_iff.1 hu).1
   rw[hat j (by rw[←hcl];exact hj)]
   exact hu)
  refine⟨l,⟨some a,cap,by rw[hll],by omega,hm,?_⟩,?_,.inr ⟨_,_,(congrArg Prod.fst hx),by simp[hll]⟩⟩
  ·have hspot:0<l.length→a.spot=none∧a.block<W.heap.size:=fun h0=>by
    have h1:0<(f l[0]).length:=by rw[hf];exact hc0
    have:=(hp 0 h0).2 0 _ (List.getElem?_eq_getElem h1)
    rw[Nat.zero_mul] at this
    have e2:(a.add 0).add 0=a:=by simp[Addr.add]
    rw[e2] at this
    exact addr_of_cell this
   refine Rd.of_elems f c hf hspot (fun k hk j u hu=>?_)
   have h1:=(hp k hk).2 j u hu
   have hs:=(hspot (by omega)).1
   rw[add_spot hs,add_lit0,Nat.add_assoc] at h1
   exact h1
  ·intro o ho
   obtain⟨k,hk,rfl⟩:=List.getElem_of_mem ho
   exact (hp k hk).1
end
end Go.Proofs.YtchjknbideoieaaGreatDoor
namespace Go.Proofs.YtchjknbideoieaaGreatDoor
set_option maxRecDepth 100000
set_option maxHeartbeats 8000000
open Go.ChangeShapes Go.WideShapes Go.ChangeAt Go.RowKit Go.Deep
end Go.Proofs.YtchjknbideoieaaGreatDoor
namespace Go.Proofs.YtchjknbideoieaaGreatDoor
set_option maxRecDepth 100000
set_option maxHeartbeats 8000000
open Go.ChangeShapes Go.WideShapes Go.ChangeAt Go.RowKit Go.Deep
theorem oneEnt:∃fs,Tryz.prog.underlying 29=some (.struct fs)∧oneCellFields Tryz.prog fs=true∧fs.size=4∧(fs.toList.map (·.type))=[9,23,5,9]:=⟨_,Tryz.underlying29,by kernel_rfl,by kernel_rfl,by kernel_rfl⟩
theorem cellsEnt:Tryz.prog.cellsOf 29=4:=by kernel_rfl
section
variable {H:Type} {enc:TypeId × Value→H} {W:World} {base b0:Nat} {spare:Nat→Bool} {held:Bool} {v:Value} {d:DataW H} {ps:List MemPlace}
theorem trod_parts {P:Program} {t:TypeId} {fs:Array Field} {fuel:Nat} {cs:List Value} {x:DataW H × List MemPlace} (ht:P.underlying t=some (.struct fs)) (hone:oneCellFields P fs=true) (hC:P.cellsOf t=fs.size)
  (h:DataW.trod enc P W base spare held fuel t cs=some x) :
  cs.length=fs.size∧∃xs:List (DataW H × List MemPlace),x.1=.agg (xs.map (·.1))∧xs.length=fs.size∧∀(j:Nat) (ty:TypeId),(fs.toList.map (·.type))[j]? = some ty→∃(u:Value) (n:Nat) (y:DataW H × List MemPlace),cs[j]? = some u∧DataW.trod enc P W base spare held n ty [u]=some y∧xs[j]? = some y:=by
 obtain⟨xs,n,_,hx,hlen,hxl,hf⟩:=DataW.trod_struct ht h
 rw[hC] at hlen
 refine⟨hlen,xs,by rw[hx],hxl,fun j ty hj=>?_⟩
 rw[List.getElem?_map,Array.getElem?_toList] at hj
 obtain⟨f,hfj,rfl⟩:=Option.map_eq_some_iff.1 hj
 obtain⟨ho,hk⟩:=hone_of hone j f hfj
 have hjl:j<fs.size:=(Array.getElem?_eq_some_iff.1 hfj).1
 have h1:=hf j f hfj
 rw[ho,hk] at h1
 have hone':(cs.drop j).take 1=[cs[j]'(by omega)]:=by
  rw[List.drop_eq_getElem_cons (by omega)]
  rfl
 rw[hone'] at h1
 have hys:xs[j]? = some (xs[j]'(by omega)):=List.getElem?_eq_getElem (by omega)
 exact⟨_,n,_,List.getElem?_eq_getElem (by omega),h1.trans hys,hys⟩
theorem trod_ent {fuel:Nat} {cs:List Value} {x:DataW H × List MemPlace} (h:DataW.trod enc Tryz.prog W base spare held fuel 29 cs=some x) :
  ∃o:Ent,cs=entC o∧EntOk o∧∃p1 p2,x.1=.agg [.lit (.string o.user.data.toList),p1,p2,.lit (.string o.value.data.toList)]:=by
 obtain⟨fs,hu,hone,hsz,hty⟩:=oneEnt
 obtain⟨hl,xs,hx,hxl,hf⟩:=trod_parts hu hone (cellsEnt.trans hsz.symm) h
 rw[hty] at hf
 obtain⟨u0,n0,y0,e0,t0,g0⟩:=hf 0 _ rfl
 obtain⟨u1,n1,y1,e1,t1,g1⟩:=hf 1 _ rfl
 obtain⟨u2,n2,y2,e2,t2,g2⟩:=hf 2 _ rfl
 obtain⟨u3,n3,y3,e3,t3,g3⟩:=hf 3 _ rfl
 obtain⟨s,hs,hsx,ls⟩:=DataW.trod_string Tryz.underlying9 t0
 obtain⟨q,hq,_,wq⟩:=DataW.trod_int Tryz.underlying23 t1
 obtain⟨k,hk,_,wk⟩:=DataW.trod_int Tryz.underlying5 t2
 obtain⟨z,hz,hzx,lz⟩:=DataW.trod_string Tryz.underlying9 t3
 obtain⟨kb,rfl⟩:=u8_of k wk
 obtain⟨qb,rfl⟩:=u64_of q wq
 simp only[List.cons.injEq,and_true] at hk hs hz hq
 subst hk;subst hs;subst hz;subst hq
 unfold maxLen at ls lz
 refine⟨⟨s,qb,kb,z⟩,?_,⟨by simp only;omega,by simp only;omega⟩,y1.1,y2.1,?_⟩
 ·rw[hsz] at hl
  match cs,hl with
  | [c0,c1,c2,c3],_ =>
   simp only[List.getElem?_cons_zero,List.getElem?_cons_succ,Option.some.injEq] at e0 e1 e2 e3
   rw[e0,e1,e2,e3]
   rfl
 ·rw[hx]
  rw[hsz] at hxl
  match xs,hxl with
  | [c0,c1,c2,c3],_ =>
   simp only[List.getElem?_cons_zero,List.getElem?_cons_succ,Option.some.injEq] at g0 g1 g2 g3
   rw[g0,g1,g2,g3,hsx,hzx]
   rfl
theorem arg_ents (hval:Value.okWide Tryz.prog W .any b0 22 v) (hd:DataW.Trod enc Tryz.prog W base spare held 22 v d ps) :
  ∃l:List Ent,SE W W.heap.size v l∧(∀o∈l,EntOk o)∧(l.length=0∨∃elems rest,d=.slice elems rest∧elems.length=l.length) :=
 arg_sl entC 4 (by omega) entC_length EntOk Tryz.underlying22 cellsEnt (fun _ _ _ h=>(trod_ent h).imp fun _ h=>⟨h.1,h.2.1⟩) hval hd
end
end Go.Proofs.YtchjknbideoieaaGreatDoor
