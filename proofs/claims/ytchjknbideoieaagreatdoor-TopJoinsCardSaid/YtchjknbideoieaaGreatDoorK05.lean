/- What is proved here: steps through a region that draws its order, by the laws of Derived/OrdersHeld.lean: an operation that any order may take first; an operation that comes up alone; what is held may grow on the way. No condition. a load may be taken first in a region that draws its order although its cell is written later, where what writes waits for the load: what is .. -/
import Derived.WalkKit
import Derived.Test.YtchjknbideoieaaGreatDoorK01
import Derived.Deep.RegionHeld3
namespace Go.Proofs.YtchjknbideoieaaGreatDoor
set_option maxRecDepth 100000
set_option maxHeartbeats 8000000
section
variable {P:Program} {ops:Array Oper} {Q:Exit→Act→World→Prop} {md:Region.Mode} {S S':World→Prop}
theorem get_of_drop {i:Nat} {o:Oper} {r:List Oper} (h:ops.toList.drop i=o::r):ops[i]? = some o:=by
 have e:ops.toList[i]? = some o:=by rw[←List.head?_drop,h];rfl
 simpa using e
theorem reg_take (i:Nat) {oi:Oper} {r:List Oper} {v:Value} {fuel:Nat} {listed:Array Bool} {a:Act} {w:World} (hi:ops.toList.drop i=oi::r)
  (hs:Region.noSelect ops=true) (hf:Region.free md ops listed i=true) (hr:(Region.ready md ops listed).contains i=true)
  (hQ:∀c a w,Q (.panic c) (a.put oi.dst v) w→Q (.panic c) a w) (hw:Region.wanted oi (yielded ops a.tmps)=true) (hy:∀w,S w→(execOp a.eval oi).run P w=.ok (.value v) w) (hS:S w)
  (h:wpAnyH P md ops Q S fuel (listed.setIfInBounds i true) (a.put oi.dst v) w):wpAnyH P md ops Q S (fuel+1) listed a w :=
 wpAnyH_take (get_of_drop hi) hs hf hr hQ (.inl ⟨hw,hy⟩) hS h
theorem reg_one (i:Nat) {oi:Oper} {r:List Oper} {fuel:Nat} {listed:Array Bool} {a:Act} {w:World} (hi:ops.toList.drop i=oi::r) (hr:Region.ready md ops listed=[i])
  (hw:Region.wanted oi (yielded ops a.tmps)=true)
  (h:∀K':Act→World→Prop,Shut (∀a w,S w→(S w→wpAnyH P md ops Q S fuel (listed.setIfInBounds i true) a w)→K' a w)→Oper.wp P oi a w K' Q):wpAnyH P md ops Q S (fuel+1) listed a w :=
 wpAnyH_ready hr (by simp) (AllReadyH.cons (get_of_drop hi) (fun K' hK=>by rw[if_pos hw];exact h K' hK) AllReadyH.nil)
theorem reg_grow (h:∀w,S' w→S w):∀{fuel:Nat} {listed:Array Bool} {a:Act} {w:World},wpAnyH P md ops Q S' fuel listed a w→wpAnyH P md ops Q S fuel listed a w
 | 0,_,_,_,hh=>hh
 | _+1,_,_,_,hh=>⟨hh.1,fun i hi=>wpOp_mono (fun _ w' h'=>⟨h w' h'.1,reg_grow h h'.2⟩) (hh.2 i hi)⟩
theorem reg_add (T:World→Prop) {fuel:Nat} {listed:Array Bool} {a:Act} {w:World} (hS:S w) (hT:T w) (h:(T w∧S w)→wpAnyH P md ops Q (fun w=>T w∧S w) fuel listed a w):wpAnyH P md ops Q S fuel listed a w :=
 reg_grow (fun _ h=>h.2) (h ⟨hT,hS⟩)
theorem noPanic_mk {a:Act} {w:World} (h:Q .normal a w):NoPanic Q .normal a w:=h
theorem rtk (i:Nat) {v:Value} {oi:Oper} {r:List Oper} {fuel:Nat} {listed l':Array Bool} {a a':Act} {w:World} (h:wpAnyH P md ops Q S fuel l' a' w) (hi:ops.toList.drop i=oi::r:=by rfl)
  (hs:Region.noSelect ops=true:=by kernel_rfl) (hf:Region.free md ops listed i=true:=by kernel_rfl) (hr:(Region.ready md ops listed).contains i=true:=by kernel_rfl) (hw:Region.wanted oi (yielded ops a.tmps)=true:=by rfl)
  (hy:∀w,S w→(execOp a.eval oi).run P w=.ok (.value v) w:=by (intro wq hSq;(try dsimp only at hSq);go_split_ands;go_simp;(try with_reducible rfl)))
  (hQ:∀c a w,Q (.panic c) (a.put oi.dst v) w→Q (.panic c) a w:=by exact fun _ _ _ h=>h) (hS:S w:=by assumption)
  (hl:listed.setIfInBounds i true=l':=by (try simp only[q1,q2,q3]);rfl) (ha:a.put oi.dst v=a':=by (try simp only[Act.put,q1,q2,q3]);rfl):wpAnyH P md ops Q S (fuel+1) listed a w :=
 reg_take i hi hs hf hr hQ hw hy hS (by rw[hl,ha];exact h)
theorem ro (i:Nat) {oi:Oper} {r:List Oper} {fuel:Nat} {listed:Array Bool} {a:Act} {w:World}
  (h:∀K':Act→World→Prop,Shut (∀a w,S w→(S w→wpAnyH P md ops Q S fuel (listed.setIfInBounds i true) a w)→K' a w)→Oper.wp P oi a w K' Q) (hi:ops.toList.drop i=oi::r:=by rfl) (hr:Region.ready md ops listed=[i]:=by kernel_rfl)
  (hw:Region.wanted oi (yielded ops a.tmps)=true:=by rfl):wpAnyH P md ops Q S (fuel+1) listed a w:=reg_one i hi hr hw h
theorem rdn {fuel:Nat} {listed:Array Bool} {a:Act} {w:World} (h:Q .normal a w) (hr:Region.ready md ops listed=[]:=by kernel_rfl):wpAnyH P md ops (NoPanic Q) S fuel listed a w:=wpAnyH_done hr (noPanic_mk h) _
end
end Go.Proofs.YtchjknbideoieaaGreatDoor
namespace Go.Proofs.YtchjknbideoieaaGreatDoor
set_option maxRecDepth 100000
set_option maxHeartbeats 8000000
section
variable {P:Program} {ops:Array Oper} {Q:Exit→Act→World→Prop} {md:Region.Mode} {T:World→Prop} {bad:List Nat}
def offB (bad:List Nat) (listed:Array Bool):Bool:=bad.all fun j=>!listed.getD j false
theorem offB_iff {listed:Array Bool}:offB bad listed=true↔∀j∈bad,listed.getD j false=false:=by
 unfold offB
 rw[List.all_eq_true]
 constructor
 ·intro h j hj;simpa using h j hj
 ·intro h j hj;simpa using h j hj
def badB (md:Region.Mode) (ops:Array Oper) (bad:List Nat) (i:Nat):Bool :=
 !bad.contains i&&bad.all fun j=>match ops[j]? with
  | none=>true
  | some o=>o.after.any fun e=>Region.binds md e&&(e.on==i||bad.contains e.on)
def wpAnyG (P:Program) (md:Region.Mode) (ops:Array Oper) (Q:Exit→Act→World→Prop) (T:World→Prop) (bad:List Nat):Nat→Array Bool→Act→World→Prop
 | 0,listed,a,w=>Region.ready md ops listed=[]∧Q .normal a w
 | fuel+1,listed,a,w =>
  (Region.ready md ops listed=[]→Q .normal a w) ∧
  ∀i∈Region.ready md ops listed,wpOp P ops Q i (fun a' w'=>(offB bad (listed.setIfInBounds i true)=true→T w')∧wpAnyG P md ops Q T bad fuel (listed.setIfInBounds i true) a' w') a w
theorem wpAny_of_G:∀(fuel:Nat) (listed:Array Bool) (a:Act) (w:World),wpAnyG P md ops Q T bad fuel listed a w→wpAny P md ops Q fuel listed a w
 | 0,_,_,_,h=>h
 | fuel+1,_,_,_,h=>⟨h.1,fun i hi=>wpOp_mono (fun a' w' h'=>wpAny_of_G fuel _ a' w' h'.2) (h.2 i hi)⟩
theorem G_of_H {S:World→Prop}:∀(fuel:Nat) (listed:Array Bool) (a:Act) (w:World),offB bad listed=false→wpAnyH P md ops Q S fuel listed a w→wpAnyG P md ops Q T bad fuel listed a w
 | 0,_,_,_,_,h=>h
 | fuel+1,listed,_,_,hb,h=>⟨h.1,fun i hi=>wpOp_mono (fun a' w' h'=>by
   have hb2:offB bad (listed.setIfInBounds i true)=false:=by
    rw[Bool.eq_false_iff] at hb ⊢
    intro h2
    refine hb (offB_iff.2 fun j hj=>?_)
    have h3:=offB_iff.1 h2 j hj
    rcases Bool.eq_false_or_eq_true (listed.getD j false) with h4|h4
    ·rw[getD_set_true h4] at h3;cases h3
    ·exact h4
   exact⟨fun h3=>by (rw[hb2] at h3;cases h3),G_of_H fuel _ a' w' hb2 h'.2⟩) (h.2 i hi)⟩
theorem wpAnyG_first {i:Nat} {oi:Oper} {v:Value} (hi:ops[i]? = some oi) (hsel:∀(j:Nat) (o:Oper) cs b,ops[j]? = some o→o.op≠.select cs b)
  (hQ:∀c a w,Q (.panic c) (a.put oi.dst v) w→Q (.panic c) a w) (hbad:badB md ops bad i=true) :
  ∀(fuel:Nat) (listed:Array Bool) (a:Act) (w:World),
   (∀j oj,ops[j]? = some oj→j≠i→listed.getD j true=false→(∀e∈oj.after,Region.binds md e=true→e.on≠i)→oi.apart ops oj=true) →
   i∈Region.ready md ops listed→YieldsIf P ops T oi v a→T w→offB bad listed=true →
   wpAnyG P md ops Q T bad fuel (listed.setIfInBounds i true) (a.put oi.dst v) w→wpAnyG P md ops Q T bad (fuel+1) listed a w:=by
 unfold badB at hbad
 rw[Bool.and_eq_true] at hbad
 obtain⟨hib0,hbd⟩:=hbad
 have hib:i ∉ bad:=by simpa using hib0
 rw[List.all_eq_true] at hbd
 intro fuel
 induction fuel with
 | zero =>
  intro listed a w _ hr hy hS _ H
  refine⟨fun h=>(by rw[h] at hr;cases hr),fun j hj=>?_⟩
  by_cases hji:j=i
  ·subst hji;exact hy.wpOp hi hS ⟨fun _=>hS,H⟩
  ·have:=ready_mono hj hji
   rw[H.1] at this
   cases this
 | succ fuel ih =>
  intro listed a w hfree hr hy hS hoff H
  refine⟨fun h=>(by rw[h] at hr;cases hr),fun j hj=>?_⟩
  by_cases hji:j=i
  ·subst hji;exact hy.wpOp hi hS ⟨fun _=>hS,H⟩
  ·have h1:=H.2 j (ready_mono hj hji)
   obtain⟨hjun,oj,hoj,hall⟩:=mem_ready.1 hj
   have hi0:listed.getD i false=false:=by
    have h0:=(mem_ready.1 hr).1
    rcases Nat.lt_or_ge i listed.size with h'|h'
    ·simp[h'] at h0 ⊢;exact h0
    ·simp[Array.getElem?_eq_none h']
   have hjb:j ∉ bad:=fun hjb=>by
    have h5:=hbd j hjb
    simp only[hoj] at h5
    obtain⟨e,he,h6⟩:=Array.any_eq_true'.1 h5
    rw[Bool.and_eq_true,Bool.or_eq_true] at h6
    have h7:=hall e he h6.1
    rcases h6.2 with h8|h8
    ·rw[beq_iff_eq.1 h8,hi0] at h7;cases h7
    ·rw[offB_iff.1 hoff e.on (by simpa using h8)] at h7;cases h7
   have set_off:∀(l:Array Bool) (k:Nat),k ∉ bad→offB bad l=true→offB bad (l.setIfInBounds k true)=true:=fun l k hk hl =>
    offB_iff.2 fun b hb=>by rw[getD_set_ne false (fun e=>hk (by rw[e];exact hb))];exact offB_iff.1 hl b hb
   have hoffj:=set_off listed j hjb hoff
   have hoffij:=set_off _ j hjb (set_off listed i hib hoff)
   have hnot:∀e∈oj.after,Region.binds md e=true→e.on≠i:=fun e he hb heq=>by
    have h1:=hall e he hb
    rw[heq,hi0] at h1
    cases h1
   have h2:=wpOp_putIf hoj (hfree j oj hoj hji hjun hnot) (fun cs b=>hsel i oi cs b hi) (fun cs b=>hsel j oj cs b hoj) hQ hy h1
   have hfree':∀k ok,ops[k]? = some ok→k≠i→(listed.setIfInBounds j true).getD k true=false →
     (∀e∈ok.after,Region.binds md e=true→e.on≠i)→oi.apart ops ok=true:=fun k ok hk hki hun hno=>by
    refine hfree k ok hk hki ?_ hno
    by_cases hjk:j=k
    ·subst hjk;exact hjun
    ·rw[getD_set_ne true hjk] at hun;exact hun
   refine wpOp_mono (fun a' w' h3=>⟨fun _=>h3.2.1 hoffij,ih (listed.setIfInBounds j true) a' w' hfree' (ready_mono hr (Ne.symm hji)) h3.1 (h3.2.1 hoffij) hoffj ?_⟩) h2
   rw[Array.setIfInBounds_comm _ _ hji]
   exact h3.2.2
theorem wpAnyG_pure {i:Nat} {oi:Oper} {v:Value} (hi:ops[i]? = some oi) (hsel:∀(j:Nat) (o:Oper) cs b,ops[j]? = some o→o.op≠.select cs b)
  (hQ:∀c a w,Q (.panic c) (a.put oi.dst v) w→Q (.panic c) a w) (hib:i ∉ bad) :
  ∀(fuel:Nat) (listed:Array Bool) (a:Act) (w:World),
   (∀j oj,ops[j]? = some oj→j≠i→listed.getD j true=false→(∀e∈oj.after,Region.binds md e=true→e.on≠i)→oi.apart ops oj=true) →
   i∈Region.ready md ops listed→YieldsIf P ops (fun _=>True) oi v a→(offB bad listed=true→T w) →
   wpAnyG P md ops Q T bad fuel (listed.setIfInBounds i true) (a.put oi.dst v) w→wpAnyG P md ops Q T bad (fuel+1) listed a w:=by
 have set_i:∀(l:Array Bool),offB bad (l.setIfInBounds i true)=offB bad l:=fun l=>by
  rw[Bool.eq_iff_iff,offB_iff,offB_iff]
  have h:∀j∈bad,(l.setIfInBounds i true).getD j false=l.getD j false:=fun j hj=>getD_set_ne false (fun e=>hib (by rw[e];exact hj))
  constructor
  ·intro h2 j hj;rw[←h j hj];exact h2 j hj
  ·intro h2 j hj;rw[h j hj];exact h2 j hj
 intro fuel
 induction fuel with
 | zero =>
  intro listed a w _ hr hy hS H
  refine⟨fun h=>(by rw[h] at hr;cases hr),fun j hj=>?_⟩
  by_cases hji:j=i
  ·subst hji;exact hy.wpOp hi trivial ⟨fun h=>hS (by rw[←set_i];exact h),H⟩
  ·have:=ready_mono hj hji
   rw[H.1] at this
   cases this
 | succ fuel ih =>
  intro listed a w hfree hr hy hS H
  refine⟨fun h=>(by rw[h] at hr;cases hr),fun j hj=>?_⟩
  by_cases hji:j=i
  ·subst hji;exact hy.wpOp hi trivial ⟨fun h=>hS (by rw[←set_i];exact h),H⟩
  ·have h1:=H.2 j (ready_mono hj hji)
   obtain⟨hjun,oj,hoj,hall⟩:=mem_ready.1 hj
   have hi0:listed.getD i false=false:=by
    have h0:=(mem_ready.1 hr).1
    rcases Nat.lt_or_ge i listed.size with h'|h'
    ·simp[h'] at h0 ⊢;exact h0
    ·simp[Array.getElem?_eq_none h']
   have hnot:∀e∈oj.after,Region.binds md e=true→e.on≠i:=fun e he hb heq=>by
    have h1:=hall e he hb
    rw[heq,hi0] at h1
    cases h1
   have h2:=wpOp_putIf hoj (hfree j oj hoj hji hjun hnot) (fun cs b=>hsel i oi cs b hi) (fun cs b=>hsel j oj cs b hoj) hQ hy h1
   have hfree':∀k ok,ops[k]? = some ok→k≠i→(listed.setIfInBounds j true).getD k true=false →
     (∀e∈ok.after,Region.binds md e=true→e.on≠i)→oi.apart ops ok=true:=fun k ok hk hki hun hno=>by
    refine hfree k ok hk hki ?_ hno
    by_cases hjk:j=k
    ·subst hjk;exact hjun
    ·rw[getD_set_ne true hjk] at hun;exact hun
   have hst:(listed.setIfInBounds i true).setIfInBounds j true=(listed.setIfInBounds j true).setIfInBounds i true:=Array.setIfInBounds_comm _ _ (Ne.symm hji)
   refine wpOp_mono (fun a' w' h3=>?_) h2
   have hT':offB bad (listed.setIfInBounds j true)=true→T w':=fun h=>h3.2.1 (by rw[hst,set_i];exact h)
   refine⟨hT',ih (listed.setIfInBounds j true) a' w' hfree' (ready_mono hr (Ne.symm hji)) h3.1 hT' ?_⟩
   rw[←hst]
   exact h3.2.2
theorem wp_regionG {id:Nat} {a:Act} {w:World} (T:World→Prop) (bad:List Nat) (hm:P.follows .mixedOrders=true) (hT:T w.drew)
  (h:T w.drew→wpAnyG P .any ops Q T bad ops.size (Array.replicate ops.size false) a w.drew):(Code.region id ops true).wp P Q a w :=
 wp_region_any hm (wpAny_of_G _ _ _ _ (h hT))
theorem regG_take (i:Nat) {oi:Oper} {r:List Oper} {v:Value} {fuel:Nat} {listed:Array Bool} {a:Act} {w:World} (hi:ops.toList.drop i=oi::r)
  (hs:Region.noSelect ops=true) (hf:Region.free md ops listed i=true) (hr:(Region.ready md ops listed).contains i=true) (hb:badB md ops bad i=true) (ho:offB bad listed=true)
  (hQ:∀c a w,Q (.panic c) (a.put oi.dst v) w→Q (.panic c) a w) (hw:Region.wanted oi (yielded ops a.tmps)=true) (hy:∀w,T w→(execOp a.eval oi).run P w=.ok (.value v) w) (hT:T w)
  (h:wpAnyG P md ops Q T bad fuel (listed.setIfInBounds i true) (a.put oi.dst v) w):wpAnyG P md ops Q T bad (fuel+1) listed a w :=
 wpAnyG_first (get_of_drop hi) (Region.noSelect_spec hs) hQ hb fuel listed a w (Region.free_spec (get_of_drop hi) hf) (by simpa using hr) (.inl ⟨hw,hy⟩) hT ho h
theorem regG_pure (i:Nat) {oi:Oper} {r:List Oper} {v:Value} {fuel:Nat} {listed:Array Bool} {a:Act} {w:World} (hi:ops.toList.drop i=oi::r)
  (hs:Region.noSelect ops=true) (hf:Region.free md ops listed i=true) (hr:(Region.ready md ops listed).contains i=true) (hb:bad.contains i=false)
  (hQ:∀c a w,Q (.panic c) (a.put oi.dst v) w→Q (.panic c) a w) (hw:Region.wanted oi (yielded ops a.tmps)=true) (hy:∀w,(execOp a.eval oi).run P w=.ok (.value v) w) (hT:T w)
  (h:wpAnyG P md ops Q T bad fuel (listed.setIfInBounds i true) (a.put oi.dst v) w):wpAnyG P md ops Q T bad (fuel+1) listed a w :=
 wpAnyG_pure (get_of_drop hi) (Region.noSelect_spec hs) hQ (by simpa using hb) fuel listed a w (Region.free_spec (get_of_drop hi) hf) (by simpa using hr) (.inl ⟨hw,fun w _=>hy w⟩) (fun _=>hT) h
theorem regG_last (i:Nat) {S:World→Prop} {oi:Oper} {r:List Oper} {fuel:Nat} {listed:Array Bool} {a:Act} {w:World} (hi:ops.toList.drop i=oi::r) (hr:Region.ready md ops listed=[i])
  (hw:Region.wanted oi (yielded ops a.tmps)=true) (hb:offB bad (listed.setIfInBounds i true)=false)
  (h:∀K':Act→World→Prop,Shut (∀a w,S w→(S w→wpAnyH P md ops Q S fuel (listed.setIfInBounds i true) a w)→K' a w)→Oper.wp P oi a w K' Q):wpAnyG P md ops Q T bad (fuel+1) listed a w:=by
 refine⟨fun h0=>(by rw[hr] at h0;cases h0),fun j hj=>?_⟩
 rw[hr] at hj
 have e:j=i:=by simpa using hj
 subst e
 refine wpOp_step (get_of_drop hi) (fun K' hK=>?_)
 rw[if_pos hw]
 exact h K' (fun a w hS hW=>hK a w ⟨fun h3=>by (rw[hb] at h3;cases h3),G_of_H fuel _ a w hb (hW hS)⟩)
theorem regG_one (i:Nat) {oi:Oper} {r:List Oper} {fuel:Nat} {listed:Array Bool} {a:Act} {w:World} (hi:ops.toList.drop i=oi::r) (hr:Region.ready md ops listed=[i])
  (hw:Region.wanted oi (yielded ops a.tmps)=true)
  (h:∀K':Act→World→Prop,Shut (∀a w,T w→(T w→wpAnyG P md ops Q T bad fuel (listed.setIfInBounds i true) a w)→K' a w)→Oper.wp P oi a w K' Q):wpAnyG P md ops Q T bad (fuel+1) listed a w:=by
 refine⟨fun h0=>(by rw[hr] at h0;cases h0),fun j hj=>?_⟩
 rw[hr] at hj
 have e:j=i:=by simpa using hj
 subst e
 refine wpOp_step (get_of_drop hi) (fun K' hK=>?_)
 rw[if_pos hw]
 exact h K' (fun a w hS hW=>hK a w ⟨fun _=>hS,hW hS⟩)
theorem wp_of_exec {o:Oper} {a:Act} {K:Act→World→Prop} {w:World} {v:Value} (he:(execOp a.eval o).run P w=.ok (.value v) w) (h:K (a.put o.dst v) w):o.wp P a w K Q:=by
 unfold Oper.wp
 rw[he]
 exact h
theorem reg_pair {S:World→Prop} (i j:Nat) {oi oj:Oper} {r r':List Oper} {fuel:Nat} {listed:Array Bool} {a:Act} {w:World} (hi:ops.toList.drop i=oi::r) (hj:ops.toList.drop j=oj::r') (hr:Region.ready md ops listed=[i,j])
  (hwi:Region.wanted oi (yielded ops a.tmps)=true) (hwj:Region.wanted oj (yielded ops a.tmps)=true)
  (h1:∀K':Act→World→Prop,Shut (∀a w,S w→(S w→wpAnyH P md ops Q S fuel (listed.setIfInBounds i true) a w)→K' a w)→Oper.wp P oi a w K' Q)
  (h2:∀K':Act→World→Prop,Shut (∀a w,S w→(S w→wpAnyH P md ops Q S fuel (listed.setIfInBounds j true) a w)→K' a w)→Oper.wp P oj a w K' Q):wpAnyH P md ops Q S (fuel+1) listed a w :=
 wpAnyH_ready hr (by simp) (AllReadyH.cons (get_of_drop hi) (fun K' hK=>by rw[if_pos hwi];exact h1 K' hK) (AllReadyH.cons (get_of_drop hj) (fun K' hK=>by rw[if_pos hwj];exact h2 K' hK) AllReadyH.nil))
theorem rgk (i:Nat) {v:Value} {oi:Oper} {r:List Oper} {fuel:Nat} {listed l':Array Bool} {a a':Act} {w:World} (h:wpAnyG P md ops Q T bad fuel l' a' w) (hi:ops.toList.drop i=oi::r:=by rfl)
  (hs:Region.noSelect ops=true:=by kernel_rfl) (hf:Region.free md ops listed i=true:=by kernel_rfl) (hr:(Region.ready md ops listed).contains i=true:=by kernel_rfl) (hb:badB md ops bad i=true:=by kernel_rfl) (ho:offB bad listed=true:=by kernel_rfl)
  (hw:Region.wanted oi (yielded ops a.tmps)=true:=by rfl) (hy:∀w,T w→(execOp a.eval oi).run P w=.ok (.value v) w:=by (intro wq hSq;(try dsimp only at hSq);go_split_ands;go_simp;(try with_reducible rfl)))
  (hQ:∀c a w,Q (.panic c) (a.put oi.dst v) w→Q (.panic c) a w:=by exact fun _ _ _ h=>h) (hT:T w:=by assumption)
  (hl:listed.setIfInBounds i true=l':=by (try simp only[q1,q2,q3]);rfl) (ha:a.put oi.dst v=a':=by (try simp only[Act.put,q1,q2,q3]);rfl):wpAnyG P md ops Q T bad (fuel+1) listed a w :=
 regG_take i hi hs hf hr hb ho hQ hw hy hT (by rw[hl,ha];exact h)
theorem rgp (i:Nat) {v:Value} {oi:Oper} {r:List Oper} {fuel:Nat} {listed l':Array Bool} {a a':Act} {w:World} (h:wpAnyG P md ops Q T bad fuel l' a' w) (hi:ops.toList.drop i=oi::r:=by rfl)
  (hs:Region.noSelect ops=true:=by kernel_rfl) (hf:Region.free md ops listed i=true:=by kernel_rfl) (hr:(Region.ready md ops listed).contains i=true:=by kernel_rfl) (hb:bad.contains i=false:=by kernel_rfl)
  (hw:Region.wanted oi (yielded ops a.tmps)=true:=by rfl) (hy:∀w,(execOp a.eval oi).run P w=.ok (.value v) w:=by (intro wq;go_simp;(try with_reducible rfl)))
  (hQ:∀c a w,Q (.panic c) (a.put oi.dst v) w→Q (.panic c) a w:=by exact fun _ _ _ h=>h) (hT:T w:=by assumption)
  (hl:listed.setIfInBounds i true=l':=by (try simp only[q1,q2,q3]);rfl) (ha:a.put oi.dst v=a':=by (try simp only[Act.put,q1,q2,q3]);rfl):wpAnyG P md ops Q T bad (fuel+1) listed a w :=
 regG_pure i hi hs hf hr hb hQ hw hy hT (by rw[hl,ha];exact h)
theorem rgo (i:Nat) {oi:Oper} {r:List Oper} {fuel:Nat} {listed:Array Bool} {a:Act} {w:World}
  (h:∀K':Act→World→Prop,Shut (∀a w,T w→(T w→wpAnyG P md ops Q T bad fuel (listed.setIfInBounds i true) a w)→K' a w)→Oper.wp P oi a w K' Q) (hi:ops.toList.drop i=oi::r:=by rfl) (hr:Region.ready md ops listed=[i]:=by kernel_rfl)
  (hw:Region.wanted oi (yielded ops a.tmps)=true:=by rfl):wpAnyG P md ops Q T bad (fuel+1) listed a w:=regG_one i hi hr hw h
end
end Go.Proofs.YtchjknbideoieaaGreatDoor
namespace Go.Proofs.YtchjknbideoieaaGreatDoor
set_option maxRecDepth 100000
set_option maxHeartbeats 8000000
open Go.RowKit
section
variable {P:Program} {ops:Array Oper} {Q:Exit→Act→World→Prop} {md:Region.Mode} {S:World→Prop}
theorem reg_skip (i:Nat) {oi:Oper} {r:List Oper} {fuel:Nat} {listed:Array Bool} {a:Act} {w:World} (hi:ops.toList.drop i=oi::r)
  (hs:Region.noSelect ops=true) (hf:Region.free md ops listed i=true) (hr:(Region.ready md ops listed).contains i=true)
  (hQ:∀c a w,Q (.panic c) (a.put oi.dst undef) w→Q (.panic c) a w) (hw:Region.wanted oi (yielded ops a.tmps)=false) (hS:S w)
  (h:wpAnyH P md ops Q S fuel (listed.setIfInBounds i true) (a.put oi.dst undef) w):wpAnyH P md ops Q S (fuel+1) listed a w :=
 wpAnyH_take (get_of_drop hi) hs hf hr hQ (.inr ⟨hw,rfl⟩) hS h
end
end Go.Proofs.YtchjknbideoieaaGreatDoor
