/- What is proved here: the numbers of a slice, told one by one, collected, put in order; a number sought among numbers in order, at this seat's numbers. Conditions: the lists' lengths. -/
import Derived.RangeFuncBox
import Derived.RangeFuncLeaves
import Derived.RangeFuncWrites
import Derived.Shelf.Abstract
import Derived.WalkKit
import Derived.OwnWalkIn
import Derived.TacticsInMore
import Derived.LoopNIn
import Derived.LoopIn
import Derived.Maps.AppendAt
import Derived.Test.YtchjknbideoieaaGreatDoorK16
import Derived.Test.YtchjknbideoieaaGreatDoorK18
namespace Go.Proofs.YtchjknbideoieaaGreatDoor
set_option maxRecDepth 100000
set_option maxHeartbeats 8000000
open Go.RowKit Go.Great Go.Proofs Go.Shelf
attribute [local go_sem] Oper.semAt_some
def u64C (m:UInt64):List Value:=[.int .u64 (m.toNat:Int)]
theorem u64C_length (m:UInt64):(u64C m).length=1:=rfl
theorem infoU:(Tryz.prog.info? 23).map (fun i=>(i.zero,i.size,i.bytes))=some (some (.int .u64 0),1,8):=by kernel_rfl
theorem SG.num {w:World} {B b o n c:Nat} {S:List UInt64} (h:SG u64C 1 w B (.slice (some ⟨b,o,none⟩) n c) S) {k:Nat} (hk:k<S.length):w.cell? ⟨b,o+k,none⟩=some (.int .u64 ((S[k]).toNat:Int)):=by
 obtain⟨b',o',k',e,hb,hr⟩:=h.at_ u64C_length (by omega)
 injection e with e1 _ _
 injection e1 with e1
 injection e1 with e1 e2
 subst e1;subst e2
 have:=hr k hk 0 _ rfl
 simpa using this
theorem kVals_in (n:Nat) (hn:1≤n) (l Bs n₀:Nat) (v:Value) (S:List UInt64) (hS:S.length≤1000000) (J Jx:List UInt64→World→Prop)
  (hY:∀pre x W,J pre W→pre.length<S.length→YieldAt Fence.wide (n-1) Tryz.prog l #[.int .u64 (x.toNat:Int)] W fun e W' =>
   (e=.returned (.bool true)∧J (pre++[x]) W'∧Below n₀ W W')∨(e=.returned (.bool false)∧Jx (pre++[x]) W'))
  (W:World) (hBs:W.cell? ⟨Bs,0,none⟩=some v) (hv:SG u64C 1 W n₀ v S) (h0:J [] W) :
  CallsIn Fence.wide n Tryz.prog 109 #[.func (.yield l) #[] #[],.pointer (some ⟨Bs,0,none⟩)] W fun e W'=>(∃v,e=.returned v) ∧
   ((∃ys,ys=S∧J ys W')∨(∃pre,pre <+: S∧Jx pre W')):=by
 obtain⟨A,c,rfl,hc,hc2⟩:=hv.form
 have HV:=Lib.hid hv
 have HY:=Lib.hid hY
 clear hv hY
 refine callsIn_of_wp Tryz.func109 rfl trivial ?_ rfl
 simp only[Tryz.ntmps109,List.size_toArray,List.length_cons,List.length_nil,Nat.reduceAdd,Nat.reduceSub,Array.replicate_succ,Array.replicate_zero,List.push_toArray,List.append_toArray,List.nil_append,List.cons_append]
 gi_wp2
 gi_loopw [7] (fun i wr=>∃k:Nat,k≤S.length∧i=.int .i64 k∧J (S.take k) wr∧Below n₀ W wr)
  (fun i _=>S.length-(intOf i).toNat)
 case atStart=>exact⟨0,Nat.zero_le _,rfl,by simpa using h0,Below.refl _ _⟩
 case round =>
  obtain⟨k,hk,rfl,hJs,hnx⟩:=hrel
  by_cases hlt:k<S.length
  ·obtain⟨b,o,k',e,hb,_⟩:=HV.out.at_ u64C_length (by omega)
   injection e with e1 _ e3
   subst e1;subst e3
   have hcx:=(hnx.cell (p:=⟨b,o+k,none⟩) hb).trans (HV.out.num hlt)
   obtain⟨x,hx⟩:∃x,x=S[k]:=⟨_,rfl⟩
   rw[←hx] at hcx
   obtain⟨fn,tmps,assign,body,hy,hR⟩:=HY.out (S.take k) x wr hJs (by rw[List.length_take];omega)
   have ht:S.take k++[x]=S.take (k+1):=by rw[hx,List.take_succ_eq_append_getElem hlt]
   rw[ht] at hR
   have HX:=Lib.hid hx
   clear hx ht
   gi_wp2
   refine hR.mono ?_
   rintro e W3 (⟨rfl,hJ3,hk3⟩|⟨rfl,hJx3⟩)
   ·gi_wp2
    go_roundw
    case rel=>exact⟨k+1,by omega,by simp,hJ3,hnx.trans hk3⟩
    case measure=>simp[intOf];omega
   ·gi_wp2
    refine bodyPost_ret (results_none rfl _ _ _) rfl ?_
    exact⟨⟨_,rfl⟩,.inr ⟨_,List.take_prefix _ _,hJx3⟩⟩
  ·gi_wp2
   go_end0
   exact⟨⟨_,rfl⟩,.inl ⟨_,rfl,by rwa [List.take_of_length_le (by omega)] at hJs⟩⟩
theorem kValues_any (A:Option Addr) (len c:Nat) (w:World):Calls Tryz.prog 87 #[.slice A len c] w fun e w'=>e=.returned (.func (.func 109) #[] #[.pointer (some ⟨w.heap.size,0,none⟩)])∧w'=w.alloc (.cells #[.slice A len c] 58):=by
 go_enter Tryz.func87,Tryz.ntmps87
 go_wp2
 go_ret
 exact⟨rfl,rfl⟩
theorem kVals_stops (n:Nat) (hn:1≤n) (Bs n₀:Nat) (v:Value) (S:List UInt64) (hS:S.length≤1000000) (w:World) (hBs:Bs<w.heap.size) (hn₀:n₀≤w.heap.size) (hc:w.cell? ⟨Bs,0,none⟩=some v) (hv:SG u64C 1 w n₀ v S) :
  SeqStopsK Fence.wide n Tryz.prog 109 #[.pointer (some ⟨Bs,0,none⟩)] (fun x:UInt64=>#[Value.int .u64 (x.toNat:Int)]) (Below n₀) (fun ys=>ys=S) (fun pre=>pre <+: S) S.length w:=fun l J Jx W hW _ _ hY h0 =>
 kVals_in n hn l Bs n₀ v S hS J Jx hY W ((hW.cell (p:=⟨Bs,0,none⟩) hBs).trans hc) (hv.keep fun p hp=>hW.cell (by omega)) h0
theorem kAppendSeq_any (v:Value) (S:List UInt64) (Bs:Nat) (w:World) (hS:S.length≤1000000) (hB:w.cell? ⟨Bs,0,none⟩=some v) (hBl:Bs<w.heap.size) (hv:SG u64C 1 w w.heap.size v S) :
  Calls Tryz.prog 125 #[.slice none 0 0,.func (.func 109) #[] #[.pointer (some ⟨Bs,0,none⟩)]] w fun e w'=>∃r,e=.returned r∧OG 23 u64C 1 w' w.heap.size r S∧Below w.heap.size w w':=by
 obtain⟨i0,hi,hz0,hz1,hz2⟩:=info_parts infoU
 refine (callsIn_wide (n:=5)).1 ?_
 refine callsIn_of_wp_marks Tryz.func125 rfl trivial ?_ rfl
 simp only[Tryz.ntmps125,List.size_toArray,List.length_cons,List.length_nil,Nat.reduceAdd,Nat.reduceSub,Array.replicate_succ,Array.replicate_zero,List.push_toArray,List.append_toArray,List.nil_append,List.cons_append]
 gi_wp2
 have bO:=Boxed.new w 58 (.slice none 0 0)
 have hB0:Below w.heap.size w (w.alloc (.cells #[.slice none 0 0] 58)):=balloc (bself w) _
 have hflat:∀pre:List UInt64,pre.flatMap u64C=pre.map (fun x=>Value.int .u64 (x.toNat:Int)):=fun pre=>by
  induction pre with
  | nil=>rfl
  | cons x t ih=>rw[List.flatMap_cons,List.map_cons,ih];rfl
 have HF:=Lib.hid hflat
 clear hflat
 refine wpIn_rangeFunc_ownG rfl (by omega) (gf:=109) (lb:=#[.pointer (some ⟨Bs,0,none⟩)]) rfl trivial (enters_of Tryz.func109 (by kernel_rfl) rfl)
  (kVals_stops (5-1) (by omega) Bs w.heap.size v S hS (w.alloc (.cells #[.slice none 0 0] 58)) (by simp;omega) (by simp) ((World.cell?_alloc_lt w _ ⟨Bs,0,none⟩ hBl).trans hB) (hv.alloc (Nat.le_refl _) _)) belowK_t (belowK_b (by simp)) (Below.refl _ _) (fun _=>rfl)
  (fun pre W=>(∃v,Boxed W w.heap.size 58 v∧W.ownsRow w.heap.size 23 1 v pre.length (pre.map (fun x=>Value.int .u64 (x.toNat:Int)))∧True)∧Below w.heap.size w W)
  (fun _ _ _=>False)
  (OwnFrom.and (Own.from (holdsRow_own w.heap.size w.heap.size 58 23 1 (fun pre:List UInt64=>pre.length) (fun pre=>pre.map (fun x=>Value.int .u64 (x.toNat:Int))) (fun _ _=>True)) _) (ownFrom_below (Nat.le_refl _) (by simp)))
  (fun _ _ _ _ _ hs _ _=>hs)
  ⟨⟨_,bO,World.ownsRow_nil _ _ _ _,trivial⟩,hB0⟩
  (fun x=>{ tmps:=#[.slice none 0 0,.func (.func 109) #[] #[.pointer (some ⟨Bs,0,none⟩)],.pointer (some ⟨w.heap.size,0,none⟩),undef,.slice none 0 0,.int .u64 (x.toNat:Int),.func (.func 109) #[] #[.pointer (some ⟨Bs,0,none⟩)],.int .u64 (x.toNat:Int),undef,undef,undef,undef,undef],defers:=[] }) ?assign ?body ?done ?stop
 case assign =>
  intro l x W K hK
  gi_wp2
  exact hK
 case body =>
  rintro l pre x W ⟨⟨v,hv,hrow,_⟩,hB⟩ hlt
  have hc:=hv.cell
  gi_wp2_with (gi_at_builtin;refine wpListIn_append_own _ rfl _ _ 58 rfl w.heap.size 23 i0 (.int .u64 0) 1 8 Tryz.underlying58 hi hz0 hz1 hz2 rfl (by decide) _ _ _ rfl (hrow.alloc _) ⟨W.heap.size,0,none⟩ 1 1 [.int .u64 (x.toNat:Int)] rfl rfl (cell_one_new _ _ _) (by simp[Value.oneCell']) (by simp[maxLen];omega) (by omega) (by have:=hB.size;simp;omega) ?_;intro v' w1 hown' hgrow _;obtain⟨g',cap',rfl⟩:=ownsRow_succ hown';obtain⟨hv1,hv2,hr2,hk2,hb2⟩:=hv.appended (by decide) hrow hB.size (Nat.le_refl _) hown' hgrow;have hc1:=hv1.cell;have hf1:=hv1.frozen)
  exact⟨hk2.from _,hb2,⟨_,hv2,by simpa using hr2,trivial⟩,hB.trans hb2⟩
 case done =>
  rintro D ys W hD rfl ⟨⟨v,hv,hrow,_⟩,hB⟩ hK
  have hc:=hv.cell
  gi_wp2
  refine⟨by simp,.inl ⟨_,_,rfl,run_takeDeferred hK,?_⟩⟩
  refine⟨_,results_tmp rfl _ _ _,v,rfl,?_,hB.trans (belowK_b (w:=w) (Nat.le_refl _) W D _ _ (by simp at hD;omega) hK rfl rfl)⟩
  unfold OG
  rw[HF.out]
  exact ownsRow_putObj hrow _ hK rfl
 case stop =>
  rintro D c pre W _ _ h _
  exact h.elim
end Go.Proofs.YtchjknbideoieaaGreatDoor
