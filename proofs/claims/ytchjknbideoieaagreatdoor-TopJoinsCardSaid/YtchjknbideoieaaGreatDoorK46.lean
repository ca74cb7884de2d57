/- What is proved here: version.Right finds a state with one level of fitting tables right, at this seat's numbers. Conditions: they fit, their numbers are unlike, each stands ahead of the next one. version.Apply lays a list of fitting tables into an empty state; what Overlap and Lookup tell of that state, at this seat's numbers. Conditions: the tables fit. what Overlap and .. -/
import Derived.Test.YtchjknbideoieaaGreatDoorK32
import Derived.Test.YtchjknbideoieaaGreatDoorK23
import Derived.Test.YtchjknbideoieaaGreatDoorK45
namespace Go.Proofs.YtchjknbideoieaaGreatDoor
set_option maxRecDepth 100000
set_option maxHeartbeats 8000000
open Go.RowKit Go.Great Go.Proofs
structure MsOk (N:Nat) (ms:List Md):Prop where
 len:ms.length≤1000
 fit:∀x∈ms,FitM N x.1
 uniq:ms.Pairwise (fun x y=>x.1.n≠y.1.n)
 up:∀i (h:i+1<ms.length),ltB ms[i].1.mx.toList ms[i+1].1.mn.toList=true
theorem MsOk.nil_ (N:Nat):MsOk N []:=⟨by simp,fun x hx=>by (cases hx),List.Pairwise.nil,fun i h=>by simp at h⟩
structure RtAt (w wr:World) (Bm N:Nat) (v:Value) (L:List (Nat × Value)):Prop where
 b:Below w.heap.size w wr
 s:wr.heap[w.heap.size]? = some (.cells (stC v N).toArray 40 (0,0))
 m:MapU wr Bm L
theorem RtAt.on {w wr w':World} {Bm N:Nat} {v:Value} {L:List (Nat × Value)} (h:RtAt w wr Bm N v L) (hb:Below wr.heap.size wr w'):RtAt w w' Bm N v L :=
 ⟨bstep h.b hb,(hb.block _ (Array.getElem?_eq_some_iff.1 h.s).1).trans h.s,h.m.on hb⟩
theorem mdC_one (X:Md):∀v∈mdC X,v.oneCell'=true:=by
 intro v hv
 unfold mdC mtC at hv
 rcases List.mem_append.1 hv with h|h
 ·simp only[List.mem_cons,List.not_mem_nil,or_false] at h
  rcases h with h|h|h|h|h|h|h|h <;> (rw[h];rfl)
 ·exact bv_one _ v h
theorem exec_lookU {o:Oper} {a:Act} {w:World} {v:Value} (t:TypeId) (m x:Operand) (ho:o.op=.lookup t m x false) (b n:Nat) (hm:a.eval m=.map (some b)) (hx:a.eval x=.int .u64 (n:Int)) (hr:(Instr.lookup t (.map (some b)) (.int .u64 (n:Int)) false).run Tryz.prog w=.ok v w):(execOp a.eval o).run Tryz.prog w=.ok (.value v) w:=by
 unfold execOp
 simp only[ho,hm,hx,Sem.run_bind,Sem.run_pure,Result.andThen_ok,hr]
end Go.Proofs.YtchjknbideoieaaGreatDoor
namespace Go.Proofs.YtchjknbideoieaaGreatDoor
set_option maxRecDepth 100000
set_option maxHeartbeats 8000000
open Go.RowKit Go.Great Go.Proofs
theorem infoMdz:(Tryz.prog.info? 55).map (fun i=>(i.zero,i.size,i.bytes))=some (some (.agg ([Value.int .u8 0,.int .u64 0,.int .u64 0,.int .u64 0,.int .i64 0,.int .i64 0,.string .empty,.string .empty]++bv (List.replicate 32 0)).toArray),40,112):=by kernel_rfl
structure AptAt (w wr:World) (X N:Nat) (v:Value) (L:List Md):Prop where
 b:Below X w wr
 x:wr.heap[X]? = some (.cells (stC v N).toArray 40 (0,0))
 o:OG 55 mdC 40 wr (X+1) v L
theorem AptAt.on {w wr w':World} {X N:Nat} {v:Value} {L:List Md} (h:AptAt w wr X N v L) (hb:Below wr.heap.size wr w'):AptAt w w' X N v L:=by
 have hl:=(Array.getElem?_eq_some_iff.1 h.x).1
 exact⟨h.b.trans (hb.mono (by omega)),(hb.block _ hl).trans h.x,h.o.below hb (Nat.le_refl _)⟩
theorem stC_set1 (v u:Value) (N:Nat):(stC v N).toArray.setIfInBounds 1 u=(stC u N).toArray:=rfl
theorem AptAt.set1 {w wr w':World} {X N:Nat} {v v':Value} {L L':List Md} (h:AptAt w wr X N v L) (hb:Below (X+1) wr w') (ho:OG 55 mdC 40 w' (X+1) v' L'):AptAt w (w'.setCell ⟨X,1,none⟩ v') X N v' L':=by
 refine⟨(h.b.trans (hb.mono (by omega))).setCell (Nat.le_refl _) _,?_,ho.grown (grown_set w' (g:=X) rfl v') ?_⟩
 ·have hx:=(hb.block X (by omega)).trans h.x
  simp only[World.setCell,Array.getElem?_modify,hx]
  simp only[if_true,Option.map_some,Option.isSome_none,Bool.false_eq_true,if_false]
  rw[stC_set1]
 ·rcases e:v'.ownBlock with _|j
  ·exact .inl rfl
  ·refine .inr fun e2=>?_
   injection e2 with e2
   have:=(ho.lt j e).1
   omega
theorem grown_cell {w w1:World} {row:Option Nat} (hg:w.grownBy w1 row) {g:Nat} (hl:g<w.heap.size) (hne:some g≠row) (k:Nat):w1.cell? ⟨g,k,none⟩=w.cell? ⟨g,k,none⟩∧w1.frozen? ⟨g,k,none⟩=w.frozen? ⟨g,k,none⟩:=by
 have h:=hg.block g hl hne
 exact⟨World.cell?_of_block (a:=⟨g,k,none⟩) h,by simp only[World.frozen?,h]⟩
end Go.Proofs.YtchjknbideoieaaGreatDoor
namespace Go.Proofs.YtchjknbideoieaaGreatDoor
set_option maxRecDepth 100000
set_option maxHeartbeats 8000000
open Go.RowKit Go.Great Go.Proofs
def hasM (u:ByteArray) (x:Md):Bool:=!ltB x.1.mx.toList u.toList&&!ltB u.toList x.1.mn.toList
section
variable {α:Type} {f:α→List Value} {c:Nat}
variable {ops:Array Oper} {rest:List Oper} {o:Oper} {a:Act} {Q:Exit→Act→World→Prop} {w:World}
theorem wl_appG (hgd:Region.wanted o (yielded ops a.tmps)=true) (ts t:TypeId) (z:Value) (by_:Nat) (hinf:(Tryz.prog.info? t).map (fun i=>(i.zero,i.size,i.bytes))=some (some z,c,by_)) (hut:Tryz.prog.underlying ts=some (.slice t)) (hzs:z.cells.size=c) (hc0:0<c) (s x:Operand)
  (ho:o.op=.call { callee:=.builtin .append,args:=#[s,x],argTypes:=#[ts,ts] })
  (base:Nat) (v:Value) (l:List α) (hs:a.eval s=v) (hown:OG t f c w base v l)
  (B:Nat) (u:Value) (m:List α) (h1:∀x∈m,∀u∈f x,u.oneCell'=true) (hx:a.eval x=u) (hr:SG f c w B u m) (hlen:l.length+m.length≤maxLen) (hby:(l.length+m.length)*by_≤140737488355328) (hbase:base≤w.heap.size)
  (h:∀v' w',OG t f c w' base v' (l++m)→w.grownBy w' v.ownBlock→(v'.ownBlock=v.ownBlock∨v'.ownBlock=some w.heap.size)→Below base w w'→wpList Tryz.prog ops Q rest (a.put o.dst v') w'):wpList Tryz.prog ops Q (o::rest) a w :=
 wl_of hgd fun _K hK=>wp_appG ts t z by_ hinf hut hzs hc0 s x ho base v l hs hown B u m h1 hx hr hlen hby hbase fun v' w' a b c d=>hK _ _ (h v' w' a b c d)
theorem wl_buildG (hgd:Region.wanted o (yielded ops a.tmps)=true) (ts t:TypeId) (zl:Array Value) (by_:Nat) (hinf:(Tryz.prog.info? t).map (fun i=>(i.zero,i.size,i.bytes))=some (some (.agg zl),c,by_)) (hut:Tryz.prog.underlying ts=some (.slice t)) (hc0:0<c) (hc1:c≤1000) (hby:by_≤1000) (x:Operand) (ho:o.op=.buildSlice ts 1 #[(0,x)]) (cs:Array Value) (hx:a.eval x=.agg cs) (hc:cs.size=c)
  (h:wpList Tryz.prog ops Q rest (a.put o.dst (.slice (some ⟨w.heap.size,0,none⟩) 1 1)) (w.alloc (.cells cs t))):wpList Tryz.prog ops Q (o::rest) a w :=
 wl_of hgd fun _K hK=>wp_buildG ts t zl by_ hinf hut hc0 hc1 hby x ho cs hx hc (hK _ _ h)
end
end Go.Proofs.YtchjknbideoieaaGreatDoor
