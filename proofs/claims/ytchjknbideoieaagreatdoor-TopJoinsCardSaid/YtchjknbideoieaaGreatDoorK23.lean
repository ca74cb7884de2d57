/- What is proved here: a map from numbers in memory: looked up, a new key laid. No condition. -/
import Derived.Test.YtchjknbideoieaaGreatDoorK06
import Derived.MapKept
import Derived.Maps.Own
namespace Go.Proofs.YtchjknbideoieaaGreatDoor
set_option maxRecDepth 100000
set_option maxHeartbeats 8000000
open Go.RowKit Go.ChangeMaps Go.MapKept
def MapU (w:World) (b:Nat) (L:List (Nat × Value)):Prop:=∃es clock,w.heap[b]? = some (.map es clock)∧es.toList.map (fun e=>(e.key,e.val))=L.map (fun p=>(Value.int .u64 (p.1:Int),p.2))
section
variable {P:Program} {w w':World} {b:Nat} {L:List (Nat × Value)}
theorem MapU.new (w:World):MapU (w.alloc (.map #[] 0)) w.heap.size []:=⟨#[],0,heap_alloc_new w _,rfl⟩
theorem MapU.lt (h:MapU w b L):b<w.heap.size:=by
 obtain⟨_,_,h,_⟩:=h
 exact (Array.getElem?_eq_some_iff.1 h).1
theorem MapU.blk (h:MapU w b L) (hb:w'.heap[b]? = w.heap[b]?):MapU w' b L:=by
 obtain⟨es,c,h1,h2⟩:=h
 exact⟨es,c,hb.trans h1,h2⟩
theorem MapU.on (h:MapU w b L) (hb:Below w.heap.size w w'):MapU w' b L:=h.blk (hb.block b h.lt)
theorem MapU.alloc (h:MapU w b L) (o:Obj):MapU (w.alloc o) b L:=h.on (balloc (bself w) o)
theorem key_at {es:List MapEntry} (h:es.map (fun e=>(e.key,e.val))=L.map (fun p=>(Value.int .u64 (p.1:Int),p.2))) {j:Nat} {e:MapEntry} (hj:es[j]? = some e):∃p,L[j]? = some p∧e.key=.int .u64 (p.1:Int)∧e.val=p.2:=by
 have h1:=congrArg (fun l=>l[j]?) h
 simp only[List.getElem?_map,hj,Option.map_some] at h1
 cases hp:L[j]? with
 | none=>rw[hp] at h1;simp at h1
 | some p =>
  rw[hp] at h1
  simp only[Option.map_some,Option.some.injEq,Prod.mk.injEq] at h1
  exact⟨p,rfl,h1.1,h1.2⟩
theorem keys_are {es:List MapEntry} (h:es.map (fun e=>(e.key,e.val))=L.map (fun p=>(Value.int .u64 (p.1:Int),p.2))):∀x∈es,IsKey (.int .u64) x.key:=by
 intro x hx
 obtain⟨j,hj,rfl⟩:=List.getElem_of_mem hx
 obtain⟨p,_,e,_⟩:=key_at h (List.getElem?_eq_getElem hj)
 rw[e]
 rfl
theorem MapU.look (h:MapU w b L) {t k e:TypeId} (ht:P.underlying t=some (.map k e)) (hk:P.underlying k=some (.int .u64)) (n:Nat) (v:Value) (hn:∀p∈L,p.1=n→p.2=v) (hv:∃p∈L,p.1=n):(Instr.lookup t (.map (some b)) (.int .u64 (n:Int)) false).run P w=.ok v w:=by
 obtain⟨es,c,hb,hl⟩:=h
 have hK:IsKey (.int .u64) (.int .u64 (n:Int)):=rfl
 rcases findNow_spec hK es.toList 0 (keys_are hl) with ⟨_,h2⟩|⟨j,e',h1,h2,h3⟩
 ·obtain⟨p,hp,e1⟩:=hv
  obtain⟨j,hj,rfl⟩:=List.getElem_of_mem hp
  have hlen:=congrArg List.length hl
  simp only[List.length_map] at hlen
  have hj2:j<es.toList.length:=by omega
  obtain⟨p',hp',e2,_⟩:=key_at hl (List.getElem?_eq_getElem hj2)
  rw[List.getElem?_eq_getElem hj] at hp'
  injection hp' with hp'
  exact absurd (by rw[e2,←hp',e1]) (h2 _ (List.getElem_mem hj2))
 ·obtain⟨p,hp,e1,e2⟩:=key_at hl h2
  rw[h3] at e1
  injection e1 with _ e1
  have:=hn p (List.mem_of_getElem? hp) (by omega)
  rw[e2,this] at h1
  simp[Instr.lookup,run_underlying ht,Go.MapKept.run_getObj_map hb,run_checkKey hk hK,run_findKey hk h1,Result.andThen]
theorem MapU.put (h:MapU w b L) {t k e:TypeId} (ht:P.underlying t=some (.map k e)) (hk:P.underlying k=some (.int .u64)) (n:Nat) (v:Value) (hn:∀p∈L,p.1≠n):∃w',(Instr.mapUpdate t (.map (some b)) (.int .u64 (n:Int)) v).run P w=.ok () w'∧MapU w' b (L++[(n,v)])∧w.grownBy w' (some b):=by
 obtain⟨es,c,hb,hl⟩:=h
 have hK:IsKey (.int .u64) (.int .u64 (n:Int)):=rfl
 rcases findNow_spec hK es.toList 0 (keys_are hl) with ⟨h1,_⟩|⟨j,e',_,h2,h3⟩
 ·refine⟨setBlock w b (.map (es.push { key:=.int .u64 (n:Int),val:=v,born:=c }) (c+1)),?_,⟨_,_,heap_setBlock_same hb _,by simp[hl]⟩,⟨rfl,rfl,rfl,by simp[setBlock],fun i _ hi=>heap_setBlock_other hb _ (fun e=>hi (by rw[e]))⟩⟩
  simp[Instr.mapUpdate,run_underlying ht,Go.MapKept.run_getObj_map hb,run_checkKey hk hK,run_findKey hk h1,Go.MapKept.run_setObj_map _ hb,Result.andThen,setBlock]
 ·obtain⟨p,hp,e1,_⟩:=key_at hl h2
  rw[h3] at e1
  injection e1 with _ e1
  exact absurd (by omega) (hn p (List.mem_of_getElem? hp))
end
section
variable {P:Program} {ops:Array Oper} {rest:List Oper} {o:Oper} {a:Act} {Q:Exit→Act→World→Prop} {w:World}
theorem wl_mapU (hgd:Region.wanted o (yielded ops a.tmps)=true) (m x v:Operand) (t:TypeId) (hop:o.op=Op.mapUpdate t m x v) {k e:TypeId} (ht:P.underlying t=some (.map k e)) (hk:P.underlying k=some (.int .u64))
  (b:Nat) (L:List (Nat × Value)) (hm:a.eval m=.map (some b)) (hown:MapU w b L) (n:Nat) (hx:a.eval x=.int .u64 (n:Int)) (val:Value) (hv:a.eval v=val) (hn:∀p∈L,p.1≠n)
  (h:∀w',MapU w' b (L++[(n,val)])→w.grownBy w' (some b)→wpList P ops Q rest (a.put o.dst undef) w'):wpList P ops Q (o::rest) a w:=by
 refine wl_of hgd fun K hK=>?_
 obtain⟨w',hrun,r1,r2⟩:=hown.put ht hk n val hn
 unfold Oper.wp
 simp[execOp,hop,hm,hx,hv,hrun,Result.andThen]
 exact hK _ _ (h w' r1 r2)
end
end Go.Proofs.YtchjknbideoieaaGreatDoor
