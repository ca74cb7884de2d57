/- What is proved here: digests as values, lists of digests in memory (read, owned, appended to, one loaded or stored), at this seat's numbers. No condition. lists of structs in memory, whatever their cells (f x: an element's cells, c of them): read, owned, appended to, cut, one loaded. No condition. -/
import Derived.Test.YtchjknbideoieaaGreatDoorK13
import Derived.Test.YtchjknbideoieaaGreatDoorK12
import Derived.Great.BuildSlice
import Derived.Deep.MidRow
namespace Go.Proofs.YtchjknbideoieaaGreatDoor
set_option maxRecDepth 100000
set_option maxHeartbeats 8000000
open Go.RowKit Go.Great
abbrev Dg:={l:List UInt8 // l.length=32}
def dcs (l:List Dg):List Value:=l.flatMap (fun d=>bv d.1)
theorem dbv_len (d:Dg):(bv d.1).length=32:=by rw[bv_length,d.2]
theorem dcs_length (l:List Dg):(dcs l).length=l.length*32:=flat_length _ 32 dbv_len l
theorem dcs_append (l m:List Dg):dcs (l++m)=dcs l++dcs m:=by simp[dcs]
theorem dcs_one (d:Dg):dcs [d]=bv d.1:=by simp[dcs]
theorem dcs_take (l:List Dg):∀k,dcs (l.take k)=(dcs l).take (k*32):=by
 induction l with
 | nil=>intro k;simp[dcs]
 | cons d l ih =>
  intro k
  cases k with
  | zero=>simp[dcs]
  | succ k =>
   have e:dcs (d::l)=bv d.1++dcs l:=by simp[dcs]
   have e2:dcs (d::l.take k)=bv d.1++dcs (l.take k):=by simp[dcs]
   have e3:(k+1)*32=(bv d.1).length+k*32:=by rw[dbv_len];omega
   rw[List.take_succ_cons,e,e2,ih k,e3,List.take_length_add_append]
theorem dcs_drop (l:List Dg):∀k,dcs (l.drop k)=(dcs l).drop (k*32):=by
 induction l with
 | nil=>intro k;simp[dcs]
 | cons d l ih =>
  intro k
  cases k with
  | zero=>simp[dcs]
  | succ k =>
   have e:dcs (d::l)=bv d.1++dcs l:=by simp[dcs]
   have e3:(k+1)*32=(bv d.1).length+k*32:=by rw[dbv_len];omega
   rw[List.drop_succ_cons,e,ih k,e3,List.drop_length_add_append]
theorem dcs_one' (l:List Dg):∀u∈dcs l,u.oneCell'=true:=by
 intro u hu
 obtain⟨d,_,hd⟩:=List.mem_flatMap.1 hu
 exact bv_one d.1 u hd
theorem dgA_n (d:Dg):(dgA d.1).size=32:=by rw[dgA_size,d.2]
theorem infoD:(Tryz.prog.info? 53).map (fun i=>(i.zero,i.size,i.bytes))=some (some (.agg (dgA (List.replicate 32 0))),32,32):=by kernel_rfl
def SD (w:World) (B:Nat) (v:Value) (l:List Dg):Prop:=Sl w B 32 v l.length (dcs l)
section
variable {w w':World} {B B':Nat} {v:Value} {l:List Dg}
theorem SD.nil_ (w:World) (B:Nat):SD w B (.slice none 0 0) []:=Sl.nil_ w B 32
theorem SD.more (h:SD w B v l) (hB:B≤B'):SD w B' v l:=Sl.more h hB
theorem SD.below (h:SD w B v l) (hb:Below B w w'):SD w' B v l:=Sl.below h hb
theorem SD.alloc (h:SD w B v l) (hB:B≤w.heap.size) (o:Obj):SD (w.alloc o) B v l:=Sl.alloc h hB o
theorem SD.drew (h:SD w B v l):SD w.drew B v l:=h
theorem SD.drewN (h:SD w B v l) (k:Nat):SD (w.drewN k) B v l:=h
theorem SD.grown (h:SD w B v l) {row:Option Nat} (hg:w.grownBy w' row) (hB:B≤w.heap.size) (hr:∀g,row=some g→B≤g):SD w' B v l:=Sl.grown h hg hB hr
theorem SD.on (h:SD w w.heap.size v l) (hb:Below w.heap.size w w'):SD w' w'.heap.size v l:=(h.below hb).more hb.size
theorem SD.form (h:SD w B v l):∃A c,v=.slice A l.length c∧l.length≤c∧c≤9223372036854775807:=by
 obtain⟨A,c,e,h1,h2,_⟩:=h
 exact⟨A,c,e,h1,by unfold maxLen at h2;omega⟩
theorem SD.at_ (h:SD w B v l) (h0:0<l.length):∃b o c,v=.slice (some ⟨b,o,none⟩) l.length c∧b<B∧∀k (hk:k<l.length),w.rangeAt b (o+k*32) (bv (l[k]'hk).1):=by
 obtain⟨A,c,e,h1,h2,hr⟩:=h
 obtain⟨b,o,rfl,hb,_⟩:=hr.at_ h0
 refine⟨b,o,c,e,hb,fun k hk j u hu=>?_⟩
 obtain⟨b',o',e',_,hcell⟩:=Rd.elem (f:=fun d:Dg=>bv d.1) hr dbv_len rfl hk
 injection e' with e'
 injection e' with e1 e2
 subst e1;subst e2
 have hj:=(List.getElem?_eq_some_iff.1 hu).1
 rw[dbv_len] at hj
 have:=hcell j u hj hu
 rw[←Nat.add_assoc] at this
 exact this
theorem SD.cut (h:SD w B v l) {k:Nat} (hk:k≤l.length) {A:Option Addr} {n c:Nat} (hv:v=.slice A n c):SD w B (.slice (if c=k then A else A.map (·.add (k*32))) (n-k) (c-k)) (l.drop k):=by
 obtain⟨A',c',e,h1,h2,hr⟩:=id h
 rw[hv] at e
 injection e with e1 e2 e3
 subst e1;subst e2;subst e3
 have:=Sl.cut h hk hv
 unfold SD
 rw[List.length_drop,dcs_drop]
 exact this
theorem SD.take (h:SD w B v l) {k:Nat} (hk:k≤l.length) {A:Option Addr} {n c:Nat} (hv:v=.slice A n c):SD w B (.slice A k c) (l.take k):=by
 obtain⟨A',c',e,h1,h2,hr⟩:=id h
 rw[hv] at e
 injection e with e1 e2 e3
 subst e1;subst e2;subst e3
 have:=Sl.take h hk hv
 unfold SD
 rw[List.length_take,Nat.min_eq_left hk,dcs_take]
 exact this
end
def OD (w:World) (base:Nat) (v:Value) (l:List Dg):Prop:=w.ownsRow base 53 32 v l.length (dcs l)
section
variable {w w':World} {B base base':Nat} {v:Value} {l:List Dg}
theorem OD.nil_ (w:World) (base:Nat):OD w base (.slice none 0 0) []:=World.ownsRow_nil w base 53 32
theorem OD.below (h:OD w base v l) (hb:Below B w w') (hB:w.heap.size≤B):OD w' base v l:=own_below h hb hB
theorem OD.drewN (h:OD w base v l) (k:Nat):OD (w.drewN k) base v l:=h
theorem OD.alloc (h:OD w base v l) (o:Obj):OD (w.alloc o) base v l:=World.ownsRow.alloc h o
theorem OD.rebase (h:OD w base v l) (hB:base'≤base):OD w base' v l:=own_base h hB
theorem OD.sd (h:OD w base v l):SD w w.heap.size v l:=Sl.of_own h
theorem OD.lt (h:OD w base v l):∀k,v.ownBlock=some k→base≤k∧k<w.heap.size:=World.ownsRow.lt h
theorem OD.grown (h:OD w base v l) {row:Option Nat} (hg:w.grownBy w' row) (hne:v.ownBlock=none∨v.ownBlock≠row):OD w' base v l:=World.ownsRow.kept h hg hne
theorem OD.form0 (h:OD w base v l) (hl:0<l.length):∃g c,v=.slice (some ⟨g,0,none⟩) l.length c:=by
 obtain⟨h1,h2⟩:=h
 rcases h2 with ⟨_,e⟩|⟨g',cap,cur,e1,_⟩
 ·omega
 ·exact⟨g',cap,e1⟩
theorem OD.pop {A:Option Addr} {n c m:Nat} (h:OD w base (.slice A n c) l) (hl:0<l.length) (hm:m=l.length-1):OD w base (.slice A m c) l.dropLast:=by
 subst hm
 obtain⟨h1,h2⟩:=h
 have hd:l.dropLast.length=l.length-1:=List.length_dropLast
 unfold OD
 rw[hd]
 refine⟨by rw[dcs_length,hd],?_⟩
 rcases h2 with ⟨_,e⟩|⟨g',cap,cur,e1,e2,e3,e4,e5,e6,e7⟩
 ·omega
 ·injection e1 with e1 _ e8
  subst e1;subst e8
  refine .inr ⟨g',c,cur,rfl,e2,e3,by omega,e5,e6,?_⟩
  rw[List.dropLast_eq_take,dcs_take,←e7,List.take_take,Nat.min_eq_left (Nat.mul_le_mul_right _ (by omega))]
end
section
variable {ops:Array Oper} {rest:List Oper} {o:Oper} {a:Act} {K:Act→World→Prop} {Q:Exit→Act→World→Prop} {w:World} {E:Prop}
theorem wp_appD (s x:Operand)
  (ho:o.op=.call { callee:=.builtin .append,args:=#[s,x],argTypes:=#[113,113] })
  (base:Nat) (v:Value) (l:List Dg) (hs:a.eval s=v) (hown:OD w base v l)
  (B:Nat) (u:Value) (m:List Dg) (hx:a.eval x=u) (hr:SD w B u m) (hlen:(l.length+m.length)*32≤140737488355328) (hbase:base≤w.heap.size)
  (h:∀v' w',OD w' base v' (l++m)→w.grownBy w' v.ownBlock→(v'.ownBlock=v.ownBlock∨v'.ownBlock=some w.heap.size)→Below base w w'→K (a.put o.dst v') w'):o.wp Tryz.prog a w K Q:=by
 obtain⟨i0,hi0,hz0,hz1,hz2⟩:=info_parts infoD
 refine wp_app w s x 113 ho base 53 i0 _ 32 32 Tryz.underlying113 hi0 hz0 hz1 hz2 (by rfl) (by omega) v l.length (dcs l) hs hown B m.length u (dcs m) hx hr (dcs_one' m) (by simp only[maxLen];omega) (Fits.of _ _ _ hlen) hbase ?_
 intro v' w' h1 h2 h3 h4
 refine h v' w' ?_ h2 h3 h4
 unfold OD
 rw[List.length_append,dcs_append]
 exact h1
theorem SD.new1 (w:World) (d:Dg) {g B:Nat} (hg:g=w.heap.size) (hB:g<B):SD (w.alloc (.cells (dgA d.1) 53)) B (.slice (some ⟨g,0,none⟩) 1 1) [d]:=by
 refine⟨_,_,rfl,by simp,by simp[maxLen],?_⟩
 have h:=Rd.newBlock (size:=32) w (dgA d.1) 53 hg hB (n:=1) (by rw[dgA_n])
 rw[dcs_one]
 simpa using h
theorem wl_appD1 (hgd:Region.wanted o (yielded ops a.tmps)=true) (s x:Operand)
  (ho:o.op=.call { callee:=.builtin .append,args:=#[s,x],argTypes:=#[113,113] })
  (base:Nat) (v:Value) (l:List Dg) (hs:a.eval s=v) (hown:OD w base v l)
  (d:Dg) (z:Array Value) (hz:z=dgA d.1) {g:Nat} (hg:g=w.heap.size) (hx:a.eval x=.slice (some ⟨g,0,none⟩) 1 1) (hlen:(l.length+1)*32≤140737488355328) (hbase:base≤w.heap.size)
  (h:∀v' w',OD w' base v' (l++[d])→w.grownBy w' v.ownBlock→(v'.ownBlock=v.ownBlock∨v'.ownBlock=some (w.heap.size+1))→Below base w w'→wpList Tryz.prog ops Q rest (a.put o.dst v') w'):wpList Tryz.prog ops Q (o::rest) a (w.alloc (.cells z 53)):=by
 subst hz
 refine wl_of hgd fun K hK=>wp_appD s x ho base v l hs (hown.alloc _) (w.heap.size+1) _ [d] hx (SD.new1 w d hg (by omega)) hlen (by simp;omega) ?_
 intro v' w' h1 h2 h3 h4
 have ha:w.grownBy (w.alloc (.cells (dgA d.1) 53)) v.ownBlock:=World.grownBy_alloc w _ _
 exact hK _ _ (h v' w' h1 (ha.trans h2) (by simpa using h3) (((Below.refl _ _).alloc hbase _).trans h4))
theorem fill1 (c:Array Value) (hc:c.size=32):Instr.fill (fun i=>some (i*32,32)) ((Array.range (1*32)).map ((dgA (List.replicate 32 0))[·%(dgA (List.replicate 32 0)).size]!)) [(0,.agg c)]=some c:=by
 have h:=fill_whole (s:=32) (by omega) [.agg c] ((Array.range (1*32)).map ((dgA (List.replicate 32 0))[·%(dgA (List.replicate 32 0)).size]!)) (fun v hv=>by simp at hv;subst hv;exact hc) (by simp)
 rw[show [(0,Value.agg c)]=(([Value.agg c].zipIdx 0).map fun x=>(x.2,x.1)) from rfl,h]
 simp[Value.cells]
theorem wl_buildD (hgd:o.guard=none) (x:Operand) (ho:o.op=.buildSlice 113 1 #[(0,x)]) (c:Array Value) (hx:a.eval x=.agg c) (hc:c.size=32)
  (h:wpList Tryz.prog ops Q rest (a.put o.dst (.slice (some ⟨w.heap.size,0,none⟩) 1 1)) (w.alloc (.cells c 53))):wpList Tryz.prog ops Q (o::rest) a w:=by
 obtain⟨i0,hi0,hz0,hz1,hz2⟩:=info_parts infoD
 refine wpList_buildSlice hgd 113 53 1 _ ho c i0 _ Tryz.underlying113 hi0 hz0 (by rw[hz1];decide) (by rw[hz1];decide) ?_ h
 rw[hz1]
 simp only[List.map_toArray,List.map_cons,List.map_nil,hx]
 exact fill1 c hc
theorem wp_buildD (x:Operand) (ho:o.op=.buildSlice 113 1 #[(0,x)]) (c:Array Value) (hx:a.eval x=.agg c) (hc:c.size=32)
  (h:K (a.put o.dst (.slice (some ⟨w.heap.size,0,none⟩) 1 1)) (w.alloc (.cells c 53))):o.wp Tryz.prog a w K Q:=by
 obtain⟨i0,hi0,hz0,hz1,hz2⟩:=info_parts infoD
 refine wp_buildSlice 113 53 1 _ ho c i0 _ Tryz.underlying113 hi0 hz0 (by rw[hz1];decide) (by rw[hz1];decide) ?_ h
 rw[hz1]
 simp only[List.map_toArray,List.map_cons,List.map_nil,hx]
 exact fill1 c hc
theorem wl_loadM (hgd:o.guard=none) (x:Operand) (ho:o.op=.load 53 x) (b off:Nat) (hx:a.eval x=.pointer (some ⟨b,off,none⟩)) (d:Dg) (hc:w.rangeAt b off (bv d.1))
  (h:wpList Tryz.prog ops Q rest (a.put o.dst (.agg (dgA d.1))) w):wpList Tryz.prog ops Q (o::rest) a w :=
 wpList_load_mid hgd 53 x ho b off hx (bv d.1) _ hc Tryz.underlying53 rfl (by rw[dbv_len];kernel_rfl) h
theorem exec_loadM (x:Operand) (ho:o.op=.load 53 x) (b off:Nat) (hx:a.eval x=.pointer (some ⟨b,off,none⟩)) (d:Dg) (hc:w.rangeAt b off (bv d.1)) :
  (execOp a.eval o).run Tryz.prog w=.ok (.value (.agg (dgA d.1))) w:=by
 unfold execOp
 simp only[ho,hx,Sem.run_bind,Sem.run_pure,Result.andThen_ok,run_loadAt_mid w b off 53 (bv d.1) _ hc Tryz.underlying53 rfl (by rw[dbv_len];kernel_rfl)]
end
theorem range_below {w w':World} {B b o:Nat} {l:List Value} (h:w.rangeAt b o l) (hb:Below B w w') (hB:b<B):w'.rangeAt b o l:=fun j v hv=>(hb.cell (p:=⟨b,o+j,none⟩) hB).trans (h j v hv)
end Go.Proofs.YtchjknbideoieaaGreatDoor
namespace Go.Proofs.YtchjknbideoieaaGreatDoor
set_option maxRecDepth 100000
set_option maxHeartbeats 8000000
open Go.RowKit Go.Great
def SG {α:Type} (f:α→List Value) (c:Nat) (w:World) (B:Nat) (v:Value) (l:List α):Prop:=Sl w B c v l.length (l.flatMap f)
section
variable {α:Type} {f:α→List Value} {c:Nat} {w w':World} {B B':Nat} {v:Value} {l:List α}
theorem SG.nil_ (f:α→List Value) (c:Nat) (w:World) (B:Nat):SG f c w B (.slice none 0 0) []:=Sl.nil_ w B c
theorem SG.keep (h:SG f c w B v l) (hk:∀p:Addr,p.block<B→w'.cell? p=w.cell? p):SG f c w' B v l:=Sl.keep h hk
theorem SG.more (h:SG f c w B v l) (hB:B≤B'):SG f c w B' v l:=Sl.more h hB
theorem SG.below (h:SG f c w B v l) (hb:Below B w w'):SG f c w' B v l:=Sl.below h hb
theorem SG.alloc (h:SG f c w B v l) (hB:B≤w.heap.size) (o:Obj):SG f c (w.alloc o) B v l:=Sl.alloc h hB o
theorem SG.drew (h:SG f c w B v l):SG f c w.drew B v l:=h
theorem SG.drewN (h:SG f c w B v l) (k:Nat):SG f c (w.drewN k) B v l:=h
theorem SG.grown (h:SG f c w B v l) {row:Option Nat} (hg:w.grownBy w' row) (hB:B≤w.heap.size) (hr:∀g,row=some g→B≤g):SG f c w' B v l:=Sl.grown h hg hB hr
theorem SG.on (h:SG f c w w.heap.size v l) (hb:Below w.heap.size w w'):SG f c w' w'.heap.size v l:=(h.below hb).more hb.size
theorem SG.form (h:SG f c w B v l):∃A k,v=.slice A l.length k∧l.length≤k∧k≤9223372036854775807:=by
 obtain⟨A,k,e,h1,h2,_⟩:=h
 exact⟨A,k,e,h1,by unfold maxLen at h2;omega⟩
theorem SG.at_ (h:SG f c w B v l) (hf:∀x,(f x).length=c) (h0:0<l.length):∃b o k,v=.slice (some ⟨b,o,none⟩) l.length k∧b<B∧∀i (hi:i<l.length),w.rangeAt b (o+i*c) (f (l[i]'hi)):=by
 obtain⟨A,k,e,h1,h2,hr⟩:=h
 obtain⟨b,o,rfl,hb,_⟩:=hr.at_ h0
 refine⟨b,o,k,e,hb,fun i hi j u hu=>?_⟩
 obtain⟨b',o',e',_,hcell⟩:=Rd.elem (f:=f) hr hf rfl hi
 injection e' with e'
 injection e' with e1 e2
 subst e1;subst e2
 have hj:=(List.getElem?_eq_some_iff.1 hu).1
 rw[hf] at hj
 have:=hcell j u hj hu
 rw[←Nat.add_assoc] at this
 exact this
theorem flatG_take (hf:∀x,(f x).length=c) (l:List α) (k:Nat) (hk:k≤l.length):(l.take k).flatMap f=(l.flatMap f).take (k*c):=by
 have h3:((l.take k).flatMap f).length=k*c:=by rw[flat_length f c hf,List.length_take,Nat.min_eq_left hk]
 conv=>rhs;rw[←List.take_append_drop k l,List.flatMap_append]
 rw[List.take_left' h3]
theorem flatG_drop (hf:∀x,(f x).length=c) (l:List α) (k:Nat) (hk:k≤l.length):(l.drop k).flatMap f=(l.flatMap f).drop (k*c):=by
 have h3:((l.take k).flatMap f).length=k*c:=by rw[flat_length f c hf,List.length_take,Nat.min_eq_left hk]
 conv=>rhs;rw[←List.take_append_drop k l,List.flatMap_append]
 rw[List.drop_left' h3]
theorem SG.cut (h:SG f c w B v l) (hf:∀x,(f x).length=c) {k:Nat} (hk:k≤l.length) {A:Option Addr} {n m:Nat} (hv:v=.slice A n m):SG f c w B (.slice (if m=k then A else A.map (·.add (k*c))) (n-k) (m-k)) (l.drop k):=by
 obtain⟨A',c',e,h1,h2,hr⟩:=id h
 rw[hv] at e
 injection e with e1 e2 e3
 subst e1;subst e2;subst e3
 have:=Sl.cut h hk hv
 unfold SG
 rw[List.length_drop,flatG_drop hf l k hk]
 exact this
theorem SG.take (h:SG f c w B v l) (hf:∀x,(f x).length=c) {k:Nat} (hk:k≤l.length) {A:Option Addr} {n m:Nat} (hv:v=.slice A n m):SG f c w B (.slice A k m) (l.take k):=by
 obtain⟨A',c',e,h1,h2,hr⟩:=id h
 rw[hv] at e
 injection e with e1 e2 e3
 subst e1;subst e2;subst e3
 have:=Sl.take h hk hv
 unfold SG
 rw[List.length_take,Nat.min_eq_left hk,flatG_take hf l k hk]
 exact this
end
def OG {α:Type} (t:TypeId) (f:α→List Value) (c:Nat) (w:World) (base:Nat) (v:Value) (l:List α):Prop:=w.ownsRow base t c v l.length (l.flatMap f)
section
variable {α:Type} {t:TypeId} {f:α→List Value} {c:Nat} {w w':World} {B base base':Nat} {v:Value} {l:List α}
theorem OG.nil_ (t:TypeId) (f:α→List Value) (c:Nat) (w:World) (base:Nat):OG t f c w base (.slice none 0 0) []:=World.ownsRow_nil w base t c
theorem OG.below (h:OG t f c w base v l) (hb:Below B w w') (hB:w.heap.size≤B):OG t f c w' base v l:=own_below h hb hB
theorem OG.drew (h:OG t f c w base v l):OG t f c w.drew base v l:=h
theorem OG.drewN (h:OG t f c w base v l) (k:Nat):OG t f c (w.drewN k) base v l:=h
theorem OG.alloc (h:OG t f c w base v l) (o:Obj):OG t f c (w.alloc o) base v l:=World.ownsRow.alloc h o
theorem OG.rebase (h:OG t f c w base v l) (hB:base'≤base):OG t f c w base' v l:=own_base h hB
theorem OG.sg (h:OG t f c w base v l):SG f c w w.heap.size v l:=Sl.of_own h
theorem OG.lt (h:OG t f c w base v l):∀k,v.ownBlock=some k→base≤k∧k<w.heap.size:=World.ownsRow.lt h
theorem OG.grown (h:OG t f c w base v l) {row:Option Nat} (hg:w.grownBy w' row) (hne:v.ownBlock=none∨v.ownBlock≠row):OG t f c w' base v l:=World.ownsRow.kept h hg hne
theorem OG.form0 (h:OG t f c w base v l) (hl:0<l.length):∃g k,v=.slice (some ⟨g,0,none⟩) l.length k:=by
 obtain⟨h1,h2⟩:=h
 rcases h2 with ⟨_,e⟩|⟨g',cap,cur,e1,_⟩
 ·omega
 ·exact⟨g',cap,e1⟩
end
section
variable {α:Type} {f:α→List Value} {c:Nat}
variable {ops:Array Oper} {rest:List Oper} {o:Oper} {a:Act} {K:Act→World→Prop} {Q:Exit→Act→World→Prop} {w:World} {E:Prop}
theorem wp_appG (ts t:TypeId) (z:Value) (by_:Nat) (hinf:(Tryz.prog.info? t).map (fun i=>(i.zero,i.size,i.bytes))=some (some z,c,by_)) (hut:Tryz.prog.underlying ts=some (.slice t)) (hzs:z.cells.size=c) (hc0:0<c) (s x:Operand)
  (ho:o.op=.call { callee:=.builtin .append,args:=#[s,x],argTypes:=#[ts,ts] })
  (base:Nat) (v:Value) (l:List α) (hs:a.eval s=v) (hown:OG t f c w base v l)
  (B:Nat) (u:Value) (m:List α) (h1:∀x∈m,∀u∈f x,u.oneCell'=true) (hx:a.eval x=u) (hr:SG f c w B u m) (hlen:l.length+m.length≤maxLen) (hby:(l.length+m.length)*by_≤140737488355328) (hbase:base≤w.heap.size)
  (h:∀v' w',OG t f c w' base v' (l++m)→w.grownBy w' v.ownBlock→(v'.ownBlock=v.ownBlock∨v'.ownBlock=some w.heap.size)→Below base w w'→K (a.put o.dst v') w'):o.wp Tryz.prog a w K Q:=by
 obtain⟨i0,hi0,hz0,hz1,hz2⟩:=info_parts hinf
 refine wp_app w s x ts ho base t i0 z c by_ hut hi0 hz0 hz1 hz2 hzs hc0 v l.length _ hs hown B m.length u _ hx hr (fun u hu=>by obtain⟨y,hm,hy⟩:=List.mem_flatMap.1 hu;exact h1 y hm u hy) hlen (Fits.of _ _ _ hby) hbase ?_
 intro v' w' h1 h2 h3 h4
 refine h v' w' ?_ h2 h3 h4
 unfold OG
 rw[List.length_append,List.flatMap_append]
 exact h1
theorem SG.new1 (w:World) (f:α→List Value) (c:Nat) (t:TypeId) (x:α) (hf:(f x).length=c) {g B:Nat} (hg:g=w.heap.size) (hB:g<B):SG f c (w.alloc (.cells (f x).toArray t)) B (.slice (some ⟨g,0,none⟩) 1 1) [x]:=by
 refine⟨_,_,rfl,by simp,by simp[maxLen],?_⟩
 have h:=Rd.newBlock (size:=c) w (f x).toArray t hg hB (n:=1) (by simp[hf])
 simpa using h
theorem wp_buildG (ts t:TypeId) (zl:Array Value) (by_:Nat) (hinf:(Tryz.prog.info? t).map (fun i=>(i.zero,i.size,i.bytes))=some (some (.agg zl),c,by_)) (hut:Tryz.prog.underlying ts=some (.slice t)) (hc0:0<c) (hc1:c≤1000) (_hby:by_≤1000) (x:Operand) (ho:o.op=.buildSlice ts 1 #[(0,x)]) (cs:Array Value) (hx:a.eval x=.agg cs) (hc:cs.size=c)
  (h:K (a.put o.dst (.slice (some ⟨w.heap.size,0,none⟩) 1 1)) (w.alloc (.cells cs t))):o.wp Tryz.prog a w K Q:=by
 obtain⟨i0,hi0,hz0,hz1,hz2⟩:=info_parts hinf
 refine wp_buildSlice ts t 1 _ ho cs i0 _ hut hi0 hz0 (by rw[hz1];omega) (by rw[hz1];omega) ?_ h
 rw[hz1]
 simp only[List.map_toArray,List.map_cons,List.map_nil,hx]
 have h:=fill_whole (s:=c) hc0 [.agg cs] ((Array.range (1*c)).map ((Value.agg zl).cells[·%(Value.agg zl).cells.size]!)) (fun v hv=>by simp at hv;subst hv;exact hc) (by simp)
 rw[show [(0,Value.agg cs)]=(([Value.agg cs].zipIdx 0).map fun x=>(x.2,x.1)) from rfl,h]
 simp[Value.cells]
theorem exec_loadG (t:TypeId) {d:TypeDesc} (hu:Tryz.prog.underlying t=some d) (hd:d.isRow=true) (hs:(Tryz.prog.info? t).map (·.size)=some c) (x:Operand) (ho:o.op=.load t x) (b off:Nat) (hx:a.eval x=.pointer (some ⟨b,off,none⟩)) (l:List Value) (hl:l.length=c) (hc:w.rangeAt b off l) :
  (execOp a.eval o).run Tryz.prog w=.ok (.value (.agg l.toArray)) w:=by
 unfold execOp
 simp only[ho,hx,Sem.run_bind,Sem.run_pure,Result.andThen_ok,run_loadAt_mid w b off t l _ hc hu hd (by rw[hl];exact hs)]
theorem exec_loadRow (t:TypeId) {d:TypeDesc} (hu:Tryz.prog.underlying t=some d) (hd:d.isRow=true) (hs:(Tryz.prog.info? t).map (·.size)=some c) (x:Operand) (ho:o.op=.load t x) (g:Nat) (hx:a.eval x=.pointer (some ⟨g,0,none⟩)) (cs:Array Value) (hg:w.heap[g]? = some (.cells cs t (0,0))) (hn:cs.size=c) :
  (execOp a.eval o).run Tryz.prog w=.ok (.value (.agg cs)) w:=by
 refine (exec_loadG t hu hd hs x ho g 0 hx cs.toList (by simpa using hn) (fun j u hu=>?_)).trans (by simp)
 rw[cell_of_row _ _ _ _ _ _ hg,Nat.zero_add]
 simpa using hu
end
end Go.Proofs.YtchjknbideoieaaGreatDoor
