/- What is proved here: words for memory (a slice that reads as a list of cells, or as a list of bytes; a slice whose cells the call owns) and the steps of a walk over append, by these words. No condition. words of 32 bits, SHA-256's block by two descriptions of one meaning, padding. No program in sight. padding, the digest of bytes, what a state has come to. No program in .. -/
import Derived.WalkKit
import Derived.Lib.Hide
import Derived.Lib.FrozenHead
import Derived.Deep.AppendLies
import Derived.Maps.AppendAt
import Derived.Deep.Draws
namespace Go.Proofs.YtchjknbideoieaaGreatDoor
set_option maxRecDepth 100000
set_option maxHeartbeats 8000000
open Go.RowKit
theorem q1 {α:Type} (a:List α) (i:Nat) (v:α):a.toArray.setIfInBounds i v=(a.set i v).toArray:=List.setIfInBounds_toArray ..
theorem q2 {α:Type} (a b:α) (l:List α):(a::l).set 0 b=b::l:=rfl
theorem q3 {α:Type} (a b:α) (l:List α) (n:Nat):(a::l).set (n+1) b=a::l.set n b:=rfl
abbrev u8v (b:UInt8):Value:=.int .u8 (b.toNat:Int)
def bv (l:List UInt8):List Value:=l.map u8v
theorem bv_length (l:List UInt8):(bv l).length=l.length:=by simp[bv]
theorem bv_append (l m:List UInt8):bv (l++m)=bv l++bv m:=by simp[bv]
theorem bv_one (l:List UInt8):∀u∈bv l,u.oneCell'=true:=by
 intro u hu
 obtain⟨b,_,rfl⟩:=List.mem_map.1 hu
 rfl
theorem bv_get (l:List UInt8) (k:Nat) (h:k<l.length):(bv l)[k]? = some (u8v l[k]):=by
 simp[bv,h]
theorem bv_drop (l:List UInt8) (k:Nat):bv (l.drop k)=(bv l).drop k:=by simp[bv,List.map_drop]
theorem bv_take (l:List UInt8) (k:Nat):bv (l.take k)=(bv l).take k:=by simp[bv,List.map_take]
theorem strCells_bv (s:ByteArray):Lib.strCells s=bv s.data.toList:=rfl
theorem add_lit0 (g o j:Nat):(⟨g,o,none⟩:Addr).add j=⟨g,o+j,none⟩:=by
 unfold Addr.add;split <;> simp_all
def Rd (w:World) (B size:Nat) (A:Option Addr) (n:Nat) (xs:List Value):Prop :=
 xs.length=n*size∧(A=none→n=0)∧∀ad,A=some ad→0<n→ad.spot=none∧ad.block<B∧∀j u,xs[j]? = some u→w.cell? ⟨ad.block,ad.off+j,none⟩=some u
section
variable {w w':World} {B B' size n:Nat} {A:Option Addr} {xs:List Value}
theorem Rd.nil_ (w:World) (B size:Nat):Rd w B size none 0 []:=⟨by simp,fun _=>rfl,fun _ h=>by cases h⟩
theorem Rd.len (h:Rd w B 1 A n xs):xs.length=n:=by have:=h.1;omega
theorem Rd.keep (h:Rd w B size A n xs) (hk:∀p:Addr,p.block<B→w'.cell? p=w.cell? p):Rd w' B size A n xs:=by
 refine⟨h.1,h.2.1,fun ad e hn=>?_⟩
 obtain⟨hs,hb,hc⟩:=h.2.2 ad e hn
 exact⟨hs,hb,fun j u hu=>(hk ⟨ad.block,ad.off+j,none⟩ hb).trans (hc j u hu)⟩
theorem Rd.more (h:Rd w B size A n xs) (hB:B≤B'):Rd w B' size A n xs :=
 ⟨h.1,h.2.1,fun ad e hn=>let ⟨a,b,c⟩:=h.2.2 ad e hn;⟨a,Nat.lt_of_lt_of_le b hB,c⟩⟩
theorem Rd.below (h:Rd w B size A n xs) (hb:Below B w w'):Rd w' B size A n xs:=h.keep fun _ hp=>hb.cell hp
theorem Rd.drew (h:Rd w B size A n xs):Rd w.drew B size A n xs:=h
theorem Rd.drewN (h:Rd w B size A n xs) (k:Nat):Rd (w.drewN k) B size A n xs:=h
theorem Rd.alloc (h:Rd w B size A n xs) (hB:B≤w.heap.size) (o:Obj):Rd (w.alloc o) B size A n xs :=
 h.keep fun p hp=>World.cell?_alloc_lt w o p (by omega)
theorem Rd.setCell (h:Rd w B size A n xs) {p:Addr} (hB:B≤p.block) (u:Value):Rd (w.setCell p u) B size A n xs :=
 h.keep fun q hq=>World.cell?_setCell_other w p q u (fun e=>by subst e;omega)
theorem Rd.grown (h:Rd w B size A n xs) {row:Option Nat} (hg:w.grownBy w' row) (hB:B≤w.heap.size) (hr:∀g,row=some g→B≤g):Rd w' B size A n xs :=
 h.keep fun p hp=>World.cell?_of_block (hg.block p.block (by omega) (fun e=>by have:=hr _ e.symm;omega))
theorem Rd.at_ (h:Rd w B size A n xs) (hn:0<n):∃b o,A=some ⟨b,o,none⟩∧b<B∧∀j u,xs[j]? = some u→w.cell? ⟨b,o+j,none⟩=some u:=by
 cases A with
 | none=>have:=h.2.1 rfl;omega
 | some ad =>
  obtain⟨hs,hb,hc⟩:=h.2.2 ad rfl hn
  refine⟨ad.block,ad.off,?_,hb,hc⟩
  cases ad;simp_all
theorem Rd.of_own {base e c:Nat} (h:w.ownsRow base e size (.slice A n c) n xs):Rd w w.heap.size size A n xs:=by
 refine⟨h.1,fun e=>?_,fun ad e hn=>?_⟩
 ·rcases h.2 with ⟨_,h0⟩|⟨g,cap,cur,hv,_⟩
  ·exact h0
  ·rw[e] at hv;cases hv
 ·have hlt:=h.lt ad.block (by rw[e];rfl)
  have hc:=h.cells (g:=ad.block) (by rw[e];rfl)
  rcases h.2 with ⟨hv,_⟩|⟨g,cap,cur,hv,_⟩
  ·rw[e] at hv;cases hv
  ·rw[e] at hv
   injection hv with hv
   injection hv with hv
   subst hv
   refine⟨rfl,hlt.2,fun j u hu=>?_⟩
   have:=hc j u hu
   rw[add_lit0] at this
   exact this
theorem Rd.new1 (w:World) (x:Value) (e:TypeId):Rd (w.alloc (.cells #[x] e)) (w.heap.size+1) 1 (some ⟨w.heap.size,0,none⟩) 1 [x]:=by
 refine⟨rfl,(fun h=>by cases h),fun ad h _=>?_⟩
 injection h with h
 subst h
 refine⟨rfl,Nat.lt_succ_self _,fun j u hu=>?_⟩
 have:=cell_one_new w x e j u hu
 rwa [add_lit0] at this
theorem Rd.newBlock (w:World) (cs:Array Value) (e:TypeId) {g n size B:Nat} (hg:g=w.heap.size) (hB:g<B) (hn:cs.size=n*size):Rd (w.alloc (.cells cs e)) B size (some ⟨g,0,none⟩) n cs.toList:=by
 subst hg
 refine⟨by simpa using hn,(fun h=>by cases h),fun ad h _=>?_⟩
 injection h with h
 subst h
 refine⟨rfl,hB,fun j u hu=>?_⟩
 have h2:=cell_of_row (w.alloc (.cells cs e)) w.heap.size (0+j) _ _ _ (heap_alloc_new w _)
 rw[h2,Nat.zero_add]
 simpa using hu
theorem Rd.cut (h:Rd w B size A n xs) {k cap:Nat} (hk:k≤n) (hc:n≤cap) :
  Rd w B size (if cap=k then A else A.map (·.add (k*size))) (n-k) (xs.drop (k*size)):=by
 refine⟨by rw[List.length_drop,h.1,Nat.sub_mul],fun e=>?_,fun ad e hn=>?_⟩
 ·split at e
  ·have:=h.2.1 e;omega
  ·have:A=none:=by cases A <;> simp_all
   have:=h.2.1 this;omega
 ·rw[if_neg (by omega)] at e
  cases A with
  | none=>simp at e
  | some a =>
   simp only[Option.map_some,Option.some.injEq] at e
   obtain⟨hs,hb,hcell⟩:=h.2.2 a rfl (by omega)
   have ea:ad=⟨a.block,a.off+k*size,none⟩:=by
    rw[←e];cases a;simp only at hs;subst hs;rw[add_lit0]
   subst ea
   refine⟨rfl,hb,fun j u hu=>?_⟩
   rw[List.getElem?_drop] at hu
   have:=hcell _ u hu
   rwa [←Nat.add_assoc] at this
theorem Rd.take (h:Rd w B size A n xs) {k:Nat} (hk:k≤n):Rd w B size A k (xs.take (k*size)):=by
 refine⟨by rw[List.length_take,h.1];exact Nat.min_eq_left (Nat.mul_le_mul_right _ hk),fun e=>by have:=h.2.1 e;omega,fun ad e hn=>?_⟩
 obtain⟨hs,hb,hc⟩:=h.2.2 ad e (by omega)
 refine⟨hs,hb,fun j u hu=>hc j u ?_⟩
 rw[List.getElem?_take] at hu
 split at hu
 ·exact hu
 ·cases hu
end
theorem bstep {w a b:World} (h:Below w.heap.size w a) (k:Below a.heap.size a b):Below w.heap.size w b:=h.trans (k.mono h.size)
theorem balloc {w a:World} (h:Below w.heap.size w a) (o:Obj):Below w.heap.size w (a.alloc o):=h.alloc h.size o
theorem bcells {W w1:World} (hb:Below W.heap.size W w1):(∀b o,b<W.heap.size→w1.cell? ⟨b,o,none⟩=W.cell? ⟨b,o,none⟩)∧(∀b o,b<W.heap.size→w1.frozen? ⟨b,o,none⟩=W.frozen? ⟨b,o,none⟩) :=
 ⟨fun b o h=>hb.cell (p:=⟨b,o,none⟩) h,fun b o h=>hb.frozen (p:=⟨b,o,none⟩) h⟩
theorem brefl (w:World) (n:Nat):Below w.heap.size w (w.drewN n):=⟨rfl,rfl,rfl,Nat.le_refl _,fun _ _=>rfl⟩
theorem bdrewN {w a:World} (h:Below w.heap.size w a) (n:Nat):Below w.heap.size w (a.drewN n):=⟨h.os,h.tape,h.output,h.size,h.block⟩
theorem bdrew {w a:World} (h:Below w.heap.size w a):Below w.heap.size w a.drew:=⟨h.os,h.tape,h.output,h.size,h.block⟩
theorem bself (w:World):Below w.heap.size w w:=Below.refl _ _
theorem own_below {w w':World} {B base:Nat} {e:TypeId} {size:Nat} {v:Value} {n:Nat} {xs:List Value}
  (h:w.ownsRow base e size v n xs) (hb:Below B w w') (hB:w.heap.size≤B):w'.ownsRow base e size v n xs:=by
 refine⟨h.1,?_⟩
 rcases h.2 with hn|⟨g,cap,cur,hv,hbg,hg,rest⟩
 ·exact .inl hn
 ·have hlt:g<w.heap.size:=(Array.getElem?_eq_some_iff.1 hg).1
  exact .inr ⟨g,cap,cur,hv,hbg,(hb.block g (by omega)).trans hg,rest⟩
theorem own_base {w:World} {base base':Nat} {e:TypeId} {size:Nat} {v:Value} {n:Nat} {xs:List Value}
  (h:w.ownsRow base e size v n xs) (hB:base'≤base):w.ownsRow base' e size v n xs:=by
 refine⟨h.1,?_⟩
 rcases h.2 with hn|⟨g,cap,cur,hv,hbg,rest⟩
 ·exact .inl hn
 ·exact .inr ⟨g,cap,cur,hv,by omega,rest⟩
theorem grown_set (w:World) {g:Nat} {p:Addr} (hp:p.block=g) (u:Value):w.grownBy (w.setCell p u) (some g) :=
 ⟨rfl,rfl,rfl,by simp[World.setCell],fun k _ hk=>Below.heap_setCell _ _ _ _ (fun e=>hk (by rw[e,hp]))⟩
theorem grown_below {w a b:World} {B:Nat} {row:Option Nat} (h:w.grownBy a row) (hb:Below B a b) (hB:w.heap.size≤B):w.grownBy b row :=
 ⟨hb.os.trans h.os,hb.tape.trans h.tape,hb.output.trans h.output,Nat.le_trans h.size hb.size,fun k hk hne=>(hb.block k (by omega)).trans (h.block k hk hne)⟩
theorem below_grown {w a b:World} {B:Nat} {row:Option Nat} (h:Below B w a) (hg:a.grownBy b row) (hB:B≤a.heap.size) (hr:∀g,row=some g→B≤g):Below B w b:=h.grown hg hB hr
def Sl (w:World) (B size:Nat) (v:Value) (n:Nat) (xs:List Value):Prop :=
 ∃A c,v=.slice A n c∧n≤c∧c≤maxLen∧Rd w B size A n xs
section
variable {w w':World} {B B' size n:Nat} {v:Value} {xs:List Value}
theorem Sl.nil_ (w:World) (B size:Nat):Sl w B size (.slice none 0 0) 0 []:=⟨none,0,rfl,Nat.le_refl _,Nat.zero_le _,Rd.nil_ w B size⟩
theorem Sl.keep (h:Sl w B size v n xs) (hk:∀p:Addr,p.block<B→w'.cell? p=w.cell? p):Sl w' B size v n xs:=by
 obtain⟨A,c,rfl,h1,h2,hr⟩:=h;exact⟨A,c,rfl,h1,h2,hr.keep hk⟩
theorem Sl.more (h:Sl w B size v n xs) (hB:B≤B'):Sl w B' size v n xs:=by
 obtain⟨A,c,rfl,h1,h2,hr⟩:=h;exact⟨A,c,rfl,h1,h2,hr.more hB⟩
theorem Sl.below (h:Sl w B size v n xs) (hb:Below B w w'):Sl w' B size v n xs:=h.keep fun _ hp=>hb.cell hp
theorem Sl.alloc (h:Sl w B size v n xs) (hB:B≤w.heap.size) (o:Obj):Sl (w.alloc o) B size v n xs:=h.keep fun p hp=>World.cell?_alloc_lt w o p (by omega)
theorem Sl.drew (h:Sl w B size v n xs):Sl w.drew B size v n xs:=h
theorem Sl.drewN (h:Sl w B size v n xs) (k:Nat):Sl (w.drewN k) B size v n xs:=h
theorem Sl.setCell (h:Sl w B size v n xs) {p:Addr} (hB:B≤p.block) (u:Value):Sl (w.setCell p u) B size v n xs :=
 h.keep fun q hq=>World.cell?_setCell_other w p q u (fun e=>by subst e;omega)
theorem Sl.grown (h:Sl w B size v n xs) {row:Option Nat} (hg:w.grownBy w' row) (hB:B≤w.heap.size) (hr:∀g,row=some g→B≤g):Sl w' B size v n xs :=
 h.keep fun p hp=>World.cell?_of_block (hg.block p.block (by omega) (fun e=>by have:=hr _ e.symm;omega))
theorem Sl.of_own {base e:Nat} (h:w.ownsRow base e size v n xs):Sl w w.heap.size size v n xs:=by
 rcases h.2 with ⟨rfl,rfl⟩|⟨g,cap,cur,rfl,_,_,h1,h2,_⟩
 ·exact⟨none,0,rfl,Nat.le_refl _,Nat.zero_le _,Rd.of_own h⟩
 ·exact⟨_,cap,rfl,h1,h2,Rd.of_own h⟩
theorem Sl.cut (h:Sl w B size v n xs) {k:Nat} (hk:k≤n) {A:Option Addr} {c:Nat} (hv:v=.slice A n c) :
  Sl w B size (.slice (if c=k then A else A.map (·.add (k*size))) (n-k) (c-k)) (n-k) (xs.drop (k*size)):=by
 obtain⟨A',c',e,h1,h2,hr⟩:=h
 rw[hv] at e
 injection e with e1 _ e3
 subst e1;subst e3
 exact⟨_,_,rfl,by omega,by omega,hr.cut hk h1⟩
theorem Sl.take (h:Sl w B size v n xs) {k:Nat} (hk:k≤n) {A:Option Addr} {c:Nat} (hv:v=.slice A n c) :
  Sl w B size (.slice A k c) k (xs.take (k*size)):=by
 obtain⟨A',c',e,h1,h2,hr⟩:=h
 rw[hv] at e
 injection e with e1 _ e3
 subst e1;subst e3
 exact⟨_,_,rfl,by omega,by omega,hr.take hk⟩
end
def SB (w:World) (B:Nat) (v:Value) (l:List UInt8):Prop:=Sl w B 1 v l.length (bv l)
section
variable {w w':World} {B B':Nat} {v:Value} {l:List UInt8}
theorem SB.nil_ (w:World) (B:Nat):SB w B (.slice none 0 0) []:=Sl.nil_ w B 1
theorem SB.keep (h:SB w B v l) (hk:∀p:Addr,p.block<B→w'.cell? p=w.cell? p):SB w' B v l:=Sl.keep h hk
theorem SB.more (h:SB w B v l) (hB:B≤B'):SB w B' v l:=Sl.more h hB
theorem SB.below (h:SB w B v l) (hb:Below B w w'):SB w' B v l:=Sl.below h hb
theorem SB.alloc (h:SB w B v l) (hB:B≤w.heap.size) (o:Obj):SB (w.alloc o) B v l:=Sl.alloc h hB o
theorem SB.drew (h:SB w B v l):SB w.drew B v l:=h
theorem SB.drewN (h:SB w B v l) (k:Nat):SB (w.drewN k) B v l:=h
theorem SB.setCell (h:SB w B v l) {p:Addr} (hB:B≤p.block) (u:Value):SB (w.setCell p u) B v l:=Sl.setCell h hB u
theorem SB.grown (h:SB w B v l) {row:Option Nat} (hg:w.grownBy w' row) (hB:B≤w.heap.size) (hr:∀g,row=some g→B≤g):SB w' B v l:=Sl.grown h hg hB hr
theorem SB.form (h:SB w B v l):∃A c,v=.slice A l.length c∧l.length≤c∧c≤maxLen∧Rd w B 1 A l.length (bv l):=h
theorem SB.on (h:SB w w.heap.size v l) (hb:Below w.heap.size w w'):SB w' w'.heap.size v l:=(h.below hb).more hb.size
theorem SB.len (h:SB w B v l):l.length≤maxLen:=by obtain⟨A,c,_,h1,h2,_⟩:=h;omega
end
theorem flat_length {α:Type} (f:α→List Value) (c:Nat) (hf:∀x,(f x).length=c) (l:List α):(l.flatMap f).length=l.length*c:=by
 induction l with
 | nil=>simp
 | cons x l ih=>rw[List.flatMap_cons,List.length_append,hf,ih,List.length_cons,Nat.succ_mul,Nat.add_comm]
theorem flat_get {α:Type} (f:α→List Value) (c:Nat) (hf:∀x,(f x).length=c) (l:List α) (k j:Nat) (hk:k<l.length) (hj:j<c):(l.flatMap f)[k*c+j]? = (f l[k])[j]?:=by
 induction l generalizing k with
 | nil=>simp at hk
 | cons x l ih =>
  rw[List.flatMap_cons]
  cases k with
  | zero=>rw[Nat.zero_mul,Nat.zero_add,List.getElem?_append_left (by rw[hf];exact hj)];rfl
  | succ k =>
   have hk':k<l.length:=by simpa using hk
   rw[List.getElem?_append_right (by rw[hf,Nat.succ_mul];omega),hf,show (k+1)*c+j-c=k*c+j from by rw[Nat.succ_mul];omega,ih k hk']
   rfl
theorem Rd.elem {α:Type} {f:α→List Value} {c:Nat} {w:World} {B n:Nat} {A:Option Addr} {l:List α} (h:Rd w B c A n (l.flatMap f)) (hf:∀x,(f x).length=c) (hn:n=l.length) {k:Nat} (hk:k<l.length) :
  ∃b o,A=some ⟨b,o,none⟩∧b<B∧∀j u,j<c→(f l[k])[j]? = some u→w.cell? ⟨b,o+(k*c+j),none⟩=some u:=by
 subst hn
 obtain⟨b,o,rfl,hb,hc⟩:=h.at_ (by omega)
 refine⟨b,o,rfl,hb,fun j u hj hu=>?_⟩
 exact hc (k*c+j) u (by rw[flat_get f c hf l k j hk hj];exact hu)
section
variable {P:Program} (w:World)
def Fits (n m bytes:Nat):Prop:=∀cap,n≤cap→cap<n+m→Builtin.nextslicecap (n+m) cap*bytes≤281474976710656
theorem Fits.of (n m bytes:Nat) (h:(n+m)*bytes≤140737488355328):Fits n m bytes:=fun _ _ h2=>growslice_fits h2 h
theorem Fits.one (n bytes:Nat) (h:(n+n/4+513)*bytes≤281474976710656):Fits n 1 bytes:=by
 intro cap h1 h2
 have e:cap=n:=by omega
 subst e
 refine Nat.le_trans (Nat.mul_le_mul_right _ ?_) h
 unfold Builtin.nextslicecap
 split
 ·omega
 ·split
  ·omega
  ·rw[growBy_four]
   repeat' split
   all_goals omega
theorem run_app (base:Nat) (t ty e:TypeId) (i:TypeInfo) (z:Value) (size bytes:Nat) (ht:P.underlying t=some (.slice e)) (hi:P.info? e=some i) (hz:i.zero=some z)
  (hsize:i.size=size) (hby:i.bytes=bytes) (hzs:z.cells.size=size) (hsz:0<size)
  (v:Value) (n:Nat) (xs:List Value) (hown:w.ownsRow base e size v n xs)
  (B:Nat) (A:Option Addr) (m c:Nat) (news:List Value) (hr:Rd w B size A m news) (h1:∀u∈news,u.oneCell'=true)
  (h63:n+m≤maxLen) (hfits:Fits n m bytes) (hbase:base≤w.heap.size) :
  ∃v' w',(Builtin.append_ #[t,t] ty #[v,.slice A m c]).run P w=.ok v' w'∧w'.ownsRow base e size v' (n+m) (xs++news)∧w.grownBy w' v.ownBlock ∧
   (v'.ownBlock=v.ownBlock∨v'.ownBlock=some w.heap.size)∧Below base w w':=by
 subst hsize
 subst hby
 have below:∀w',w.grownBy w' v.ownBlock→Below base w w':=fun w' hg=>(Below.refl _ _).grown hg hbase fun k hk=>(hown.lt k hk).1
 cases A with
 | none =>
  have hm:=hr.2.1 rfl
  subst hm
  have hn:news=[]:=List.eq_nil_of_length_eq_zero (by simpa using hr.1)
  subst hn
  refine⟨v,w,?_,by simpa using hown,World.grownBy.refl w _,.inl rfl,Below.refl _ _⟩
  rcases hown.2 with ⟨rfl,rfl⟩|⟨g,cap,cur,rfl,_,_,hnc,_⟩
  ·simp[Builtin.append_,run_underlying ht,sizeOf,typeInfo,hi,Builtin.lenOf,Builtin.firstCells]
  ·simp[Builtin.append_,run_underlying ht,sizeOf,typeInfo,hi,Builtin.lenOf,Builtin.firstCells,hnc,storeCells]
 | some a =>
  have hl:=hr.1
  have hnews:∀j u,news[j]? = some u→w.cell? (a.add j)=some u:=fun j u hu=>by
   have hm0:0<m:=by
    rcases Nat.eq_zero_or_pos m with h0|h0
    ·rw[h0,Nat.zero_mul] at hl
     rw[List.eq_nil_of_length_eq_zero hl] at hu
     simp at hu
    ·exact h0
   obtain⟨hs,hb,hc⟩:=hr.2.2 a rfl hm0
   have:a.add j=⟨a.block,a.off+j,none⟩:=by cases a;simp only at hs;subst hs;rw[add_lit0]
   rw[this];exact hc j u hu
  have hsmall:n+m≤9223372036854775807:=by simp only[maxLen] at h63;omega
  have hlen:(xs++news).length=(n+m)*i.size:=by rw[List.length_append,hown.1,hl,Nat.add_mul]
  have grown:∀(old:Nat),old<n+m→∀(row:Option Nat),
    (w.drew.alloc (.cells (xs.toArray++news.toArray++Builtin.zeroCells z.cells (grownCap w (n+m) old e-(n+m))) e)).ownsRow base e i.size
     (.slice (some ⟨w.heap.size,0,none⟩) (n+m) (grownCap w (n+m) old e)) (n+m) (xs++news) ∧
    w.grownBy (w.drew.alloc (.cells (xs.toArray++news.toArray++Builtin.zeroCells z.cells (grownCap w (n+m) old e-(n+m))) e)) row:=by
   intro old ho row
   have hge:=grownCap_ge w (n+m) old e
   have hcm:grownCap w (n+m) old e≤maxLen:=grownCap_le_maxLen w (n+m) old e h63
   refine⟨⟨hlen,.inr ⟨w.heap.size,_,_,rfl,hbase,heap_alloc_new w.drew _,hge,hcm,?_,?_⟩⟩,⟨rfl,rfl,rfl,by simp,fun k hk _=>Below.heap_alloc w.drew _ k hk⟩⟩
   ·simp only[Array.size_append,List.size_toArray,size_zeroCells,hzs,hown.1,hl,←Nat.add_mul]
    congr 1
    omega
   ·simp only[Array.toList_append,List.append_assoc]
    rw[←List.append_assoc,←hlen]
    exact List.take_left
  rcases hown.2 with ⟨rfl,rfl⟩|⟨g,cap,cur,rfl,hbg,hg,hnc,hcm,hcs,htake⟩
  ·have hx:xs=[]:=List.eq_nil_of_length_eq_zero (by simpa using hown.1)
   subst hx
   by_cases hm:m=0
   ·subst hm
    have hn:news=[]:=List.eq_nil_of_length_eq_zero (by simpa using hl)
    subst hn
    refine⟨.slice none 0 0,w,?_,World.ownsRow_nil w base e i.size,World.grownBy.refl w _,Or.inl rfl,Below.refl _ _⟩
    simp[Builtin.append_,run_underlying ht,sizeOf,typeInfo,hi,Builtin.lenOf,Builtin.firstCells,loadCells,loadCellsFrom]
   ·have hr:=run_append_nil (P:=P) w t ty e i z ht hi hz a m c news hl hnews (by omega) (by omega) (by
     have hb:=hfits 0 (by omega) (by omega)
     rw[Nat.zero_add,nextslicecap_zero (by omega)] at hb
     exact hb)
    have hgr:=grown 0 (by omega) (Value.ownBlock (.slice none 0 0))
    simp only[Nat.zero_add,List.nil_append,Array.empty_append] at hgr ⊢
    exact⟨_,_,hr,hgr.1,hgr.2,Or.inr rfl,below _ hgr.2⟩
  ·by_cases hroom:n+m≤cap
   ·have hfit:n*i.size+news.length≤cur.size:=by rw[hl,hcs,←Nat.add_mul];exact Nat.mul_le_mul_right _ hroom
    have hr:=run_append_room (P:=P) w t ty e i ht hi g n cap cur hg a m c news hl hnews h1 hroom hfit
    have hgb:w.grownBy (w.setRow g (cur.toList.take (n*i.size)++news++cur.toList.drop (n*i.size+news.length)).toArray) (some g) :=
     ⟨rfl,rfl,rfl,by simp,fun k _ hk=>setRow_other w g k _ (fun e=>hk (by rw[e]))⟩
    refine⟨_,_,hr,⟨hlen,.inr ⟨g,cap,_,rfl,hbg,setRow_heap w g cur _ e _ hg,hroom,hcm,?_,?_⟩⟩,hgb,Or.inl rfl,below _ hgb⟩
    ·simp only[List.size_toArray,List.length_append,List.length_take,List.length_drop,Array.length_toList]
     omega
    ·rw[htake,←hlen]
     exact List.take_left
   ·have holds:∀j u,xs[j]? = some u→w.cell? ((⟨g,0,none⟩:Addr).add j)=some u:=hown.cells (g:=g) rfl
    have hr:=run_append_grow (P:=P) w t ty e i z ht hi hz ⟨g,0,none⟩ n cap xs hown.1 holds a m c news hl hnews (by omega) (by omega) (hfits cap hnc (by omega))
    have hgr:=grown cap (by omega) (Value.ownBlock (.slice (some ⟨g,0,none⟩) n cap))
    exact⟨_,_,hr,hgr.1,hgr.2,Or.inr rfl,below _ hgr.2⟩
theorem wp_app {o:Oper} {a:Act} {K:Act→World→Prop} {Q:Exit→Act→World→Prop} (s x:Operand) (t:TypeId)
  (ho:o.op=.call { callee:=.builtin .append,args:=#[s,x],argTypes:=#[t,t] })
  (base:Nat) (e:TypeId) (i:TypeInfo) (z:Value) (size bytes:Nat) (ht:P.underlying t=some (.slice e)) (hi:P.info? e=some i) (hz:i.zero=some z)
  (hsize:i.size=size) (hby:i.bytes=bytes) (hzs:z.cells.size=size) (hsz:0<size)
  (v:Value) (n:Nat) (xs:List Value) (hs:a.eval s=v) (hown:w.ownsRow base e size v n xs)
  (B:Nat) (m:Nat) (u:Value) (news:List Value) (hx:a.eval x=u) (hr:Sl w B size u m news) (h1:∀u∈news,u.oneCell'=true)
  (h63:n+m≤maxLen) (hfits:Fits n m bytes) (hbase:base≤w.heap.size)
  (h:∀v' w',w'.ownsRow base e size v' (n+m) (xs++news)→w.grownBy w' v.ownBlock→(v'.ownBlock=v.ownBlock∨v'.ownBlock=some w.heap.size)→Below base w w'→K (a.put o.dst v') w'):o.wp P a w K Q:=by
 obtain⟨A,c,rfl,_,_,hr⟩:=hr
 obtain⟨v',w',hrun,h2,h3,h4,h5⟩:=run_app (P:=P) w base t o.type e i z size bytes ht hi hz hsize hby hzs hsz v n xs hown B A m c news hr h1 h63 hfits hbase
 unfold Oper.wp execOp
 simp only[ho,resolve,invoke,builtin,Sem.run_bind,Sem.run_pure,Result.andThen_ok,List.map_toArray,List.map_cons,List.map_nil,hs,hx,hrun]
 exact h v' w' h2 h3 h4 h5
end
theorem wl_of {P:Program} {ops:Array Oper} {rest:List Oper} {o:Oper} {a:Act} {Q:Exit→Act→World→Prop} {w:World} (hgd:Region.wanted o (yielded ops a.tmps)=true)
  (h:∀K:Act→World→Prop,(∀a w,wpList P ops Q rest a w→K a w)→o.wp P a w K Q):wpList P ops Q (o::rest) a w :=
 wpList_step fun K hK=>by rw[if_pos hgd];exact h K hK
theorem st_of {P:Program} {ops:Array Oper} {o:Oper} {a:Act} {K:Act→World→Prop} {Q:Exit→Act→World→Prop} {w:World} {E:Prop} (hgd:Region.wanted o (yielded ops a.tmps)=true)
  (h:o.wp P a w K Q):if Region.wanted o (yielded ops a.tmps)=true then o.wp P a w K Q else E:=by
 rw[if_pos hgd]
 exact h
end Go.Proofs.YtchjknbideoieaaGreatDoor
namespace Go.Proofs.YtchjknbideoieaaGreatDoor
set_option maxRecDepth 100000
set_option maxHeartbeats 8000000
def rotr (x k:UInt32):UInt32:=(x >>> k) ||| (x <<< (32-k))
def sg0 (x:UInt32):UInt32:=rotr x 7 ^^^ rotr x 18 ^^^ (x >>> 3)
def sg1 (x:UInt32):UInt32:=rotr x 17 ^^^ rotr x 19 ^^^ (x >>> 10)
def SG0 (x:UInt32):UInt32:=rotr x 2 ^^^ rotr x 13 ^^^ rotr x 22
def SG1 (x:UInt32):UInt32:=rotr x 6 ^^^ rotr x 11 ^^^ rotr x 25
def chW (e f g:UInt32):UInt32:=g ^^^ (e &&& (f ^^^ g))
def majW (a b c:UInt32):UInt32:=(a &&& b) ||| (c &&& (a ||| b))
def kList:List UInt32:=[0x428a2f98,0x71374491,0xb5c0fbcf,0xe9b5dba5,0x3956c25b,0x59f111f1,0x923f82a4,0xab1c5ed5,
 0xd807aa98,0x12835b01,0x243185be,0x550c7dc3,0x72be5d74,0x80deb1fe,0x9bdc06a7,0xc19bf174,
 0xe49b69c1,0xefbe4786,0x0fc19dc6,0x240ca1cc,0x2de92c6f,0x4a7484aa,0x5cb0a9dc,0x76f988da,
 0x983e5152,0xa831c66d,0xb00327c8,0xbf597fc7,0xc6e00bf3,0xd5a79147,0x06ca6351,0x14292967,
 0x27b70a85,0x2e1b2138,0x4d2c6dfc,0x53380d13,0x650a7354,0x766a0abb,0x81c2c92e,0x92722c85,
 0xa2bfe8a1,0xa81a664b,0xc24b8b70,0xc76c51a3,0xd192e819,0xd6990624,0xf40e3585,0x106aa070,
 0x19a4c116,0x1e376c08,0x2748774c,0x34b0bcb5,0x391c0cb3,0x4ed8aa4a,0x5b9cca4f,0x682e6ff3,
 0x748f82ee,0x78a5636f,0x84c87814,0x8cc70208,0x90befffa,0xa4506ceb,0xbef9a3f7,0xc67178f2]
def kAt (i:Nat):UInt32:=kList[i]?.getD 0
def be4 (a b c d:UInt8):UInt32:=(a.toUInt32 <<< 24) ||| (b.toUInt32 <<< 16) ||| (c.toUInt32 <<< 8) ||| d.toUInt32
def word0 (p:List UInt8) (i:Nat):UInt32:=be4 (p[4*i]?.getD 0) (p[4*i+1]?.getD 0) (p[4*i+2]?.getD 0) (p[4*i+3]?.getD 0)
def sched (p:List UInt8):Nat→List UInt32
 | 0=>(List.range 16).map (word0 p)
 | n+1=>let l:=sched p n;l++[l[n]?.getD 0+l[n+9]?.getD 0+sg0 (l[n+1]?.getD 0)+sg1 (l[n+14]?.getD 0)]
def wordAt (p:List UInt8) (i:Nat):UInt32:=(sched p 48)[i]?.getD 0
structure St where
 a:UInt32
 b:UInt32
 c:UInt32
 d:UInt32
 e:UInt32
 f:UInt32
 g:UInt32
 h:UInt32
def roundT (s:St) (k w:UInt32):UInt32:=s.h+SG1 s.e+chW s.e s.f s.g+k+w
def roundU (s:St):UInt32:=SG0 s.a+majW s.a s.b s.c
def round1 (s:St) (k w:UInt32):St:=⟨roundT s k w+roundU s,s.a,s.b,s.c,s.d+roundT s k w,s.e,s.f,s.g⟩
def rounds (p:List UInt8) (s:St):Nat→St
 | 0=>s
 | n+1=>round1 (rounds p s n) (kAt n) (wordAt p n)
def addS (s t:St):St:=⟨s.a+t.a,s.b+t.b,s.c+t.c,s.d+t.d,s.e+t.e,s.f+t.f,s.g+t.g,s.h+t.h⟩
def blockS (s:St) (p:List UInt8):St:=addS s (rounds p s 64)
def st0:St:=⟨0x6a09e667,0xbb67ae85,0x3c6ef372,0xa54ff53a,0x510e527f,0x9b05688c,0x1f83d9ab,0x5be0cd19⟩
def blocksS (s:St) (bs:List UInt8):Nat→St
 | 0=>s
 | n+1=>blockS (blocksS s bs n) ((bs.drop (64*n)).take 64)
theorem sched_length (p:List UInt8):∀n,(sched p n).length=16+n
 | 0=>by simp[sched]
 | n+1=>by rw[sched,List.length_append,sched_length p n];simp;omega
theorem sched_stable (p:List UInt8) (i n:Nat) (hi:i<16+n):∀m,(sched p (n+m))[i]? = (sched p n)[i]?
 | 0=>rfl
 | m+1=>by
  rw[←Nat.add_assoc,sched,List.getElem?_append_left (by rw[sched_length];omega)]
  exact sched_stable p i n hi m
theorem wordAt_sched (p:List UInt8) (i n:Nat) (hi:i<16+n) (hn:n≤48):(sched p n)[i]?.getD 0=wordAt p i:=by
 unfold wordAt
 have:=sched_stable p i n hi (48-n)
 rw[show n+(48-n)=48 from by omega] at this
 rw[this]
theorem wordAt_first (p:List UInt8) (i:Nat) (hi:i<16):wordAt p i=word0 p i:=by
 rw[←wordAt_sched p i 0 (by omega) (by omega)]
 simp[sched,hi]
theorem wordAt_next (p:List UInt8) (n:Nat) (hn:n<48):wordAt p (16+n)=wordAt p n+wordAt p (n+9)+sg0 (wordAt p (n+1))+sg1 (wordAt p (n+14)):=by
 rw[←wordAt_sched p (16+n) (n+1) (by omega) (by omega),sched]
 rw[List.getElem?_append_right (by rw[sched_length];omega),sched_length,Nat.sub_self]
 rw[wordAt_sched p n n (by omega) (by omega),wordAt_sched p (n+9) n (by omega) (by omega),wordAt_sched p (n+1) n (by omega) (by omega),wordAt_sched p (n+14) n (by omega) (by omega)]
 rfl
end Go.Proofs.YtchjknbideoieaaGreatDoor
namespace Go.Proofs.YtchjknbideoieaaGreatDoor
set_option maxRecDepth 100000
set_option maxHeartbeats 8000000
def padN (n:Nat):Nat:=(119-n%64)%64
def be8 (n:Nat):List UInt8:=(List.range 8).map (fun i=>UInt8.ofNat (n/2 ^ (56-8*i)))
def tailOf (n:Nat):List UInt8:=128::(List.replicate (padN n) 0++be8 (n*8))
def padded (bs:List UInt8):List UInt8:=bs++tailOf bs.length
theorem be8_length (n:Nat):(be8 n).length=8:=by simp[be8]
theorem tail_length (n:Nat):(tailOf n).length=9+padN n:=by simp[tailOf,be8_length];omega
def wB (x:UInt32):List UInt8:=[(x >>> 24).toUInt8,(x >>> 16).toUInt8,(x >>> 8).toUInt8,x.toUInt8]
def digB (s:St):List UInt8:=wB s.a++wB s.b++wB s.c++wB s.d++wB s.e++wB s.f++wB s.g++wB s.h
theorem digB_length (s:St):(digB s).length=32:=by simp[digB,wB]
def wordsOf (bs:List UInt8):St:=blocksS st0 bs (bs.length/64)
def partOf (bs:List UInt8):List UInt8:=bs.drop (64*(bs.length/64))
def shaOf (bs:List UInt8):List UInt8:=digB (wordsOf (padded bs))
theorem shaOf_length (bs:List UInt8):(shaOf bs).length=32:=digB_length _
theorem partOf_length (bs:List UInt8):(partOf bs).length=bs.length%64:=by unfold partOf;rw[List.length_drop];omega
theorem blocksS_app (s:St) (bs x:List UInt8):∀n,64*n≤bs.length→blocksS s (bs++x) n=blocksS s bs n
 | 0,_=>rfl
 | n+1,h=>by
  rw[blocksS,blocksS,blocksS_app s bs x n (by omega),List.drop_append_of_le_length (by omega),List.take_append_of_le_length (by rw[List.length_drop];omega)]
theorem put_few (bs x:List UInt8) (h:bs.length%64+x.length<64):wordsOf (bs++x)=wordsOf bs∧partOf (bs++x)=partOf bs++x:=by
 have hd:(bs++x).length/64=bs.length/64:=by rw[List.length_append];omega
 refine⟨?_,?_⟩
 ·unfold wordsOf;rw[hd,blocksS_app _ _ _ _ (by omega)]
 ·unfold partOf;rw[hd,List.drop_append_of_le_length (by omega)]
theorem put_fill (bs x:List UInt8) (h:bs.length%64+x.length=64) (_h0:0<x.length):wordsOf (bs++x)=blockS (wordsOf bs) (partOf bs++x)∧partOf (bs++x)=[]:=by
 have hd:(bs++x).length/64=bs.length/64+1:=by rw[List.length_append];omega
 have hx:((bs++x).drop (64*(bs.length/64))).take 64=partOf bs++x:=by
  unfold partOf
  rw[List.drop_append_of_le_length (by omega)]
  exact List.take_of_length_le (by rw[List.length_append,List.length_drop];omega)
 refine⟨?_,?_⟩
 ·unfold wordsOf
  rw[hd,blocksS,blocksS_app _ _ _ _ (by omega),hx]
 ·unfold partOf
  exact List.drop_eq_nil_of_le (by rw[hd,List.length_append];omega)
theorem put_block (bs x:List UInt8) (h:bs.length%64=0) (hx:x.length=64):wordsOf (bs++x)=blockS (wordsOf bs) x:=by
 have h1:=(put_fill bs x (by omega) (by omega)).1
 have h2:partOf bs=[]:=List.eq_nil_of_length_eq_zero (by rw[partOf_length];exact h)
 rw[h1,h2,List.nil_append]
end Go.Proofs.YtchjknbideoieaaGreatDoor
namespace Go.Proofs.YtchjknbideoieaaGreatDoor
set_option maxRecDepth 100000
set_option maxHeartbeats 8000000
def keyOf64 (k:List UInt8):List UInt8:=if 64<k.length then shaOf k else k
def padK (k:List UInt8):List UInt8:=keyOf64 k++List.replicate (64-(keyOf64 k).length) 0
def xorL (by_:UInt8) (l:List UInt8):List UInt8:=l.map (fun x=>x ^^^ by_)
def macOf (k b:List UInt8):List UInt8:=shaOf (xorL 92 (padK k)++shaOf (xorL 54 (padK k)++b))
theorem macOf_length (k b:List UInt8):(macOf k b).length=32:=shaOf_length _
theorem keyOf64_length (k:List UInt8):(keyOf64 k).length≤64:=by
 unfold keyOf64
 split
 ·rw[shaOf_length];omega
 ·omega
theorem padK_length (k:List UInt8):(padK k).length=64:=by
 have:=keyOf64_length k
 unfold padK
 rw[List.length_append,List.length_replicate]
 omega
theorem xorL_length (x:UInt8) (l:List UInt8):(xorL x l).length=l.length:=by simp[xorL]
def expT (k u:List UInt8):Nat→List UInt8
 | 0=>[]
 | n+1=>macOf k (expT k u n++u++[UInt8.ofNat (n+1)])
def expAll (k u:List UInt8):Nat→List UInt8
 | 0=>[]
 | n+1=>expAll k u n++expT k u (n+1)
theorem expT_length (k u:List UInt8) (n:Nat):(expT k u (n+1)).length=32:=macOf_length _ _
theorem expAll_length (k u:List UInt8):∀n,(expAll k u n).length=32*n
 | 0=>rfl
 | n+1=>by rw[expAll,List.length_append,expAll_length k u n,expT_length];omega
def pieces (n:Nat):Nat:=(n+31)/32
def expand (k u:List UInt8) (n:Nat):List UInt8:=(expAll k u (pieces n)).take n
theorem expand_length (k u:List UInt8) (n:Nat):(expand k u n).length=n:=by
 unfold expand
 rw[List.length_take,expAll_length]
 unfold pieces
 omega
theorem expT_last (k u:List UInt8) (n:Nat):(expAll k u n).drop (32*n-32)=expT k u n:=by
 cases n with
 | zero=>rfl
 | succ n =>
  rw[expAll]
  have h:=expAll_length k u n
  rw[show 32*(n+1)-32=(expAll k u n).length by rw[h];omega,List.drop_left]
end Go.Proofs.YtchjknbideoieaaGreatDoor
namespace Go.Proofs.YtchjknbideoieaaGreatDoor
set_option maxRecDepth 100000
set_option maxHeartbeats 8000000
def part (n:Nat):Nat:=if n≤2 then 1 else 2*part ((n+1)/2)
termination_by n
theorem part_small {n:Nat} (h:n≤2):part n=1:=by rw[part,if_pos h]
theorem part_big {n:Nat} (h:2<n):part n=2*part ((n+1)/2):=by rw[part,if_neg (by omega)]
theorem part_pos (n:Nat):0<part n:=by
 induction n using Nat.strongRecOn with
 | _ n ih =>
  by_cases h:n≤2
  ·rw[part_small h];omega
  ·rw[part_big (by omega)]
   have:=ih ((n+1)/2) (by omega)
   omega
theorem part_lt {n:Nat} (h:2≤n):part n<n:=by
 induction n using Nat.strongRecOn with
 | _ n ih =>
  by_cases h2:n≤2
  ·rw[part_small h2];omega
  ·rw[part_big (by omega)]
   have:=ih ((n+1)/2) (by omega) (by omega)
   omega
theorem part_half {n:Nat} (h:2≤n):n≤2*part n:=by
 induction n using Nat.strongRecOn with
 | _ n ih =>
  by_cases h2:n≤2
  ·rw[part_small h2];omega
  ·rw[part_big (by omega)]
   have:=ih ((n+1)/2) (by omega) (by omega)
   omega
section
variable {D:Type} (jn:D→D→D)
def rootR (z:D) (l:List D):D :=
 match _h:l with
 | []=>z
 | [x]=>x
 | x::y::r=>jn (rootR z ((x::y::r).take (part (x::y::r).length))) (rootR z ((x::y::r).drop (part (x::y::r).length)))
termination_by l.length
decreasing_by
 ·subst _h
  have h1:=part_lt (n:=(x::y::r).length) (by simp)
  rw[List.length_take]
  omega
 ·subst _h
  have h1:=part_pos (x::y::r).length
  have h2:0<(x::y::r).length:=by simp
  rw[List.length_drop]
  omega
theorem rootR_one (z x:D):rootR jn z [x]=x:=by rw[rootR]
theorem rootR_more (z:D) (l:List D) (h:2≤l.length):rootR jn z l=jn (rootR jn z (l.take (part l.length))) (rootR jn z (l.drop (part l.length))):=by
 match l,h with
 | x::y::r,_=>rw[rootR]
def pairs:List D→List D
 | x::y::r=>jn x y::pairs r
 | _=>[]
theorem pairs_length:∀l:List D,(pairs jn l).length=l.length/2
 | []=>by simp[pairs]
 | [_]=>by simp[pairs]
 | x::y::r=>by rw[pairs,List.length_cons,pairs_length r,List.length_cons,List.length_cons];omega
theorem pairs_take:∀(k:Nat) (l:List D),2*k≤l.length→pairs jn (l.take (2*k))=(pairs jn l).take k
 | 0,l,_=>by rw[Nat.mul_zero,List.take_zero,List.take_zero];rfl
 | k+1,l,h=>by
  match l,h with
  | x::y::r,h =>
   rw[show 2*(k+1)=2*k+1+1 from rfl,List.take_succ_cons,List.take_succ_cons,pairs,pairs,List.take_succ_cons,pairs_take k r (by simp at h;omega)]
  | [x],h=>simp at h;omega
  | [],h=>simp at h
theorem pairs_drop:∀(k:Nat) (l:List D),2*k≤l.length→pairs jn (l.drop (2*k))=(pairs jn l).drop k
 | 0,l,_=>by simp
 | k+1,l,h=>by
  match l,h with
  | x::y::r,h =>
   rw[show 2*(k+1)=2*k+1+1 from rfl,List.drop_succ_cons,List.drop_succ_cons,pairs,List.drop_succ_cons,pairs_drop k r (by simp at h;omega)]
  | [x],h=>simp at h;omega
  | [],h=>simp at h
theorem pairs_app:∀(l:List D) (x y:D),l.length%2=0→pairs jn (l++[x,y])=pairs jn l++[jn x y]
 | [],_,_,_=>rfl
 | [_],_,_,h=>by simp at h
 | a::b::r,x,y,h=>by
  rw[List.cons_append,List.cons_append,pairs,pairs_app r x y (by simp at h;omega),pairs,List.cons_append]
theorem rootR_pairs (z:D) (l:List D) (he:l.length%2=0) (h0:0<l.length):rootR jn z l=rootR jn z (pairs jn l):=by
 generalize hn:l.length=n
 induction n using Nat.strongRecOn generalizing l with
 | _ n ih =>
  have hpl:=pairs_length jn l
  by_cases h2:n≤2
  ·match l,hn with
   | [x,y],_ =>
    rw[rootR_more jn z [x,y] (by simp)]
    have hp:part ([x,y]:List D).length=1:=part_small (by simp)
    rw[hp]
    show jn (rootR jn z [x]) (rootR jn z [y])=rootR jn z [jn x y]
    rw[rootR_one,rootR_one,rootR_one]
   | [],hn=>simp at h0
   | [x],hn=>simp at he
   | x::y::w::r,hn=>simp at hn;omega
  ·obtain⟨q,hq⟩:∃q,q=part ((n+1)/2):=⟨_,rfl⟩
   have hpn:part n=2*q:=by rw[part_big (by omega),hq]
   have hpq:part (n/2)=q:=by rw[hq];congr 1;omega
   have h3:=part_lt (n:=n) (by omega)
   have h4:=part_pos ((n+1)/2)
   rw[rootR_more jn z l (by omega),rootR_more jn z (pairs jn l) (by rw[hpl];omega),hpl,hn,hpn,hpq,←pairs_take jn q l (by omega),←pairs_drop jn q l (by omega)]
   rw[ih (2*q) (by omega) (l.take (2*q)) (by rw[List.length_take];omega) (by rw[List.length_take];omega) (by rw[List.length_take];omega)]
   rw[ih (n-2*q) (by omega) (l.drop (2*q)) (by rw[List.length_drop];omega) (by rw[List.length_drop];omega) (by rw[List.length_drop];omega)]
def stk (l:List D):List D :=
 if h0:l=[] then [] else if l.length%2=1 then l.getLast h0::stk (pairs jn l.dropLast) else stk (pairs jn l)
termination_by l.length
decreasing_by
 ·rw[pairs_length,List.length_dropLast]
  have:0<l.length:=List.length_pos_iff.2 h0
  omega
 ·rw[pairs_length]
  have:0<l.length:=List.length_pos_iff.2 h0
  omega
theorem stk_nil:stk jn ([]:List D)=[]:=by rw[stk,dif_pos rfl]
theorem stk_odd (l:List D) (x:D) (h:l.length%2=0):stk jn (l++[x])=x::stk jn (pairs jn l):=by
 rw[stk,dif_neg (by simp),if_pos (by rw[List.length_append,List.length_singleton];omega)]
 simp
theorem stk_even (l:List D) (h:l.length%2=0):stk jn l=stk jn (pairs jn l):=by
 by_cases h0:l=[]
 ·subst h0;rfl
 ·conv=>lhs;rw[stk]
  rw[dif_neg h0,if_neg (by omega)]
def push (st:List D) (n:Nat) (d:D):List D :=
 if n%2=1 then (match st with|t::r=>push r (n/2) (jn t d)|[]=>[d]) else d::st
termination_by n
decreasing_by omega
theorem push_even (st:List D) {n:Nat} (d:D) (h:n%2=0):push jn st n d=d::st:=by
 conv=>lhs;unfold push
 rw[if_neg (by omega)]
theorem push_odd (t:D) (r:List D) {n:Nat} (d:D) (h:n%2=1):push jn (t::r) n d=push jn r (n/2) (jn t d):=by
 conv=>lhs;unfold push
 rw[if_pos h]
theorem stk_push (l:List D) (d:D):stk jn (l++[d])=push jn (stk jn l) l.length d:=by
 generalize hn:l.length=n
 induction n using Nat.strongRecOn generalizing l d with
 | _ n ih =>
  by_cases he:n%2=0
  ·rw[push_even jn _ d he,stk_odd jn l d (by omega),←stk_even jn l (by omega)]
  ·have hne:l≠[]:=by intro e;subst e;simp at hn;omega
   obtain⟨i,x,rfl⟩:∃i x,l=i++[x]:=⟨_,_,(List.dropLast_concat_getLast hne).symm⟩
   rw[List.length_append,List.length_singleton] at hn
   have hi:i.length%2=0:=by omega
   rw[List.append_assoc,stk_even jn _ (by simp;omega)]
   show stk jn (pairs jn (i++[x,d]))=_
   rw[pairs_app jn i x d hi,stk_odd jn i x hi,push_odd jn _ _ d (by omega)]
   have:=ih (n/2) (by omega) (pairs jn i) (jn x d) (by rw[pairs_length];omega)
   exact this
theorem stk_last (z:D) (l:List D) (h0:0<l.length):stk jn l=stk jn (l.drop (part (l.length+1)))++[rootR jn z (l.take (part (l.length+1)))]:=by
 generalize hn:l.length=n
 induction n using Nat.strongRecOn generalizing l with
 | _ n ih =>
  by_cases h1:n=1
  ·match l,hn with
   | [x],_ =>
    subst h1
    rw[part_small (by omega)]
    show stk jn ([]++[x])=stk jn []++[rootR jn z [x]]
    rw[stk_odd jn [] x rfl,rootR_one]
    show x::stk jn []=_
    rw[stk_nil]
    rfl
   | [],hn=>simp at h0
   | x::y::r,hn=>simp at hn;omega
  ·obtain⟨q,hq⟩:∃q,q=part (n/2+1):=⟨_,rfl⟩
   have hp:part (n+1)=2*q:=by rw[part_big (by omega),hq];congr 2;omega
   have hlt:part (n/2+1)<n/2+1:=part_lt (by omega)
   have hpos:=part_pos (n/2+1)
   rw[hp]
   by_cases he:n%2=0
   ·have e1:=ih (n/2) (by omega) (pairs jn l) (by rw[pairs_length];omega) (by rw[pairs_length];omega)
    rw[←hq] at e1
    rw[stk_even jn l (by omega),e1,←pairs_take jn q l (by omega),←pairs_drop jn q l (by omega),←stk_even jn _ (by rw[List.length_drop];omega),←rootR_pairs jn z _ (by rw[List.length_take];omega) (by rw[List.length_take];omega)]
   ·have hne:l≠[]:=by intro e;subst e;simp at h0
    obtain⟨i,x,rfl⟩:∃i x,l=i++[x]:=⟨_,_,(List.dropLast_concat_getLast hne).symm⟩
    rw[List.length_append,List.length_singleton] at hn
    have hi:i.length%2=0:=by omega
    have e1:=ih (n/2) (by omega) (pairs jn i) (by rw[pairs_length];omega) (by rw[pairs_length];omega)
    rw[←hq] at e1
    rw[stk_odd jn i x hi,e1,←pairs_take jn q i (by omega),←pairs_drop jn q i (by omega),←rootR_pairs jn z _ (by rw[List.length_take];omega) (by rw[List.length_take];omega),
     List.drop_append_of_le_length (by omega),List.take_append_of_le_length (by omega),stk_odd jn (i.drop (2*q)) x (by rw[List.length_drop];omega)]
    rfl
def fold1 (z:D):List D→D
 | []=>z
 | t::r=>r.foldl (fun d x=>jn x d) t
theorem fold1_app (z:D) (st:List D) (x:D) (h:st≠[]):fold1 jn z (st++[x])=jn x (fold1 jn z st):=by
 cases st with
 | nil=>exact absurd rfl h
 | cons t r=>simp[fold1,List.foldl_append]
theorem stk_ne (l:List D) (h:0<l.length):stk jn l≠[]:=by
 intro e
 match l,h with
 | x::r,h =>
  have:=stk_last jn x (x::r) h
  rw[e] at this
  simp at this
theorem fold_stk (z:D) (l:List D) (h:0<l.length):fold1 jn z (stk jn l)=rootR jn z l:=by
 generalize hn:l.length=n
 induction n using Nat.strongRecOn generalizing l with
 | _ n ih =>
  rw[stk_last jn z l h,hn]
  have hp:=part_lt (n:=n+1) (by omega)
  have hpos:=part_pos (n+1)
  by_cases hk:part (n+1)=n
  ·rw[hk,List.drop_eq_nil_of_le (by omega),List.take_of_length_le (by omega),stk_nil]
   rfl
  ·have h2:2≤n:=by omega
   have hpp:part n=part (n+1):=by
    have h3:=part_half (n:=n) h2
    have h4:=part_half (n:=n+1) (by omega)
    have key:∀m,2≤m→part (m+1)≠m→part m=part (m+1):=by
     intro m
     induction m using Nat.strongRecOn with
     | _ m ihm =>
      intro hm hne
      by_cases hm2:m=2
      ·subst hm2
       exact absurd (by decide +kernel) hne
      ·rw[part_big (n:=m) (by omega),part_big (n:=m+1) (by omega)]
       by_cases hev:m%2=0
       ·have e1:(m+1)/2=m/2:=by omega
        have e2:(m+1+1)/2=m/2+1:=by omega
        rw[e1,e2]
        congr 1
        refine ihm (m/2) (by omega) (by omega) (fun e=>hne ?_)
        rw[part_big (by omega),e2,e]
        omega
       ·have e1:(m+1)/2=(m+1+1)/2:=by omega
        rw[e1]
    exact key n h2 hk
   rw[fold1_app jn z _ _ (stk_ne jn _ (by rw[List.length_drop];omega)),ih (n-part (n+1)) (by omega) (l.drop (part (n+1))) (by rw[List.length_drop];omega) (by rw[List.length_drop];omega),rootR_more jn z l (by omega),hn,hpp]
end
end Go.Proofs.YtchjknbideoieaaGreatDoor
namespace Go.Proofs.YtchjknbideoieaaGreatDoor
set_option maxRecDepth 100000
set_option maxHeartbeats 8000000
section
variable {D:Type} (jn:D→D→D)
def halves (n:Nat):Nat:=if n=0 then 0 else halves (n/2)+1
termination_by n
decreasing_by omega
end
end Go.Proofs.YtchjknbideoieaaGreatDoor
namespace Go.Proofs.YtchjknbideoieaaGreatDoor
set_option maxRecDepth 100000
set_option maxHeartbeats 8000000
section
variable {D:Type} (jn:D→D→D)
theorem rootR_nil (z:D):rootR jn z []=z:=by rw[rootR]
theorem stk_pop (L:List D) (h:L.length%2=1):∃t L',stk jn L=t::stk jn L'∧L'.length=L.length/2:=by
 have hne:L≠[]:=by intro e;subst e;simp at h
 obtain⟨i,x,rfl⟩:∃i x,L=i++[x]:=⟨_,_,(List.dropLast_concat_getLast hne).symm⟩
 rw[List.length_append,List.length_singleton] at h ⊢
 exact⟨x,pairs jn i,stk_odd jn i x (by omega),by rw[pairs_length];omega⟩
theorem stk_len (L:List D):(stk jn L).length≤L.length:=by
 generalize hn:L.length=n
 induction n using Nat.strongRecOn generalizing L with
 | _ n ih =>
  by_cases h0:n=0
  ·have:L=[]:=List.eq_nil_of_length_eq_zero (by omega)
   subst this
   rw[stk_nil]
   exact Nat.zero_le _
  ·by_cases h:n%2=1
   ·obtain⟨t,L',e1,e2⟩:=stk_pop jn L (by omega)
    have:=ih (n/2) (by omega) L' (by omega)
    rw[e1,List.length_cons]
    omega
   ·have e:=stk_even jn L (by omega)
    have h2:=pairs_length jn L
    have:=ih (n/2) (by omega) (pairs jn L) (by omega)
    rw[e]
    omega
def foldUp (t:D) (r:List D) (j:Nat):D:=(r.take j).foldl (fun d x=>jn x d) t
theorem foldUp_step (t:D) (r:List D) {j:Nat} (hj:j<r.length):foldUp jn t r (j+1)=jn r[j] (foldUp jn t r j):=by
 unfold foldUp
 rw[List.take_add_one,List.getElem?_eq_getElem hj,List.foldl_append]
 rfl
theorem foldUp_all (z t:D) (r:List D):foldUp jn t r r.length=fold1 jn z (t::r):=by
 unfold foldUp
 rw[List.take_length]
 rfl
end
end Go.Proofs.YtchjknbideoieaaGreatDoor
