/- What is proved here: entries and operations as data, and as cells; which entry may be. No program in sight. No condition. check sums as words; a filter of keys never misses one of its keys. No program in sight. 64 bytes of a key, a nonce and a count, as words. No program in sight. plain laws of layer 8: the order of texts and of entries, an inner key's bytes and what they .. -/
import Derived.Test.YtchjknbideoieaaGreatDoorK01
import Derived.Test.YtchjknbideoieaaGreatDoorK02
import Derived.Lib.Strings
namespace Go.Proofs.YtchjknbideoieaaGreatDoor
set_option maxRecDepth 100000
set_option maxHeartbeats 8000000
structure Ent where
 user:ByteArray
 seq:UInt64
 kind:UInt8
 value:ByteArray
structure Opn where
 kind:UInt8
 user:ByteArray
 value:ByteArray
def entC (e:Ent):List Value:=[.string e.user,.int .u64 (e.seq.toNat:Int),.int .u8 (e.kind.toNat:Int),.string e.value]
def opC (o:Opn):List Value:=[.int .u8 (o.kind.toNat:Int),.string o.user,.string o.value]
abbrev entV (e:Ent):Value:=.agg #[.string e.user,.int .u64 (e.seq.toNat:Int),.int .u8 (e.kind.toNat:Int),.string e.value]
def rightE (e:Ent):Bool:=decide (e.user.size≤1024)&&decide (e.seq.toNat≤72057594037927935)&&decide (e.value.size≤65536)&&(decide (e.kind.toNat=1)||(decide (e.kind.toNat=0)&&decide (e.value.size=0)))
theorem entC_length (e:Ent):(entC e).length=4:=rfl
theorem opC_length (o:Opn):(opC o).length=3:=rfl
theorem u64_lt (n:UInt64):n.toNat<18446744073709551616:=n.toNat_lt
theorem u8_lt (n:UInt8):n.toNat<256:=n.toNat_lt
theorem toList_size (s:ByteArray):s.data.toList.length=s.size:=by rw[Array.length_toList];rfl
theorem rightE_le {e:Ent} (h:rightE e=true):e.user.size≤1024∧e.value.size≤65536:=by
 simp[rightE] at h
 omega
theorem ret_bool {a b:Bool} (h:a=b):Ending.returned (.bool a)=Ending.returned (.bool b):=by rw[h]
theorem isEmpty_size (s:ByteArray):s.toList.isEmpty=decide (s.size=0):=by
 rw[Lib.toList_data,Bool.eq_iff_iff]
 simp only[List.isEmpty_iff,decide_eq_true_eq]
 have e:s.data.toList.length=s.size:=by rw[Array.length_toList];rfl
 rw[←e]
 exact List.length_eq_zero_iff.symm
theorem rightE_f1 {e:Ent} (h:(1024:Int)<(e.user.size:Int)):rightE e=false:=by
 have h':¬e.user.size≤1024:=by omega
 simp[rightE,h']
theorem rightE_f2 {e:Ent} (h:(65536:Int)<(e.value.size:Int)):rightE e=false:=by
 have h':¬e.value.size≤65536:=by omega
 simp[rightE,h']
theorem rightE_f3 {e:Ent} (h:(72057594037927935:Int)<(e.seq.toNat:Int)):rightE e=false:=by
 have h':¬e.seq.toNat≤72057594037927935:=by omega
 simp[rightE,h']
theorem rightE_del {e:Ent} (h1:(e.user.size:Int)≤1024) (h2:(e.value.size:Int)≤65536) (h3:(e.seq.toNat:Int)≤72057594037927935) (h:((e.kind.toNat:Int)==0)=true):rightE e=e.value.toList.isEmpty:=by
 have a1:e.user.size≤1024:=by omega
 have a2:e.value.size≤65536:=by omega
 have a3:e.seq.toNat≤72057594037927935:=by omega
 have a4:e.kind.toNat=0:=by rw[beq_iff_eq] at h;omega
 rw[isEmpty_size]
 simp[rightE,a1,a2,a3,a4]
theorem rightE_put {e:Ent} (h1:(e.user.size:Int)≤1024) (h2:(e.value.size:Int)≤65536) (h3:(e.seq.toNat:Int)≤72057594037927935) (h:((e.kind.toNat:Int)==0)=false):rightE e=((e.kind.toNat:Int)==1):=by
 have a1:e.user.size≤1024:=by omega
 have a2:e.value.size≤65536:=by omega
 have a3:e.seq.toNat≤72057594037927935:=by omega
 have a4:e.kind.toNat≠0:=by rw[beq_eq_false_iff_ne] at h;omega
 rw[Bool.eq_iff_iff]
 simp[rightE,a1,a2,a3,a4]
 omega
def SO (w:World) (B:Nat) (v:Value) (l:List Opn):Prop:=Sl w B 3 v l.length (l.flatMap opC)
def SE (w:World) (B:Nat) (v:Value) (l:List Ent):Prop:=Sl w B 4 v l.length (l.flatMap entC)
def EntOk (e:Ent):Prop:=e.user.size≤9223372036854775807∧e.value.size≤9223372036854775807
section
variable {w w':World} {B B':Nat} {v:Value} {l:List Opn} {m:List Ent}
theorem SO.on (h:SO w w.heap.size v l) (hb:Go.RowKit.Below w.heap.size w w'):SO w' w'.heap.size v l:=(Sl.below h hb).more hb.size
theorem SE.on (h:SE w w.heap.size v m) (hb:Go.RowKit.Below w.heap.size w w'):SE w' w'.heap.size v m:=(Sl.below h hb).more hb.size
theorem SO.form (h:SO w B v l):∃A c,v=.slice A l.length c∧l.length≤c∧c≤maxLen∧Rd w B 3 A l.length (l.flatMap opC):=h
theorem SE.form (h:SE w B v m):∃A c,v=.slice A m.length c∧m.length≤c∧c≤maxLen∧Rd w B 4 A m.length (m.flatMap entC):=h
theorem Rd.op {A:Option Addr} {n:Nat} (h:Rd w B 3 A n (l.flatMap opC)) (hn:n=l.length) {k:Nat} (hk:k<l.length) :
  ∃b o,A=some ⟨b,o,none⟩∧b<B∧w.cell? ⟨b,o+k*3,none⟩=some (.int .u8 (l[k].kind.toNat:Int))∧w.cell? ⟨b,o+k*3+1,none⟩=some (.string l[k].user)∧w.cell? ⟨b,o+k*3+2,none⟩=some (.string l[k].value):=by
 obtain⟨b,o,e,hb,hc⟩:=h.elem opC_length hn hk
 exact⟨b,o,e,hb,hc 0 _ (by omega) rfl,hc 1 _ (by omega) rfl,hc 2 _ (by omega) rfl⟩
theorem Rd.ent {A:Option Addr} {n:Nat} (h:Rd w B 4 A n (m.flatMap entC)) (hn:n=m.length) {k:Nat} (hk:k<m.length) :
  ∃b o,A=some ⟨b,o,none⟩∧b<B∧w.cell? ⟨b,o+k*4,none⟩=some (.string m[k].user)∧w.cell? ⟨b,o+k*4+1,none⟩=some (.int .u64 (m[k].seq.toNat:Int))∧w.cell? ⟨b,o+k*4+2,none⟩=some (.int .u8 (m[k].kind.toNat:Int))∧w.cell? ⟨b,o+k*4+3,none⟩=some (.string m[k].value):=by
 obtain⟨b,o,e,hb,hc⟩:=h.elem entC_length hn hk
 exact⟨b,o,e,hb,hc 0 _ (by omega) rfl,hc 1 _ (by omega) rfl,hc 2 _ (by omega) rfl,hc 3 _ (by omega) rfl⟩
end
end Go.Proofs.YtchjknbideoieaaGreatDoor
namespace Go.Proofs.YtchjknbideoieaaGreatDoor
set_option maxRecDepth 100000
set_option maxHeartbeats 8000000
def nibS (x:UInt32):UInt32:=(x >>> 1) ^^^ (0x82f63b78 &&& (0-(x &&& 1)))
def nibW (x:UInt32):UInt32:=nibS (nibS (nibS (nibS x)))
def crcStep (x:UInt32) (c:UInt8):UInt32:=nibW (nibW (x ^^^ c.toUInt32))
def crcMore (s:UInt32) (b:List UInt8):UInt32 := ~~~ (b.foldl crcStep (~~~ s))
def bitSet (b:List UInt8) (p:Nat):List UInt8:=b.set (p/8) ((b.getD (p/8) 0) ||| (1 <<< UInt8.ofNat (p%8)))
def bitAt (b:List UInt8) (p:Nat):Bool:=((b.getD (p/8) 0) >>> UInt8.ofNat (p%8)) &&& 1 !=0
theorem bit_same:∀n,n<256→∀k,k<8→(((UInt8.ofNat n ||| (1 <<< UInt8.ofNat k)) >>> UInt8.ofNat k) &&& 1 !=0)=true:=by decide +kernel
theorem bit_mono:∀n,n<256→∀k,k<8→∀j,j<8→((UInt8.ofNat n >>> UInt8.ofNat j) &&& 1 !=0)=true→(((UInt8.ofNat n ||| (1 <<< UInt8.ofNat k)) >>> UInt8.ofNat j) &&& 1 !=0)=true:=by decide +kernel
theorem u8_ofNat (x:UInt8):UInt8.ofNat x.toNat=x:=by simp
theorem bitSet_length (b:List UInt8) (p:Nat):(bitSet b p).length=b.length:=by simp[bitSet]
theorem bitAt_same (b:List UInt8) (p:Nat) (h:p/8<b.length):bitAt (bitSet b p) p=true:=by
 unfold bitAt bitSet
 rw[List.getD_eq_getElem?_getD,List.getElem?_set_self h]
 have:=bit_same (b.getD (p/8) 0).toNat (u8_lt _) (p%8) (Nat.mod_lt _ (by omega))
 rw[u8_ofNat] at this
 exact this
theorem bitAt_mono (b:List UInt8) (p q:Nat) (h:bitAt b q=true):bitAt (bitSet b p) q=true:=by
 unfold bitAt bitSet at *
 by_cases e:p/8=q/8
 ·by_cases hl:q/8<b.length
  ·rw[e,List.getD_eq_getElem?_getD,List.getElem?_set_self hl]
   have:=bit_mono (b.getD (q/8) 0).toNat (u8_lt _) (p%8) (Nat.mod_lt _ (by omega)) (q%8) (Nat.mod_lt _ (by omega))
   rw[u8_ofNat] at this
   exact this h
  ·have e0:b.getD (q/8) 0=0:=by rw[List.getD_eq_getElem?_getD,List.getElem?_eq_none (by omega)];rfl
   rw[e0] at h
   exfalso
   have hz:∀j,j<8→(((0:UInt8) >>> UInt8.ofNat j) &&& 1 !=0)=false:=by decide +kernel
   rw[hz (q%8) (Nat.mod_lt _ (by omega))] at h
   cases h
 ·rw[List.getD_eq_getElem?_getD,List.getElem?_set_ne e,←List.getD_eq_getElem?_getD]
  exact h
def probeSet (m:Nat) (d:UInt32):Nat→UInt32→List UInt8→List UInt8
 | 0,_,b=>b
 | k+1,h,b=>probeSet m d k (h+d) (bitSet b (h.toNat%m))
def probeAll (m:Nat) (d:UInt32):Nat→UInt32→List UInt8→Bool
 | 0,_,_=>true
 | k+1,h,b=>bitAt b (h.toNat%m)&&probeAll m d k (h+d) b
theorem probeSet_length (m:Nat) (d:UInt32):∀k h b,(probeSet m d k h b).length=b.length
 | 0,_,_=>rfl
 | k+1,h,b=>by rw[probeSet,probeSet_length m d k,bitSet_length]
theorem bitAt_probes (m:Nat) (d:UInt32) (q:Nat):∀k h b,bitAt b q=true→bitAt (probeSet m d k h b) q=true
 | 0,_,_,hb=>hb
 | k+1,_h,b,hb=>bitAt_probes m d q k _ _ (bitAt_mono b _ q hb)
theorem probeAll_mono (m:Nat) (d:UInt32) (p:Nat):∀k h b,probeAll m d k h b=true→probeAll m d k h (bitSet b p)=true
 | 0,_,_,_=>rfl
 | k+1,h,b,hb=>by
  rw[probeAll,Bool.and_eq_true] at hb ⊢
  exact⟨bitAt_mono b p _ hb.1,probeAll_mono m d p k _ b hb.2⟩
theorem probeAll_set (m:Nat) (d:UInt32) (hm:0<m):∀k h b,m=8*b.length→probeAll m d k h (probeSet m d k h b)=true
 | 0,_,_,_=>rfl
 | k+1,h,b,hb=>by
  have hlt:h.toNat%m<m:=Nat.mod_lt _ hm
  rw[probeAll,probeSet,Bool.and_eq_true]
  exact⟨bitAt_probes m d _ k _ _ (bitAt_same b _ (by omega)),probeAll_set m d hm k _ _ (by rw[bitSet_length];exact hb)⟩
theorem probeAll_probes (m:Nat) (d:UInt32) (m':Nat) (d':UInt32) (k:Nat) (h:UInt32):∀k' h' b,probeAll m d k h b=true→probeAll m d k h (probeSet m' d' k' h' b)=true
 | 0,_,_,hb=>hb
 | k'+1,_h',b,hb=>probeAll_probes m d m' d' k h k' _ _ (probeAll_mono m d _ k h b hb)
def rot15 (h:UInt32):UInt32:=(h <<< 15) ||| (h >>> 17)
def setKey (probes:Nat) (b key:List UInt8):List UInt8:=probeSet (8*b.length) (rot15 (crcMore 0 key)) probes (crcMore 0 key) b
def mayKey (probes:Nat) (b key:List UInt8):Bool:=probeAll (8*b.length) (rot15 (crcMore 0 key)) probes (crcMore 0 key) b
theorem setKey_length (probes:Nat) (b key:List UInt8):(setKey probes b key).length=b.length:=probeSet_length _ _ _ _ _
def fillB (probes:Nat) (keys:List (List UInt8)) (b:List UInt8):List UInt8:=keys.foldl (setKey probes) b
theorem fillB_length (probes:Nat):∀keys b,(fillB probes keys b).length=b.length
 | [],_=>rfl
 | k::keys,b=>by
  show (fillB probes keys (setKey probes b k)).length=_
  rw[fillB_length probes keys,setKey_length]
theorem may_kept (probes:Nat) (key:List UInt8):∀keys b,mayKey probes b key=true→mayKey probes (fillB probes keys b) key=true
 | [],_,h=>h
 | k::keys,b,h=>by
  show mayKey probes (fillB probes keys (setKey probes b k)) key=true
  refine may_kept probes key keys _ ?_
  unfold mayKey at h ⊢
  rw[setKey_length]
  exact probeAll_probes _ _ _ _ _ _ _ _ _ h
theorem may_fill (probes:Nat) (key:List UInt8):∀keys b,0<b.length→key∈keys→mayKey probes (fillB probes keys b) key=true
 | [],_,_,h=>by cases h
 | k::keys,b,hb,h=>by
  show mayKey probes (fillB probes keys (setKey probes b k)) key=true
  rcases List.mem_cons.1 h with rfl|h
  ·refine may_kept probes key keys _ ?_
   unfold mayKey
   rw[setKey_length]
   exact probeAll_set _ _ (by omega) _ _ _ rfl
  ·exact may_fill probes key keys _ (by rw[setKey_length];exact hb) h
end Go.Proofs.YtchjknbideoieaaGreatDoor
namespace Go.Proofs.YtchjknbideoieaaGreatDoor
set_option maxRecDepth 100000
set_option maxHeartbeats 8000000
def rotl (x k:UInt32):UInt32:=(x <<< k) ||| (x >>> (32-k))
structure Qd where
 a:UInt32
 b:UInt32
 c:UInt32
 d:UInt32
def mixH (q:Qd) (k j:UInt32):Qd :=
 let a:=q.a+q.b
 let d:=rotl (q.d ^^^ a) k
 let c:=q.c+d
 ⟨a,rotl (q.b ^^^ c) j,c,d⟩
def mixQ (q:Qd):Qd:=mixH (mixH q 16 12) 8 7
def at16 (y:List UInt32) (i:Nat):UInt32:=y.getD i 0
def put4 (y:List UInt32) (i j k l:Nat) (q:Qd):List UInt32:=(((y.set i q.a).set j q.b).set k q.c).set l q.d
def quarter (y:List UInt32) (i j k l:Nat):List UInt32:=put4 y i j k l (mixQ ⟨at16 y i,at16 y j,at16 y k,at16 y l⟩)
def columns:Nat→List UInt32→List UInt32
 | 0,y=>y
 | n+1,y=>quarter (columns n y) n (4+n) (8+n) (12+n)
def twoRounds (y:List UInt32):List UInt32 :=
 quarter (quarter (quarter (quarter (columns 4 y) 0 5 10 15) 1 6 11 12) 2 7 8 13) 3 4 9 14
def roundsY:Nat→List UInt32→List UInt32
 | 0,y=>y
 | n+1,y=>twoRounds (roundsY n y)
theorem quarter_length (y:List UInt32) (i j k l:Nat):(quarter y i j k l).length=y.length:=by simp[quarter,put4]
theorem columns_length (y:List UInt32):∀n,(columns n y).length=y.length
 | 0=>rfl
 | n+1=>by rw[columns,quarter_length,columns_length y n]
theorem roundsY_length (y:List UInt32):∀n,(roundsY n y).length=y.length
 | 0=>rfl
 | n+1=>by
  rw[roundsY,twoRounds,quarter_length,quarter_length,quarter_length,quarter_length,columns_length,roundsY_length y n]
def wPart (b:List UInt8) (i:Nat):Nat→UInt32
 | 0=>0
 | j+1=>(wPart b i j <<< 8) ||| (b.getD (4*i+(3-j)) 0).toUInt32
def le4 (b:List UInt8) (i:Nat):UInt32:=wPart b i 4
def upW (X:List UInt32) (o:Nat) (b:List UInt8):Nat→List UInt32
 | 0=>X
 | i+1=>(upW X o b i).set (o+i) (le4 b i)
theorem upW_length (X:List UInt32) (o:Nat) (b:List UInt8):∀i,(upW X o b i).length=X.length
 | 0=>rfl
 | i+1=>by rw[upW,List.length_set,upW_length X o b i]
theorem upW_get (X:List UInt32) (o:Nat) (b:List UInt8) (t:Nat):∀i,o+i≤t→(upW X o b i)[t]? = X[t]?
 | 0,_=>rfl
 | i+1,h=>by rw[upW,List.getElem?_set_ne (by omega),upW_get X o b t i (by omega)]
def lesB (b:List UInt8) (n:Nat):List UInt32:=(List.range n).map (le4 b)
theorem lesB_length (b:List UInt8) (n:Nat):(lesB b n).length=n:=by simp[lesB]
def start16 (key nonce:List UInt8) (count:UInt32):List UInt32:=[0x61707865,0x3320646e,0x79622d32,0x6b206574]++lesB key 8++count::lesB nonce 3
theorem start16_length (key nonce:List UInt8) (count:UInt32):(start16 key nonce count).length=16:=by simp[start16,lesB_length]
def four (n:UInt32):List UInt8:=[n.toUInt8,(n >>> 8).toUInt8,((n >>> 8) >>> 8).toUInt8,(((n >>> 8) >>> 8) >>> 8).toUInt8]
def strmB (key nonce:List UInt8) (count:UInt32):List UInt8 :=
 let x:=start16 key nonce count
 (List.zipWith (·+·) (roundsY 10 x) x).flatMap four
theorem four_length (l:List UInt32):(l.flatMap four).length=4*l.length:=by
 induction l with
 | nil=>rfl
 | cons x l ih=>rw[List.flatMap_cons,List.length_append,ih,List.length_cons];simp[four];omega
theorem strmB_length (key nonce:List UInt8) (count:UInt32):(strmB key nonce count).length=64:=by
 unfold strmB
 simp only
 rw[four_length,List.length_zipWith,roundsY_length,start16_length]
 rfl
end Go.Proofs.YtchjknbideoieaaGreatDoor
namespace Go.Proofs.YtchjknbideoieaaGreatDoor
set_option maxRecDepth 100000
set_option maxHeartbeats 8000000
abbrev ltB (a b:List UInt8):Bool:=Op.bytesLess a b
theorem ltB_irr:∀a:List UInt8,ltB a a=false
 | []=>rfl
 | x::a=>by
  have h:¬x<x:=by rw[UInt8.lt_iff_toNat_lt];omega
  simp[Op.bytesLess,h,ltB_irr a]
theorem ltB_asymm:∀a b:List UInt8,ltB a b=true→ltB b a=false
 | _,[],h=>by simp[Op.bytesLess] at h
 | [],_::_,_=>rfl
 | x::a,y::b,h=>by
  simp only[ltB,Op.bytesLess,Bool.or_eq_true,decide_eq_true_eq,Bool.and_eq_true,beq_iff_eq,UInt8.lt_iff_toNat_lt] at h
  rcases h with h|⟨rfl,h⟩
  ·have h1:¬y<x:=by rw[UInt8.lt_iff_toNat_lt];omega
   have h2:¬y=x:=by intro e;subst e;omega
   simp[Op.bytesLess,h1,h2]
  ·have h1:¬x<x:=by rw[UInt8.lt_iff_toNat_lt];omega
   have:=ltB_asymm a b h
   simp only[ltB] at this
   simp[Op.bytesLess,h1,this]
theorem ltB_tri:∀a b:List UInt8,ltB a b=false→ltB b a=false→a=b
 | [],[],_,_=>rfl
 | [],_::_,h,_=>by simp[Op.bytesLess] at h
 | _::_,[],_,h=>by simp[Op.bytesLess] at h
 | x::a,y::b,h1,h2=>by
  simp only[ltB,Op.bytesLess,Bool.or_eq_false_iff,decide_eq_false_iff_not,UInt8.lt_iff_toNat_lt] at h1 h2
  have e:x=y:=by apply UInt8.toNat_inj.1;omega
  subst e
  simp only[BEq.rfl,Bool.true_and] at h1 h2
  rw[ltB_tri a b h1.2 h2.2]
theorem ltB_trans:∀a b c:List UInt8,ltB a b=true→ltB b c=true→ltB a c=true
 | _,[],_,h,_=>by simp[Op.bytesLess] at h
 | _,_::_,[],_,h=>by simp[Op.bytesLess] at h
 | [],_::_,_::_,_,_=>rfl
 | x::a,y::b,z::c,h1,h2=>by
  simp only[ltB,Op.bytesLess,Bool.or_eq_true,decide_eq_true_eq,Bool.and_eq_true,beq_iff_eq,UInt8.lt_iff_toNat_lt] at h1 h2 ⊢
  rcases h1 with h1|⟨rfl,h1⟩
  ·rcases h2 with h2|⟨rfl,h2⟩
   ·left;omega
   ·left;omega
  ·rcases h2 with h2|⟨rfl,h2⟩
   ·left;omega
   ·right;exact⟨rfl,ltB_trans a b c h1 h2⟩
def aheadE (a b:Ent):Bool:=ltB a.user.toList b.user.toList||(a.user.toList==b.user.toList&&decide (b.seq.toNat<a.seq.toNat))
def risesE:List Ent→Bool
 | []=>true
 | [_]=>true
 | a::b::l=>aheadE a b&&risesE (b::l)
def layE (e:Ent):List UInt8:=e.user.data.toList++fix ((e.seq.toNat*256+e.kind.toNat)%18446744073709551616) 8
def takeE (s:List UInt8):Ent:=⟨⟨(s.take (s.length-8)).toArray⟩,UInt64.ofNat (leN (s.drop (s.length-8))/256),UInt8.ofNat (leN (s.drop (s.length-8))%256),⟨#[]⟩⟩
def isKey (s:List UInt8):Bool:=decide (8≤s.length)&&rightE (takeE s)
def partAt:List UInt8→List UInt8→Nat
 | x::a,y::b=>if x=y then partAt a b+1 else 0
 | _,_=>0
theorem partAt_le:∀a b,partAt a b≤a.length∧partAt a b≤b.length
 | [],[]=>by simp[partAt]
 | [],_::_=>by simp[partAt]
 | _::_,[]=>by simp[partAt]
 | x::a,y::b=>by
  rw[partAt]
  have:=partAt_le a b
  split
  ·simp;omega
  ·simp
def lowAt:List UInt8→Nat
 | []=>0
 | x::a=>if x.toNat=255 then lowAt a+1 else 0
def raise (a:List UInt8) (k:Nat):List UInt8:=a.take k++[UInt8.ofNat ((a[k]?.getD 0).toNat+1)]
def between (a b:List UInt8):List UInt8 :=
 if partAt a b<a.length∧partAt a b<b.length∧(a[partAt a b]?.getD 0).toNat+2≤(b[partAt a b]?.getD 0).toNat then raise a (partAt a b) else a
def after (a:List UInt8):List UInt8:=if lowAt a<a.length then raise a (lowAt a) else a
end Go.Proofs.YtchjknbideoieaaGreatDoor
namespace Go.Proofs.YtchjknbideoieaaGreatDoor
set_option maxRecDepth 100000
set_option maxHeartbeats 8000000
theorem ltB_app:∀(p u v:List UInt8),ltB (p++u) (p++v)=ltB u v
 | [],_,_=>rfl
 | x::p,u,v=>by
  have h1:¬x<x:=by rw[UInt8.lt_iff_toNat_lt];omega
  have ih:=ltB_app p u v
  simp only[ltB] at ih
  simp[Op.bytesLess,h1,ih]
theorem ltB_head {x y:UInt8} (u v:List UInt8) (h:x.toNat<y.toNat):ltB (x::u) (y::v)=true:=by
 have:x<y:=by rw[UInt8.lt_iff_toNat_lt];exact h
 simp[Op.bytesLess,this]
theorem split_at (a:List UInt8) (k:Nat) (h:k<a.length):a=a.take k++(a[k]?.getD 0)::a.drop (k+1):=by
 rw[List.getElem?_eq_getElem h]
 conv=>lhs;rw[←List.take_append_drop k a,List.drop_eq_getElem_cons h]
 rfl
theorem raise_gt (a:List UInt8) (k:Nat) (h:k<a.length) (h2:(a[k]?.getD 0).toNat<255):ltB a (raise a k)=true:=by
 unfold raise
 conv=>lhs;arg 1;rw[split_at a k h]
 rw[ltB_app]
 refine ltB_head _ _ ?_
 rw[UInt8.toNat_ofNat'];omega
theorem partAt_take:∀(a b:List UInt8),a.take (partAt a b)=b.take (partAt a b)
 | [],[]=>rfl
 | [],_::_=>by simp[partAt]
 | _::_,[]=>by simp[partAt]
 | x::a,y::b=>by
  rw[partAt]
  by_cases h:x=y
  ·rw[if_pos h,List.take_succ_cons,List.take_succ_cons,h,partAt_take a b]
  ·rw[if_neg h];rfl
theorem not_ltB_of {a b:List UInt8} (h:ltB a b=true):ltB b a=false:=ltB_asymm a b h
theorem between_ge (a b:List UInt8):ltB (between a b) a=false:=by
 unfold between
 split
 ·rename_i h
  exact not_ltB_of (raise_gt a _ h.1 (by have:=u8_lt (b[partAt a b]?.getD 0);omega))
 ·exact ltB_irr a
theorem raise_length (a:List UInt8) (k:Nat) (h:k<a.length):(raise a k).length≤a.length:=by
 unfold raise;rw[List.length_append,List.length_take];simp;omega
theorem between_le (a b:List UInt8):(between a b).length≤a.length:=by
 unfold between
 split
 ·rename_i h;exact raise_length _ _ h.1
 ·exact Nat.le_refl _
def bare (e:Ent):Ent:=⟨e.user,e.seq,e.kind,⟨#[]⟩⟩
theorem layE_length (e:Ent):(layE e).length=e.user.size+8:=by
 have:=toList_size e.user
 unfold layE;rw[List.length_append,fix_length];omega
theorem right_seq {e:Ent} (h:rightE e=true):e.seq.toNat≤72057594037927935∧e.kind.toNat≤1:=by
 simp only[rightE,Bool.and_eq_true,Bool.or_eq_true] at h
 obtain⟨⟨⟨_,a2⟩,_⟩,a4⟩:=h
 refine⟨of_decide_eq_true a2,?_⟩
 rcases a4 with a4|a4
 ·have:=of_decide_eq_true a4;omega
 ·have:=of_decide_eq_true a4.1;omega
theorem right_bare {e:Ent} (h:rightE e=true):rightE (bare e)=true:=by
 have h2:=rightE_le h
 have h3:=right_seq h
 have z:(bare e).value.size=0:=rfl
 have a1:(bare e).user.size≤1024:=h2.1
 have a2:(bare e).seq.toNat≤72057594037927935:=h3.1
 have a3:(bare e).value.size≤65536:=by omega
 have a4:(bare e).kind.toNat=1∨(bare e).kind.toNat=0:=by have:(bare e).kind.toNat≤1:=h3.2;omega
 unfold rightE
 rcases a4 with a4|a4 <;> simp[a1,a2,a4,z]
theorem leN_lay (e:Ent):leN ((layE e).drop ((layE e).length-8))=(e.seq.toNat*256+e.kind.toNat)%18446744073709551616∧(layE e).take ((layE e).length-8)=e.user.data.toList:=by
 have hl:=layE_length e
 have hs:=toList_size e.user
 have e1:(layE e).length-8=e.user.data.toList.length:=by omega
 rw[e1]
 unfold layE
 rw[List.drop_left,List.take_left,leN_fix8 _ (Nat.mod_lt _ (by omega))]
 exact⟨rfl,rfl⟩
theorem takeE_lay {e:Ent} (h:rightE e=true):takeE (layE e)=bare e∧isKey (layE e)=true:=by
 have h3:=right_seq h
 obtain⟨l1,l2⟩:=leN_lay e
 have hm:(e.seq.toNat*256+e.kind.toNat)%18446744073709551616=e.seq.toNat*256+e.kind.toNat:=Nat.mod_eq_of_lt (by omega)
 have ht:takeE (layE e)=bare e:=by
  unfold takeE bare
  rw[l1,l2,hm]
  have q1:(e.seq.toNat*256+e.kind.toNat)/256=e.seq.toNat:=by omega
  have q2:(e.seq.toNat*256+e.kind.toNat)%256=e.kind.toNat:=by omega
  rw[q1,q2]
  simp
 refine⟨ht,?_⟩
 unfold isKey
 rw[ht,right_bare h,layE_length]
 simp
end Go.Proofs.YtchjknbideoieaaGreatDoor
namespace Go.Proofs.YtchjknbideoieaaGreatDoor
set_option maxRecDepth 100000
set_option maxHeartbeats 8000000
def ent0:Ent:=⟨⟨#[]⟩,0,0,⟨#[]⟩⟩
def keyAt (l:List Ent) (i:Nat):List UInt8:=layE (l.getD i ent0)
def lastAt (l:List Ent):Nat→List UInt8
 | 0=>[]
 | i+1=>keyAt l i
def shareAt (ev:Nat) (l:List Ent) (i:Nat):Nat:=if i%ev=0 then 0 else partAt (lastAt l i) (keyAt l i)
def oneB (k:Nat) (e:Ent):List UInt8:=num k++num ((layE e).length-k)++num e.value.size++(layE e).drop k++e.value.data.toList
def outAt (ev:Nat) (l:List Ent):Nat→List UInt8
 | 0=>num ev++num l.length
 | i+1=>outAt ev l i++oneB (shareAt ev l i) (l.getD i ent0)
def placesAt (ev:Nat) (l:List Ent):Nat→List UInt8
 | 0=>[]
 | i+1=>if i%ev=0 then placesAt ev l i++fix (outAt ev l i).length 4 else placesAt ev l i
def startsAt (ev:Nat):Nat→Nat
 | 0=>0
 | i+1=>if i%ev=0 then startsAt ev i+1 else startsAt ev i
def blockB (ev:Nat) (l:List Ent):List UInt8:=outAt ev l l.length++placesAt ev l l.length++fix (startsAt ev l.length) 4
def rightL (l:List Ent):Bool:=risesE l&&l.all rightE
def buildB (ev:Int) (l:List Ent):List UInt8 × Nat :=
 if 1≤ev∧ev≤1024∧rightL l=true then (if 1048576<(blockB ev.toNat l).length then ([],4) else (blockB ev.toNat l,0)) else ([],1)
def takeB1 (s:Rs) (last:List UInt8):Option (Ent × List UInt8 × List UInt8) :=
 let a:=sNum s
 let b:=sNum a.2
 let c:=sNum b.2
 if c.2.2≠0∨last.length<a.1∨c.2.1.length<b.1∨c.2.1.length-b.1<c.1 then none
 else if isKey (last.take a.1++c.2.1.take b.1) then
  some (⟨(takeE (last.take a.1++c.2.1.take b.1)).user,(takeE (last.take a.1++c.2.1.take b.1)).seq,(takeE (last.take a.1++c.2.1.take b.1)).kind,⟨((c.2.1.drop b.1).take c.1).toArray⟩⟩,last.take a.1++c.2.1.take b.1,c.2.1.drop (b.1+c.1))
 else none
def readL:Nat→List UInt8→List UInt8→Option (List Ent)
 | 0,_,_=>some []
 | n+1,s,last=>match takeB1 (s,0) last with
  | none=>none
  | some (e,key,r)=>(readL n r key).map (e::·)
def readB (b:List UInt8):List Ent × Nat :=
 if (sNum (sNum (b,0)).2).2.2≠0∨1024<(sNum (b,0)).1 then ([],100)
 else match readL (sNum (sNum (b,0)).2).1 (sNum (sNum (b,0)).2).2.1 [] with
  | none=>([],100)
  | some l=>if buildB ((sNum (b,0)).1:Nat) l=(b,0) then (l,0) else ([],100)
theorem lay_le {e:Ent} (h:rightE e=true):(layE e).length≤1032:=by
 have h1:=layE_length e
 have h2:=rightE_le h
 omega
theorem takeB1_one (e:Ent) (k:Nat) (last r:List UInt8) (he:rightE e=true) (h1:k≤last.length) (h2:k≤(layE e).length) (h3:last.take k=(layE e).take k) :
  takeB1 (oneB k e++r,0) last=some (e,layE e,r):=by
 have hl:=lay_le he
 have hv:=(rightE_le he).2
 have hd:((layE e).drop k).length=(layE e).length-k:=List.length_drop
 have hz:=toList_size e.value
 have e0:oneB k e++r=num k++(num ((layE e).length-k)++(num e.value.size++((layE e).drop k++(e.value.data.toList++r)))):=by simp[oneB]
 have q1:((layE e).drop k++(e.value.data.toList++r)).take ((layE e).length-k)=(layE e).drop k:=List.take_left' hd
 have q2:((layE e).drop k++(e.value.data.toList++r)).drop ((layE e).length-k)=e.value.data.toList++r:=List.drop_left' hd
 have q3:(e.value.data.toList++r).take e.value.size=e.value.data.toList:=List.take_left' hz
 have q4:((layE e).drop k++(e.value.data.toList++r)).drop ((layE e).length-k+e.value.size)=r:=by rw[←List.drop_drop,q2,List.drop_left' hz]
 have q5:last.take k++(layE e).drop k=layE e:=by rw[h3,List.take_append_drop]
 unfold takeB1
 rw[e0,sNum_num k _ (by omega)]
 simp only[]
 rw[sNum_num _ _ (by omega)]
 simp only[]
 rw[sNum_num _ _ (by omega)]
 simp only[]
 rw[if_neg (by simp only[List.length_append];omega),q1,q2,q3,q4,q5,(takeE_lay he).1,if_pos (takeE_lay he).2]
 simp[bare]
def onesB (ev:Nat) (l:List Ent):Nat→Nat→List UInt8
 | _,0=>[]
 | i,j+1=>oneB (shareAt ev l i) (l.getD i ent0)++onesB ev l (i+1) j
theorem out_ones (ev:Nat) (l:List Ent):∀j i,outAt ev l (i+j)=outAt ev l i++onesB ev l i j:=by
 intro j
 induction j with
 | zero=>intro i;simp[onesB]
 | succ j ih =>
  intro i
  rw[show i+(j+1)=(i+1)+j from by omega,ih (i+1),onesB,outAt,List.append_assoc]
theorem blockB_form (ev:Nat) (l:List Ent):blockB ev l=num ev++(num l.length++(onesB ev l 0 l.length++(placesAt ev l l.length++fix (startsAt ev l.length) 4))):=by
 have h:=out_ones ev l l.length 0
 rw[Nat.zero_add] at h
 unfold blockB
 rw[h,outAt]
 simp
theorem share_le (ev:Nat) (l:List Ent) (i:Nat):shareAt ev l i≤(lastAt l i).length∧shareAt ev l i≤(keyAt l i).length∧(lastAt l i).take (shareAt ev l i)=(keyAt l i).take (shareAt ev l i):=by
 unfold shareAt
 split
 ·simp
 ·have:=partAt_le (lastAt l i) (keyAt l i)
  exact⟨this.1,this.2,partAt_take _ _⟩
theorem readL_ones (ev:Nat) (l:List Ent) (hr:∀e∈l,rightE e=true) (r:List UInt8):∀j i,i+j=l.length→readL j (onesB ev l i j++r) (lastAt l i)=some (l.drop i):=by
 intro j
 induction j with
 | zero=>intro i h;rw[List.drop_of_length_le (by omega)];rfl
 | succ j ih =>
  intro i h
  have hi:i<l.length:=by omega
  have hg:l.getD i ent0=l[i]:=by rw[List.getD_eq_getElem?_getD,List.getElem?_eq_getElem hi];rfl
  obtain⟨s1,s2,s3⟩:=share_le ev l i
  have ht:=takeB1_one (l.getD i ent0) (shareAt ev l i) (lastAt l i) (onesB ev l (i+1) j++r) (by rw[hg];exact hr _ (List.getElem_mem hi)) s1 s2 s3
  rw[readL,onesB,List.append_assoc,ht]
  show (readL j (onesB ev l (i+1) j++r) (keyAt l i)).map _=_
  have:=ih (i+1) (by omega)
  rw[show lastAt l (i+1)=keyAt l i from rfl] at this
  rw[this,List.drop_eq_getElem_cons hi,hg]
  rfl
theorem rightL_all {l:List Ent} (h:rightL l=true):risesE l=true∧∀e∈l,rightE e=true:=by
 unfold rightL at h
 rw[Bool.and_eq_true,List.all_eq_true] at h
 exact h
theorem num_pos (n:Nat):1≤(num n).length:=by
 unfold num
 rw[numF]
 split <;> simp
theorem onesB_len (ev:Nat) (l:List Ent):∀j i,j≤(onesB ev l i j).length:=by
 intro j
 induction j with
 | zero=>intro i;simp
 | succ j ih =>
  intro i
  have h1:=ih (i+1)
  have h2:=num_pos (shareAt ev l i)
  rw[onesB]
  simp only[oneB,List.length_append]
  omega
theorem buildB_ok {ev:Int} {l:List Ent} {b:List UInt8} (h:buildB ev l=(b,0)):1≤ev∧ev≤1024∧rightL l=true∧blockB ev.toNat l=b∧b.length≤1048576∧l.length≤1048576:=by
 unfold buildB at h
 split at h
 ·rename_i h1
  split at h
  ·simp at h
  ·rename_i h2
   have e:=congrArg Prod.fst h
   have hl:=onesB_len ev.toNat l l.length 0
   have hf:=congrArg List.length (blockB_form ev.toNat l)
   simp only[List.length_append] at hf
   simp only at e
   exact⟨h1.1,h1.2.1,h1.2.2,e,by rw[←e];omega,by omega⟩
 ·simp at h
theorem read_head (ev:Nat) (l:List Ent) (r:List UInt8) (hev:ev≤1024) (hl:l.length≤1048576) (hr:∀e∈l,rightE e=true) (b:List UInt8) (hb:b=num ev++(num l.length++(onesB ev l 0 l.length++r))) :
  (sNum (b,0)).1=ev∧(sNum (sNum (b,0)).2).1=l.length∧(sNum (sNum (b,0)).2).2.2=0∧readL (sNum (sNum (b,0)).2).1 (sNum (sNum (b,0)).2).2.1 []=some l:=by
 have h1:sNum (b,0)=(ev,num l.length++(onesB ev l 0 l.length++r),0):=by rw[hb,sNum_num _ _ (by omega)]
 have h2:sNum (sNum (b,0)).2=(l.length,onesB ev l 0 l.length++r,0):=by rw[h1,sNum_num _ _ (by omega)]
 have h3:=readL_ones ev l hr r l.length 0 (by omega)
 rw[h2,h1]
 exact⟨rfl,rfl,rfl,h3⟩
theorem readB_head (ev:Nat) (l:List Ent) (r:List UInt8) (hev:ev≤1024) (hl:l.length≤1048576) (hr:∀e∈l,rightE e=true) (b:List UInt8) (hb:b=num ev++(num l.length++(onesB ev l 0 l.length++r))) :
  readB b=if buildB (ev:Nat) l=(b,0) then (l,0) else ([],100):=by
 obtain⟨h1,h2,h3,h4⟩:=read_head ev l r hev hl hr b hb
 unfold readB
 rw[h4,h3,h1,if_neg (by omega)]
theorem readB_back {ev:Int} {l:List Ent} {b:List UInt8} (h:buildB ev l=(b,0)):readB b=(l,0):=by
 obtain⟨h1,h2,h3,h4,h5,h6⟩:=buildB_ok h
 have he:((ev.toNat:Nat):Int)=ev:=by omega
 rw[readB_head ev.toNat l _ (by omega) h6 (rightL_all h3).2 b (by rw[←h4,blockB_form]),he,if_pos h]
end Go.Proofs.YtchjknbideoieaaGreatDoor
namespace Go.Proofs.YtchjknbideoieaaGreatDoor
set_option maxRecDepth 100000
set_option maxHeartbeats 8000000
theorem ahead_iff (a b:Ent):aheadE a b=true↔(ltB a.user.toList b.user.toList=true∨(a.user.toList=b.user.toList∧b.seq.toNat<a.seq.toNat)):=by
 unfold aheadE
 rw[Bool.or_eq_true,Bool.and_eq_true,beq_iff_eq,decide_eq_true_iff]
theorem ahead_trans {a b c:Ent} (h:aheadE a b=true) (h':aheadE b c=true):aheadE a c=true:=by
 rw[ahead_iff] at *
 rcases h with h|⟨e,h⟩
 ·rcases h' with h'|⟨e',_⟩
  ·exact .inl (ltB_trans _ _ _ h h')
  ·rw[←e'];exact .inl h
 ·rcases h' with h'|⟨e',h'⟩
  ·rw[e];exact .inl h'
  ·exact .inr ⟨e.trans e',by omega⟩
theorem rises_all:∀(a:Ent) (l:List Ent),risesE (a::l)=true→risesE l=true∧∀x∈l,aheadE a x=true
 | _,[],_=>⟨rfl,fun _ h=>by cases h⟩
 | a,b::l,h=>by
  rw[risesE,Bool.and_eq_true] at h
  refine⟨h.2,fun x hx=>?_⟩
  rcases List.mem_cons.1 hx with rfl|hx
  ·exact h.1
  ·exact ahead_trans h.1 ((rises_all b l h.2).2 x hx)
def firstE (l:List Ent) (q:Ent):Option Ent:=l.find? (fun e=>!aheadE e q)
end Go.Proofs.YtchjknbideoieaaGreatDoor
namespace Go.Proofs.YtchjknbideoieaaGreatDoor
set_option maxRecDepth 100000
set_option maxHeartbeats 8000000
def cutF (least:Int):Nat→List Ent→Nat
 | _,[]=>0
 | n,e::l=>if least≤((n+(e.user.size+e.value.size+8):Nat):Int) then 1 else 1+cutF least (n+(e.user.size+e.value.size+8)) l
theorem cutF_le (least:Int):∀(l:List Ent) (n:Nat),cutF least n l≤l.length
 | [],_=>Nat.zero_le _
 | e::l,n=>by
  rw[cutF,List.length_cons]
  split
  ·omega
  ·have:=cutF_le least l (n+(e.user.size+e.value.size+8))
   omega
theorem cutF_pos (least:Int) (l:List Ent) (n:Nat) (h:l≠[]):1≤cutF least n l:=by
 cases l with
 | nil=>exact absurd rfl h
 | cons e l=>rw[cutF];split <;> omega
def partsF (least:Int):Nat→List Ent→List (List Ent)
 | 0,_=>[]
 | f+1,l=>if l.isEmpty then [] else l.take (cutF least 0 l)::partsF least f (l.drop (cutF least 0 l))
theorem partsF_flat (least:Int):∀(f:Nat) (l:List Ent),l.length≤f→(partsF least f l).flatten=l
 | 0,l,h=>by
  have:l=[]:=List.length_eq_zero_iff.1 (by omega)
  rw[this]
  rfl
 | f+1,l,h=>by
  rw[partsF]
  split
  ·rename_i h1
   rw[List.isEmpty_iff.1 h1]
   rfl
  ·rename_i h1
   have hp:=cutF_pos least l 0 (fun e=>h1 (by rw[e];rfl))
   rw[List.flatten_cons,partsF_flat least f _ (by rw[List.length_drop];omega),List.take_append_drop]
def goRows (q:Ent):List (List Ent)→Option Ent
 | []=>none
 | p::r=>match p.find? (fun e=>!aheadE e q) with
  | none=>goRows q r
  | some e=>if e.user=q.user then some e else none
def onlyE (q:Ent) (o:Option Ent):Option Ent:=o.bind fun e=>if e.user=q.user then some e else none
theorem goRows_flat (q:Ent):∀ps:List (List Ent),goRows q ps=onlyE q (firstE ps.flatten q)
 | []=>rfl
 | p::r=>by
  rw[goRows,List.flatten_cons]
  unfold firstE
  rw[List.find?_append]
  cases hp:p.find? (fun e=>!aheadE e q) with
  | none =>
   rw[goRows_flat q r]
   rfl
  | some e=>rfl
theorem user_ahead {e q:Ent} (h:ltB e.user.toList q.user.toList=true):aheadE e q=true:=by
 rw[ahead_iff]
 exact .inl h
theorem find_none_user {p:List Ent} {q:Ent} (h:∀e∈p,ltB e.user.toList q.user.toList=true):p.find? (fun e=>!aheadE e q)=none:=by
 rw[List.find?_eq_none]
 intro e he
 rw[user_ahead (h e he)]
 simp
theorem ltB_of_le {a b c:List UInt8} (h1:ltB b a=false) (h2:ltB b c=true):ltB a c=true:=by
 rcases Bool.eq_false_or_eq_true (ltB a b) with h|h
 ·exact ltB_trans _ _ _ h h2
 ·rw[ltB_tri a b h h1]
  exact h2
def byBounds (q:Ent) (rows:List (List UInt8 × List Ent)):Option Ent :=
 goRows q ((rows.dropWhile (fun r=>ltB r.1 q.user.toList)).map (·.2))
theorem byBounds_first (q:Ent):∀rows:List (List UInt8 × List Ent),(∀r∈rows,∀e∈r.2,ltB r.1 e.user.toList=false)→byBounds q rows=onlyE q (firstE (rows.map (·.2)).flatten q)
 | [],_=>rfl
 | r::rows,h=>by
  unfold byBounds
  rw[List.dropWhile_cons]
  cases hr:ltB r.1 q.user.toList with
  | false =>
   rw[if_neg (by simp)]
   exact goRows_flat q _
  | true =>
   rw[if_pos rfl]
   have ih:=byBounds_first q rows (fun x hx=>h x (List.mem_cons_of_mem _ hx))
   unfold byBounds at ih
   rw[ih,List.map_cons,List.flatten_cons]
   unfold firstE
   rw[List.find?_append,find_none_user (fun e he=>ltB_of_le (h r (List.mem_cons_self) e he) hr)]
   rfl
theorem rises_user {l:List Ent} (h:risesE l=true):∀i j,i≤j→j<l.length→ltB (l.getD j ent0).user.toList (l.getD i ent0).user.toList=false:=by
 induction l with
 | nil=>intro i j _ hj;simp at hj
 | cons a l ih =>
  obtain⟨h1,h2⟩:=rises_all a l h
  intro i j hij hj
  cases j with
  | zero=>rw[show i=0 from by omega];exact ltB_irr _
  | succ j =>
   have hj':j<l.length:=by rw[List.length_cons] at hj;omega
   rw[List.getD_cons_succ]
   cases i with
   | succ i=>rw[List.getD_cons_succ];exact ih h1 i j (by omega) hj'
   | zero =>
    rw[List.getD_cons_zero]
    have hg:l.getD j ent0=l[j]:=by rw[List.getD_eq_getElem?_getD,List.getElem?_eq_getElem hj'];rfl
    rw[hg]
    have h3:=(ahead_iff _ _).1 (h2 _ (List.getElem_mem hj'))
    rcases h3 with h3|⟨h3,_⟩
    ·exact ltB_asymm _ _ h3
    ·rw[h3];exact ltB_irr _
theorem rises_drop {l:List Ent} (h:risesE l=true):∀k,risesE (l.drop k)=true
 | 0=>h
 | k+1=>by
  cases l with
  | nil=>rfl
  | cons a l=>exact rises_drop (rises_all a l h).1 k
theorem rises_take {l:List Ent} (h:risesE l=true):∀k,risesE (l.take k)=true:=by
 induction l with
 | nil=>intro k;simp[risesE]
 | cons a l ih =>
  intro k
  cases k with
  | zero=>rfl
  | succ k =>
   rw[List.take_succ_cons]
   have h2:=ih (rises_all a l h).1 k
   cases l with
   | nil=>simp[risesE]
   | cons b l =>
    cases k with
    | zero=>rfl
    | succ k =>
     rw[List.take_succ_cons] at h2 ⊢
     rw[risesE,Bool.and_eq_true] at h ⊢
     exact⟨h.1,h2⟩
def boundF (p rest:List Ent):List UInt8 :=
 match rest with
 | []=>(p.getD (p.length-1) ent0).user.data.toList
 | e::_=>between (p.getD (p.length-1) ent0).user.data.toList e.user.data.toList
theorem boundF_ge {p rest:List Ent} (h:risesE p=true) (e:Ent) (he:e∈p):ltB (boundF p rest) e.user.toList=false:=by
 obtain⟨i,hi,rfl⟩:=List.getElem_of_mem he
 have hg:p.getD i ent0=p[i]:=by rw[List.getD_eq_getElem?_getD,List.getElem?_eq_getElem hi];rfl
 have h1:=rises_user h i (p.length-1) (by omega) (by omega)
 rw[hg] at h1
 have h0:ltB (boundF p rest) (p.getD (p.length-1) ent0).user.toList=false:=by
  rw[Lib.toList_data]
  unfold boundF
  split
  ·exact ltB_irr _
  ·exact between_ge _ _
 rcases Bool.eq_false_or_eq_true (ltB (boundF p rest) p[i].user.toList) with h2|h2
 ·have h3:=ltB_of_le h0 h2
  rw[h1] at h3
  cases h3
 ·exact h2
def rowsF (least:Int):Nat→List Ent→List (List UInt8 × List Ent)
 | 0,_=>[]
 | f+1,l=>if l.isEmpty then [] else (boundF (l.take (cutF least 0 l)) (l.drop (cutF least 0 l)),l.take (cutF least 0 l))::rowsF least f (l.drop (cutF least 0 l))
theorem rowsF_parts (least:Int):∀(f:Nat) (l:List Ent),(rowsF least f l).map (·.2)=partsF least f l
 | 0,_=>rfl
 | f+1,l=>by
  rw[rowsF,partsF]
  split
  ·rfl
  ·rw[List.map_cons,rowsF_parts least f]
theorem rowsF_ge (least:Int):∀(f:Nat) (l:List Ent),risesE l=true→∀r∈rowsF least f l,∀e∈r.2,ltB r.1 e.user.toList=false
 | 0,_,_=>fun r hr=>by cases hr
 | f+1,l,h=>by
  rw[rowsF]
  split
  ·intro r hr;cases hr
  ·intro r hr e he
   rcases List.mem_cons.1 hr with rfl|hr
   ·exact boundF_ge (rises_take h _) e he
   ·exact rowsF_ge least f _ (rises_drop h _) r hr e he
theorem table_first (least:Int) (l:List Ent) (q:Ent) (h:risesE l=true):byBounds q (rowsF least l.length l)=onlyE q (firstE l q):=by
 rw[byBounds_first q _ (rowsF_ge least _ l h),rowsF_parts,partsF_flat least _ l (Nat.le_refl _)]
end Go.Proofs.YtchjknbideoieaaGreatDoor
namespace Go.Proofs.YtchjknbideoieaaGreatDoor
set_option maxRecDepth 100000
set_option maxHeartbeats 8000000
def crossF (blk:UInt32→List UInt8):Nat→UInt32→List UInt8→List UInt8
 | 0,_,_=>[]
 | f+1,c,l=>if l.isEmpty then [] else List.zipWith (· ^^^ ·) (l.take 64) (blk c)++crossF blk f (c+1) (l.drop 64)
theorem zip_twice:∀a k:List UInt8,a.length≤k.length→List.zipWith (· ^^^ ·) (List.zipWith (· ^^^ ·) a k) k=a
 | [],_,_=>by simp
 | x::a,[],h=>by simp at h
 | x::a,y::k,h=>by
  rw[List.zipWith_cons_cons,List.zipWith_cons_cons,zip_twice a k (by simpa using h),UInt8.xor_assoc,UInt8.xor_self,UInt8.xor_zero]
theorem crossF_length (blk:UInt32→List UInt8) (hb:∀c,(blk c).length=64):∀f c l,l.length≤f→(crossF blk f c l).length=l.length
 | 0,_,l,h=>by rw[List.length_eq_zero_iff.1 (show l.length=0 by omega)];rfl
 | f+1,c,l,h=>by
  rw[crossF]
  split
  ·rename_i h1;rw[List.isEmpty_iff.1 h1]
  ·rename_i h1
   have hp:0<l.length:=by
    rcases Nat.eq_zero_or_pos l.length with h2|h2
    ·exact absurd (by rw[List.length_eq_zero_iff.1 h2];rfl) h1
    ·exact h2
   rw[List.length_append,List.length_zipWith,List.length_take,hb,crossF_length blk hb f _ _ (by rw[List.length_drop];omega),List.length_drop]
   omega
theorem crossF_twice (blk:UInt32→List UInt8) (hb:∀c,(blk c).length=64):∀f c l,l.length≤f→crossF blk f c (crossF blk f c l)=l
 | 0,_,l,h=>by rw[List.length_eq_zero_iff.1 (show l.length=0 by omega)];rfl
 | f+1,c,l,h=>by
  by_cases h1:l.isEmpty=true
  ·rw[List.isEmpty_iff.1 h1];rfl
  ·have hp:0<l.length:=by
    rcases Nat.eq_zero_or_pos l.length with h2|h2
    ·exact absurd (by rw[List.length_eq_zero_iff.1 h2];rfl) h1
    ·exact h2
   have hl:=crossF_length blk hb (f+1) c l h
   have h2:¬(crossF blk (f+1) c l).isEmpty=true:=by
    intro e
    rw[List.isEmpty_iff.1 e] at hl
    simp at hl
    omega
   have e1:crossF blk (f+1) c l=List.zipWith (· ^^^ ·) (l.take 64) (blk c)++crossF blk f (c+1) (l.drop 64):=by rw[crossF,if_neg h1]
   have hz:(List.zipWith (· ^^^ ·) (l.take 64) (blk c)).length=min 64 l.length:=by
    rw[List.length_zipWith,List.length_take,hb]
    omega
   rw[crossF,if_neg h2,e1]
   by_cases h64:64≤l.length
   ·rw[List.take_left' (by rw[hz];omega),List.drop_left' (by rw[hz];omega),zip_twice _ _ (by rw[List.length_take,hb];omega),crossF_twice blk hb f _ _ (by rw[List.length_drop];omega),List.take_append_drop]
   ·have hd:l.drop 64=[]:=List.drop_eq_nil_of_le (by omega)
    have hc:crossF blk f (c+1) []=[]:=by cases f <;> rfl
    rw[hd,hc,List.append_nil,List.take_of_length_le (by rw[hz];omega),List.drop_eq_nil_of_le (by rw[hz];omega),hc,List.append_nil,zip_twice _ _ (by rw[List.length_take,hb];omega),List.take_of_length_le (by omega)]
def crossB (blk:UInt32→List UInt8) (l:List UInt8):List UInt8:=crossF blk l.length 1 l
theorem crossB_length (blk:UInt32→List UInt8) (hb:∀c,(blk c).length=64) (l:List UInt8):(crossB blk l).length=l.length:=crossF_length blk hb _ _ _ (Nat.le_refl _)
theorem crossB_twice (blk:UInt32→List UInt8) (hb:∀c,(blk c).length=64) (l:List UInt8):crossB blk (crossB blk l)=l:=by
 unfold crossB
 rw[crossF_length blk hb _ _ _ (Nat.le_refl _)]
 exact crossF_twice blk hb _ _ _ (Nat.le_refl _)
def sealB (blk:UInt32→List UInt8) (tag:List UInt8→List UInt8) (l:List UInt8):List UInt8:=crossB blk l++tag (crossB blk l)
theorem sealB_length (blk:UInt32→List UInt8) (hb:∀c,(blk c).length=64) (tag:List UInt8→List UInt8) (ht:∀x,(tag x).length=16) (l:List UInt8):(sealB blk tag l).length=l.length+16:=by
 unfold sealB
 rw[List.length_append,crossB_length blk hb,ht]
end Go.Proofs.YtchjknbideoieaaGreatDoor
namespace Go.Proofs.YtchjknbideoieaaGreatDoor
set_option maxRecDepth 100000
set_option maxHeartbeats 8000000
def textE (l:List Ent):Nat:=(l.map fun e=>e.user.size+e.value.size).sum
theorem textE_append (l m:List Ent):textE (l++m)=textE l+textE m:=by simp[textE]
theorem textE_cons (e:Ent) (l:List Ent):textE (e::l)=e.user.size+e.value.size+textE l:=by simp[textE]
theorem textE_nil:textE []=0:=rfl
theorem textE_take (l:List Ent) (k:Nat):textE (l.take k)≤textE l:=by
 have h:=textE_append (l.take k) (l.drop k)
 rw[List.take_append_drop] at h
 omega
theorem textE_drop (l:List Ent) (k:Nat):textE (l.drop k)≤textE l:=by
 have h:=textE_append (l.take k) (l.drop k)
 rw[List.take_append_drop] at h
 omega
theorem textE_get (l:List Ent) (i:Nat) (hi:i<l.length):textE (l.take (i+1))=textE (l.take i)+((l.getD i ent0).user.size+(l.getD i ent0).value.size):=by
 rw[List.take_succ_eq_append_getElem hi,textE_append,textE_cons,textE_nil,List.getD_eq_getElem?_getD,List.getElem?_eq_getElem hi]
 simp
theorem oneB_le (k:Nat) (e:Ent):(oneB k e).length≤38+(e.user.size+e.value.size):=by
 have h1:=num_length k
 have h2:=num_length ((layE e).length-k)
 have h3:=num_length e.value.size
 have h4:=layE_length e
 have h5:=toList_size e.value
 simp only[oneB,List.length_append,List.length_drop]
 omega
theorem outAt_le (ev:Nat) (l:List Ent):∀i,i≤l.length→(outAt ev l i).length≤20+38*i+textE (l.take i)
 | 0,_=>by
  have h1:=num_length ev
  have h2:=num_length l.length
  simp only[outAt,List.length_append]
  omega
 | i+1,h=>by
  have h1:=outAt_le ev l i (by omega)
  have h2:=oneB_le (shareAt ev l i) (l.getD i ent0)
  have h3:=textE_get l i (by omega)
  rw[outAt,List.length_append]
  omega
theorem placesAt_le (ev:Nat) (l:List Ent):∀i,(placesAt ev l i).length≤4*i
 | 0=>by simp[placesAt]
 | i+1=>by
  have h1:=placesAt_le ev l i
  rw[placesAt]
  split
  ·rw[List.length_append,fix_length];omega
  ·omega
theorem blockB_le (ev:Nat) (l:List Ent):(blockB ev l).length≤24+42*l.length+textE l:=by
 have h1:=outAt_le ev l l.length (Nat.le_refl _)
 have h2:=placesAt_le ev l l.length
 rw[List.take_length] at h1
 simp only[blockB,List.length_append,fix_length]
 omega
theorem build_is {ev:Nat} {l:List Ent} (h1:1≤ev) (h2:ev≤1024) (h3:rightL l=true) (h4:24+42*l.length+textE l≤1048576):buildB (ev:Int) l=(blockB ev l,0):=by
 have h:=blockB_le ev l
 unfold buildB
 rw[if_pos ⟨by omega,by omega,h3⟩,if_neg (by rw[Int.toNat_natCast];omega),Int.toNat_natCast]
theorem read_is {ev:Nat} {l:List Ent} (h1:1≤ev) (h2:ev≤1024) (h3:rightL l=true) (h4:24+42*l.length+textE l≤1048576):readB (blockB ev l)=(l,0) :=
 readB_back (build_is h1 h2 h3 h4)
theorem right_take {l:List Ent} (h:rightL l=true) (k:Nat):rightL (l.take k)=true:=by
 obtain⟨h1,h2⟩:=rightL_all h
 unfold rightL
 rw[rises_take h1,Bool.true_and,List.all_eq_true]
 exact fun e he=>h2 e (List.mem_of_mem_take he)
theorem right_drop {l:List Ent} (h:rightL l=true) (k:Nat):rightL (l.drop k)=true:=by
 obtain⟨h1,h2⟩:=rightL_all h
 unfold rightL
 rw[rises_drop h1,Bool.true_and,List.all_eq_true]
 exact fun e he=>h2 e (List.mem_of_mem_drop he)
theorem rowsF_fuel (least:Int):∀(f:Nat) (l:List Ent),l.length≤f→rowsF least f l=rowsF least l.length l:=by
 intro f
 induction f using Nat.strongRecOn with
 | ind f ih =>
  intro l h
  cases f with
  | zero=>rw[show l.length=0 from by omega]
  | succ f =>
   cases l with
   | nil=>rfl
   | cons e l =>
    have hp:=cutF_pos least (e::l) 0 (by simp)
    have hd:((e::l).drop (cutF least 0 (e::l))).length≤l.length:=by rw[List.length_drop,List.length_cons];omega
    rw[List.length_cons,rowsF,rowsF]
    split
    ·rfl
    ·rw[List.length_cons] at h
     rw[ih f (by omega) _ (by omega),ih l.length (by omega) _ hd]
theorem rowsF_step (least:Int) (l:List Ent) (h:l≠[]):rowsF least l.length l=(boundF (l.take (cutF least 0 l)) (l.drop (cutF least 0 l)),l.take (cutF least 0 l))::rowsF least (l.drop (cutF least 0 l)).length (l.drop (cutF least 0 l)):=by
 cases l with
 | nil=>exact absurd rfl h
 | cons e l =>
  have hp:=cutF_pos least (e::l) 0 (by simp)
  have hd:((e::l).drop (cutF least 0 (e::l))).length≤l.length:=by rw[List.length_drop,List.length_cons];omega
  conv=>lhs;rw[List.length_cons,rowsF,if_neg (by simp)]
  rw[rowsF_fuel least l.length _ hd]
theorem rowsF_flat (least:Int) (l:List Ent):(rowsF least l.length l).flatMap (·.2)=l:=by
 have h:=rowsF_parts least l.length l
 rw[List.flatMap_def,h,partsF_flat least _ l (Nat.le_refl _)]
theorem rowsF_right (least:Int):∀(f:Nat) (l:List Ent),rightL l=true→∀r∈rowsF least f l,rightL r.2=true∧r.2.length≤l.length∧textE r.2≤textE l∧r.1.length≤1024
 | 0,_,_=>fun r hr=>by cases hr
 | f+1,l,h=>by
  rw[rowsF]
  split
  ·intro r hr;cases hr
  ·rename_i hne
   intro r hr
   rcases List.mem_cons.1 hr with rfl|hr
   ·refine⟨right_take h _,by rw[List.length_take];omega,textE_take l _,?_⟩
    have hp:=cutF_pos least l 0 (fun e=>hne (by rw[e];rfl))
    have hcl:=cutF_le least l 0
    obtain⟨_,hall⟩:=rightL_all (right_take h (cutF least 0 l))
    have hlt:(l.take (cutF least 0 l)).length-1<(l.take (cutF least 0 l)).length:=by rw[List.length_take];omega
    have hu:((l.take (cutF least 0 l)).getD ((l.take (cutF least 0 l)).length-1) ent0).user.data.toList.length≤1024:=by
     rw[List.getD_eq_getElem?_getD,List.getElem?_eq_getElem hlt,toList_size]
     exact (rightE_le (hall _ (List.getElem_mem hlt))).1
    unfold boundF
    split
    ·exact hu
    ·exact Nat.le_trans (between_le _ _) hu
   ·obtain⟨a,b,c,d⟩:=rowsF_right least f _ (right_drop h _) r hr
    have:=textE_drop l (cutF least 0 l)
    rw[List.length_drop] at b
    exact⟨a,by omega,by omega,d⟩
structure Prt where
 bound:List UInt8
 ents:List Ent
 bytes:List UInt8
section
variable (sp:Nat→List UInt8→List UInt8) (lf:List UInt8→List UInt8) (ev:Nat)
def prtOf (i:Nat) (r:List UInt8 × List Ent):Prt:=⟨r.1,r.2,sp (2+i) (blockB ev r.2)⟩
def prts (R:List (List UInt8 × List Ent)):List Prt:=R.mapIdx (prtOf sp ev)
theorem prts_length (R:List (List UInt8 × List Ent)):(prts sp ev R).length=R.length:=by simp[prts]
theorem prts_snoc (R:List (List UInt8 × List Ent)) (r:List UInt8 × List Ent):prts sp ev (R++[r])=prts sp ev R++[prtOf sp ev R.length r]:=by
 simp[prts,List.mapIdx_append]
theorem prts_get (R:List (List UInt8 × List Ent)) (i:Nat) (h:i<R.length):(prts sp ev R)[i]'(by rw[prts_length];exact h)=prtOf sp ev i R[i]:=by
 simp[prts]
def oneT (x:List UInt8):List UInt8:=num x.length++lf x
def bodyB (P:List Prt):List UInt8:=P.flatMap (·.bytes)
def idxB (P:List Prt):List UInt8:=P.flatMap fun p=>num p.bound.length++p.bound++oneT lf p.bytes
def indexB (P:List Prt) (F:List UInt8):List UInt8:=num P.length++(idxB lf P++oneT lf F)
def tableB (hd:List UInt8) (P:List Prt) (F I:List UInt8):List UInt8:=hd++bodyB P++F++I++fix I.length 8
theorem bodyB_snoc (P:List Prt) (p:Prt):bodyB (P++[p])=bodyB P++p.bytes:=by simp[bodyB]
theorem idxB_snoc (P:List Prt) (p:Prt):idxB lf (P++[p])=idxB lf P++(num p.bound.length++p.bound++oneT lf p.bytes):=by simp[idxB]
variable (hsp:∀i x,(sp i x).length=x.length+16) (hlf:∀x,(lf x).length=32)
theorem prtOf_le (hsp:∀i x,(sp i x).length=x.length+16) (i:Nat) (r:List UInt8 × List Ent):(prtOf sp ev i r).bytes.length≤40+42*r.2.length+textE r.2:=by
 have:=blockB_le ev r.2
 simp only[prtOf,hsp]
 omega
theorem bodyB_le (hsp:∀i x,(sp i x).length=x.length+16) (R:List (List UInt8 × List Ent)):(bodyB (prts sp ev R)).length≤40*R.length+42*(R.flatMap (·.2)).length+textE (R.flatMap (·.2)):=by
 rcases List.eq_nil_or_concat R with rfl|⟨R',r,rfl⟩
 ·simp[prts,bodyB,textE]
 ·have ih:=bodyB_le hsp R'
  have h:=prtOf_le sp ev hsp R'.length r
  rw[List.concat_eq_append,prts_snoc,bodyB_snoc,List.flatMap_append,textE_append,List.length_append,List.length_append,List.length_append]
  simp only[List.flatMap_cons,List.flatMap_nil,List.append_nil,List.length_cons,List.length_nil]
  omega
termination_by R.length
theorem oneT_le (hlf:∀x,(lf x).length=32) (x:List UInt8):(oneT lf x).length≤42:=by
 have:=num_length x.length
 simp only[oneT,List.length_append,hlf]
 omega
theorem idxB_le (hlf:∀x,(lf x).length=32):∀(P:List Prt),(∀p∈P,p.bound.length≤1024)→(idxB lf P).length≤1076*P.length
 | [],_=>by simp[idxB]
 | p::P,h=>by
  have ih:=idxB_le hlf P (fun q hq=>h q (List.mem_cons_of_mem _ hq))
  have h1:=h p (List.mem_cons_self)
  have h2:=oneT_le lf hlf p.bytes
  have h3:=num_length p.bound.length
  have e:idxB lf (p::P)=num p.bound.length++p.bound++oneT lf p.bytes++idxB lf P:=by simp[idxB]
  rw[e,List.length_append,List.length_append,List.length_append,List.length_cons]
  omega
end
theorem rowsF_count (least:Int):∀(f:Nat) (l:List Ent),(rowsF least f l).length≤l.length
 | 0,l=>by simp[rowsF]
 | f+1,l=>by
  rw[rowsF]
  split
  ·simp
  ·rename_i hne
   have hp:=cutF_pos least l 0 (fun e=>hne (by rw[e];rfl))
   have ih:=rowsF_count least f (l.drop (cutF least 0 l))
   have hl:0<l.length:=List.length_pos_iff.2 (fun e=>hne (by rw[e];rfl))
   rw[List.length_drop] at ih
   rw[List.length_cons]
   omega
end Go.Proofs.YtchjknbideoieaaGreatDoor
