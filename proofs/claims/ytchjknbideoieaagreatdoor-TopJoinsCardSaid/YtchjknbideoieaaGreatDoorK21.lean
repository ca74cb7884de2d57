/- What is proved here: what Rises of ikey and of the reference, and the reference's Ahead, come to, at this seat's numbers. Condition: the list's length. how many bytes two texts begin with alike, by the program and by the reference, at this seat's numbers. Conditions: the texts' lengths. what the builder's add comes to, at this seat's numbers. Conditions: an entry that may be; the lengths. -/
import Derived.Test.YtchjknbideoieaaGreatDoorK20
import Derived.Lib.Bytealg
import Derived.WalkLawsBesides
import Derived.Test.YtchjknbideoieaaGreatDoorK03
namespace Go.Proofs.YtchjknbideoieaaGreatDoor
set_option maxRecDepth 100000
set_option maxHeartbeats 8000000
open Go.RowKit
theorem rises_iff:∀l:List Ent,risesE l=true↔∀k (h:k+1<l.length),aheadE (l[k]'(by omega)) l[k+1]=true
 | []=>by simp[risesE]
 | [a]=>by simp[risesE]
 | a::b::l=>by
  rw[risesE,Bool.and_eq_true,rises_iff (b::l)]
  refine⟨fun ⟨h1,h2⟩ k hk=>?_,fun h=>⟨h 0 (by simp),fun k hk=>?_⟩⟩
  ·cases k with
   | zero=>exact h1
   | succ k=>exact h2 k (by simpa using hk)
  ·exact h (k+1) (by simpa using hk)
theorem rises_bad {l:List Ent} {k:Nat} (hk:k+1<l.length) (h:aheadE (l[k]'(by omega)) l[k+1]=false):risesE l=false:=by
 cases hr:risesE l with
 | false=>rfl
 | true=>rw[(rises_iff l).1 hr k hk] at h;cases h
theorem rises_step {l:List Ent} {k:Nat} {x y:Ent} (hp:Hid (∀j (h:j+1<l.length),j<k→aheadE (l[j]'(by omega)) l[j+1]=true)) (hlt:k+1<l.length) (HX:Hid (x=l[k]'(by omega)∧y=l[k+1])) (F3:Hid (aheadE x y=true)) :
  Hid (∀j (h:j+1<l.length),j<k+1→aheadE (l[j]'(by omega)) l[j+1]=true):=by
 refine Lib.hid (fun j hj hjk=>?_)
 rcases Nat.lt_or_ge j k with h|h
 ·exact hp.out j hj h
 ·obtain rfl:j=k:=by omega
  rw[←HX.out.1,←HX.out.2];exact F3.out
theorem three (x y:Ent):(Op.bytesLess x.user.toList y.user.toList=true∧(x.user.toList==y.user.toList)=false∧aheadE x y=true) ∨
  (Op.bytesLess x.user.toList y.user.toList=false∧(x.user.toList==y.user.toList)=true∧aheadE x y=decide (y.seq.toNat<x.seq.toNat)) ∨
  (Op.bytesLess x.user.toList y.user.toList=false∧(x.user.toList==y.user.toList)=false∧aheadE x y=false):=by
 unfold aheadE
 cases h1:ltB x.user.toList y.user.toList with
 | true =>
  left
  refine⟨h1,?_,by simp⟩
  rw[beq_eq_false_iff_ne]
  intro e
  rw[e,ltB_irr] at h1
  cases h1
 | false =>
  right
  cases h2:(x.user.toList==y.user.toList) with
  | true=>left;exact⟨h1,rfl,by simp⟩
  | false=>right;exact⟨h1,rfl,by simp⟩
theorem iRises_any (v:Value) (l:List Ent) (w:World) (hv:SE w w.heap.size v l) (_hl:l.length≤140737488351232) :
  Calls Tryz.prog 7 #[v] w fun e w'=>e=.returned (.bool (risesE l))∧Below w.heap.size w w':=by
 obtain⟨A,c,rfl,hlc,hcm,hr⟩:=hv
 have hcm':c≤9223372036854775807:=by unfold maxLen at hcm;omega
 clear hcm
 go_enter Tryz.func7,Tryz.ntmps7
 go_wp2
 go_loopw [3] (fun i wr=>∃k:Nat,i=.int .i64 ((k:Int)+1)∧k≤l.length∧Hid (∀j (h:j+1<l.length),j<k→aheadE (l[j]'(by omega)) l[j+1]=true)∧Below w.heap.size w wr) (fun i _=>l.length+1-(intOf i).toNat)
 case atStart=>exact⟨0,rfl,Nat.zero_le _,Lib.hid (fun j _ h=>by omega),Below.refl _ _⟩
 case round =>
  obtain⟨k,rfl,hk,hp,hbr⟩:=hrel
  by_cases hlt:k+1<l.length
  ·obtain⟨b,o,rfl,hb,c0,c1,c2,c3⟩:=(hr.below hbr).ent rfl (k:=k) (by omega)
   obtain⟨b',o',he,hb',d0,d1,d2,d3⟩:=(hr.below hbr).ent rfl (k:=k+1) hlt
   injection he with he
   injection he with he1 he2
   subst he1;subst he2
   obtain⟨x,hx⟩:∃x,x=l[k]:=⟨_,rfl⟩
   obtain⟨y,hy⟩:∃y,y=l[k+1]:=⟨_,rfl⟩
   rw[←hx] at c0 c1 c2 c3
   rw[←hy] at d0 d1 d2 d3
   have HX:=Lib.hid (And.intro hx hy)
   clear hx hy
   have hsz:=hbr.size
   have keepS:∀w',Below wr.heap.size wr w'→(w'.cell? ⟨b,o+k*4,none⟩=some (.string x.user)∧w'.cell? ⟨b,o+k*4+1,none⟩=some (.int .u64 (x.seq.toNat:Int))∧w'.cell? ⟨b,o+k*4+2,none⟩=some (.int .u8 (x.kind.toNat:Int))∧w'.cell? ⟨b,o+k*4+3,none⟩=some (.string x.value)∧w'.cell? ⟨b,o+(k+1)*4,none⟩=some (.string y.user)∧w'.cell? ⟨b,o+(k+1)*4+1,none⟩=some (.int .u64 (y.seq.toNat:Int))∧w'.cell? ⟨b,o+(k+1)*4+2,none⟩=some (.int .u8 (y.kind.toNat:Int))∧w'.cell? ⟨b,o+(k+1)*4+3,none⟩=some (.string y.value)):=fun w' h' =>
    ⟨(h'.cell (by simp;omega)).trans c0,(h'.cell (by simp;omega)).trans c1,(h'.cell (by simp;omega)).trans c2,(h'.cell (by simp;omega)).trans c3,(h'.cell (by simp;omega)).trans d0,(h'.cell (by simp;omega)).trans d1,(h'.cell (by simp;omega)).trans d2,(h'.cell (by simp;omega)).trans d3⟩
   have KS:=Lib.hid keepS
   clear keepS c0 c1 c2 c3 d0 d1 d2 d3
   have gi:IntKind.i64.wrap (k:Int)=(k:Int):=IntWalk.i64_in _ (by omega)
   have hlt2:k<l.length:=by omega
   have hlt3:(0:Int)≤(k:Int)+1:=by omega
   have hxs:=u64_lt x.seq
   have hys:=u64_lt y.seq
   have h3:=three x y
   rcases h3 with ⟨f1,f2,f3⟩|⟨f1,f2,f3⟩|⟨f1,f2,f3⟩
   ·have F3:=Lib.hid f3
    clear f3
    go_wp2
    go_region_held3 (fun w'=>w'.cell? ⟨b,o+k*4,none⟩=some (.string x.user)∧w'.cell? ⟨b,o+k*4+1,none⟩=some (.int .u64 (x.seq.toNat:Int))∧w'.cell? ⟨b,o+k*4+2,none⟩=some (.int .u8 (x.kind.toNat:Int))∧w'.cell? ⟨b,o+k*4+3,none⟩=some (.string x.value)∧w'.cell? ⟨b,o+(k+1)*4,none⟩=some (.string y.user)∧w'.cell? ⟨b,o+(k+1)*4+1,none⟩=some (.int .u64 (y.seq.toNat:Int))∧w'.cell? ⟨b,o+(k+1)*4+2,none⟩=some (.int .u8 (y.kind.toNat:Int))∧w'.cell? ⟨b,o+(k+1)*4+3,none⟩=some (.string y.value)) (exact KS.out _ (by repeat (first|exact bself wr|refine bdrew ?_|refine balloc ?_ _))) (fail)
    all_goals go_wp2
    all_goals
     go_roundw
     case rel=>exact⟨k+1,by go_num,by omega,rises_step hp hlt HX F3,bstep hbr (by repeat (first|exact bself wr|refine bdrew ?_|refine balloc ?_ _))⟩
     case measure=>simp[intOf];omega
   ·by_cases hs:y.seq.toNat<x.seq.toNat
    ·have F3:Hid (aheadE x y=true):=Lib.hid (by rw[f3];simpa using hs)
     clear f3
     go_wp2
     go_region_held3 (fun w'=>w'.cell? ⟨b,o+k*4,none⟩=some (.string x.user)∧w'.cell? ⟨b,o+k*4+1,none⟩=some (.int .u64 (x.seq.toNat:Int))∧w'.cell? ⟨b,o+k*4+2,none⟩=some (.int .u8 (x.kind.toNat:Int))∧w'.cell? ⟨b,o+k*4+3,none⟩=some (.string x.value)∧w'.cell? ⟨b,o+(k+1)*4,none⟩=some (.string y.user)∧w'.cell? ⟨b,o+(k+1)*4+1,none⟩=some (.int .u64 (y.seq.toNat:Int))∧w'.cell? ⟨b,o+(k+1)*4+2,none⟩=some (.int .u8 (y.kind.toNat:Int))∧w'.cell? ⟨b,o+(k+1)*4+3,none⟩=some (.string y.value)) (exact KS.out _ (by repeat (first|exact bself wr|refine bdrew ?_|refine balloc ?_ _))) (fail)
     all_goals go_wp2
     all_goals
      go_roundw
      case rel=>exact⟨k+1,by go_num,by omega,rises_step hp hlt HX F3,bstep hbr (by repeat (first|exact bself wr|refine bdrew ?_|refine balloc ?_ _))⟩
      case measure=>simp[intOf];omega
    ·have F3:Hid (aheadE x y=false):=Lib.hid (by rw[f3];simpa using hs)
     clear f3
     go_wp2
     go_region_held3 (fun w'=>w'.cell? ⟨b,o+k*4,none⟩=some (.string x.user)∧w'.cell? ⟨b,o+k*4+1,none⟩=some (.int .u64 (x.seq.toNat:Int))∧w'.cell? ⟨b,o+k*4+2,none⟩=some (.int .u8 (x.kind.toNat:Int))∧w'.cell? ⟨b,o+k*4+3,none⟩=some (.string x.value)∧w'.cell? ⟨b,o+(k+1)*4,none⟩=some (.string y.user)∧w'.cell? ⟨b,o+(k+1)*4+1,none⟩=some (.int .u64 (y.seq.toNat:Int))∧w'.cell? ⟨b,o+(k+1)*4+2,none⟩=some (.int .u8 (y.kind.toNat:Int))∧w'.cell? ⟨b,o+(k+1)*4+3,none⟩=some (.string y.value)) (exact KS.out _ (by repeat (first|exact bself wr|refine bdrew ?_|refine balloc ?_ _))) (fail)
     all_goals go_wp2
     all_goals
      go_ret
      exact⟨ret_bool (rises_bad hlt (by rw[←HX.out.1,←HX.out.2];exact F3.out)).symm,bstep hbr (by repeat (first|exact bself wr|refine bdrew ?_|refine balloc ?_ _))⟩
   ·have F3:=Lib.hid f3
    clear f3
    go_wp2
    go_region_held3 (fun w'=>w'.cell? ⟨b,o+k*4,none⟩=some (.string x.user)∧w'.cell? ⟨b,o+k*4+1,none⟩=some (.int .u64 (x.seq.toNat:Int))∧w'.cell? ⟨b,o+k*4+2,none⟩=some (.int .u8 (x.kind.toNat:Int))∧w'.cell? ⟨b,o+k*4+3,none⟩=some (.string x.value)∧w'.cell? ⟨b,o+(k+1)*4,none⟩=some (.string y.user)∧w'.cell? ⟨b,o+(k+1)*4+1,none⟩=some (.int .u64 (y.seq.toNat:Int))∧w'.cell? ⟨b,o+(k+1)*4+2,none⟩=some (.int .u8 (y.kind.toNat:Int))∧w'.cell? ⟨b,o+(k+1)*4+3,none⟩=some (.string y.value)) (exact KS.out _ (by repeat (first|exact bself wr|refine bdrew ?_|refine balloc ?_ _))) (fail)
    all_goals go_wp2
    all_goals
     go_ret
     exact⟨ret_bool (rises_bad hlt (by rw[←HX.out.1,←HX.out.2];exact F3.out)).symm,bstep hbr (by repeat (first|exact bself wr|refine bdrew ?_|refine balloc ?_ _))⟩
  ·go_wp2
   go_ret
   refine⟨ret_bool ?_,hbr⟩
   exact ((rises_iff l).2 (fun j hj=>hp.out j hj (by omega))).symm
end Go.Proofs.YtchjknbideoieaaGreatDoor
namespace Go.Proofs.YtchjknbideoieaaGreatDoor
set_option maxRecDepth 100000
set_option maxHeartbeats 8000000
open Go.RowKit
theorem part_go:∀(a b:List UInt8) (k:Nat),k≤partAt a b→∀(h1:k<a.length) (h2:k<b.length),(a[k]=b[k]→k+1≤partAt a b)∧(a[k]≠b[k]→partAt a b=k)
 | [],_,_,_,h1,_=>by simp at h1
 | _::_,[],_,_,_,h2=>by simp at h2
 | x::a,y::b,0,_,_,_=>by
  refine⟨fun h=>?_,fun h=>?_⟩
  ·simp only[List.getElem_cons_zero] at h
   simp[partAt,h]
  ·simp only[List.getElem_cons_zero] at h
   simp[partAt,h]
 | x::a,y::b,k+1,h,h1,h2=>by
  rw[partAt] at h
  by_cases e:x=y
  ·rw[if_pos e] at h
   have ih:=part_go a b k (by omega) (by simpa using h1) (by simpa using h2)
   simp only[List.getElem_cons_succ]
   rw[partAt,if_pos e]
   exact⟨fun h=>by have:=ih.1 h;omega,fun h=>by have:=ih.2 h;omega⟩
  ·rw[if_neg e] at h;omega
theorem sget' (s:ByteArray) (k:Nat) (h:k<s.size):s.data.toList[k]'(by rw[toList_size];exact h)=s[k]:=rfl
theorem ret_i64 {a b:Nat} (h:a=b):Ending.returned (.int .i64 (a:Int))=Ending.returned (.int .i64 (b:Int)):=by rw[h]
theorem kAlike_any (a b:ByteArray) (w:World) (ha:a.size≤140737488351232) (hb:b.size≤140737488351232) :
  Calls Tryz.prog 115 #[.string a,.string b] w fun en w'=>en=.returned (.int .i64 (partAt a.data.toList b.data.toList:Nat))∧∃n,w'=w.drewN n:=by
 have hsa:=toList_size a
 have hsb:=toList_size b
 have hle:=partAt_le a.data.toList b.data.toList
 rw[hsa,hsb] at hle
 have HA:=Lib.hid hsa
 have HB:=Lib.hid hsb
 have HL:=Lib.hid hle
 clear hsa hsb hle
 have hab:a.size≤b.size∨b.size<a.size:=by omega
 rcases hab with hab|hab
 all_goals
  go_enter Tryz.func115,Tryz.ntmps115
  go_wp2
  go_loopw [6,13] (fun _ i wr=>∃k n:Nat,i=.int .i64 k∧k≤a.size∧k≤b.size∧wr=w.drewN n∧Hid (k≤partAt a.data.toList b.data.toList)) (fun _ i _=>a.size-(intOf i).toNat)
  case atStart=>exact⟨0,0,rfl,Nat.zero_le _,Nat.zero_le _,rfl,Nat.zero_le _⟩
  case round =>
   obtain⟨k,n,rfl,hka,hkb,rfl,hp⟩:=hrel
   by_cases hlt:k<a.size∧k<b.size
   ·obtain⟨h1,h2⟩:=hlt
    have hgo:=part_go a.data.toList b.data.toList k hp.out (by rw[HA.out];exact h1) (by rw[HB.out];exact h2)
    obtain⟨y,hy⟩:∃y,y=a[k]:=⟨_,rfl⟩
    obtain⟨z,hz⟩:∃z,z=b[k]:=⟨_,rfl⟩
    rw[sget' a k h1,sget' b k h2,←hy,←hz] at hgo
    have HG:=Lib.hid hgo
    have ey:=hy.symm
    have ez:=hz.symm
    have hy8:=u8_lt y
    have hz8:=u8_lt z
    clear hgo hy hz
    by_cases hyz:y.toNat=z.toNat
    ·have t1:((y.toNat:Int)==(z.toNat:Int))=true:=by rw[beq_iff_eq];omega
     have HE:Hid (y=z):=Lib.hid (UInt8.toNat_inj.1 hyz)
     clear hyz
     go_wp2
     go_quiet (fail)
     go_wp2
     go_roundw
     case rel=>exact⟨k+1,_,by go_num,by omega,by omega,rfl,HG.out.1 HE.out⟩
     case measure=>simp[intOf];omega
    ·have t1:((y.toNat:Int)==(z.toNat:Int))=false:=by rw[beq_eq_false_iff_ne];omega
     have hpk:partAt a.data.toList b.data.toList=k:=HG.out.2 (fun e=>hyz (by rw[e]))
     have HPK:=Lib.hid hpk
     clear hpk
     go_wp2
     go_quiet (fail)
     go_wp2
     go_ret
     exact⟨ret_i64 HPK.out.symm,_,World.drewN_drewN w n _⟩
   ·have HPK:Hid (partAt a.data.toList b.data.toList=k):=Lib.hid (by have:=HL.out;have:=hp.out;omega)
    go_wp2
    go_ret
    rw[HPK.out]
    first|exact⟨ret_i64 (a:=a.size) (b:=k) (by omega),n,rfl⟩|exact⟨ret_i64 (a:=b.size) (b:=k) (by omega),n,rfl⟩
end Go.Proofs.YtchjknbideoieaaGreatDoor
namespace Go.Proofs.YtchjknbideoieaaGreatDoor
set_option maxRecDepth 100000
set_option maxHeartbeats 8000000
open Go.RowKit
theorem own_type {w:World} {base Bk:Nat} {v:Value} {l:List UInt8} {cs:Array Value} {fr:Nat × Nat} {T:TypeId} (hT:T≠5) (h:OB w base v l) (hr:w.heap[Bk]? = some (.cells cs T fr)):v.ownBlock≠some Bk:=by
 intro e
 rcases h.2 with ⟨rfl,_⟩|⟨g,cap,cur,rfl,_,hg,_⟩
 ·cases e
 ·have e2:g=Bk:=by injection e
  subst e2
  rw[hg] at hr
  injection hr with hr
  injection hr with _ h2 _
  exact hT h2.symm
structure BldV (w:World) (base Bk:Nat) (vo vp:Value) (out places:List UInt8) (n:Nat) (last:ByteArray):Prop where
 row:w.heap[Bk]? = some (.cells #[vo,vp,.int .i64 (n:Int),.string last] 169 (0,0))
 oo:OB w base vo out
 op:OB w base vp places
 ne:vp.ownBlock=none∨vp.ownBlock≠vo.ownBlock
 le:base≤Bk
def BldAt (w:World) (base Bk:Nat) (out places:List UInt8) (n:Nat) (last:ByteArray):Prop:=∃vo vp,BldV w base Bk vo vp out places n last
theorem bk_ne:(169:TypeId)≠5:=by decide
section
variable {w w':World} {base Bk:Nat} {vo vp r:Value} {out places l:List UInt8} {n:Nat} {last:ByteArray}
theorem BldV.lt (h:BldV w base Bk vo vp out places n last):Bk<w.heap.size:=(Array.getElem?_eq_some_iff.1 h.row).1
theorem BldV.cells (h:BldV w base Bk vo vp out places n last):(w.cell? ⟨Bk,0,none⟩=some vo∧w.cell? ⟨Bk,1,none⟩=some vp∧w.cell? ⟨Bk,2,none⟩=some (.int .i64 (n:Int))∧w.cell? ⟨Bk,3,none⟩=some (.string last))∧(w.frozen? ⟨Bk,0,none⟩=false∧w.frozen? ⟨Bk,1,none⟩=false∧w.frozen? ⟨Bk,2,none⟩=false∧w.frozen? ⟨Bk,3,none⟩=false) :=
 cells4 h.row
theorem BldV.below (h:BldV w base Bk vo vp out places n last) (hb:Below w.heap.size w w'):BldV w' base Bk vo vp out places n last :=
 ⟨(hb.block Bk h.lt).trans h.row,h.oo.below hb (Nat.le_refl _),h.op.below hb (Nat.le_refl _),h.ne,h.le⟩
theorem BldV.drew (h:BldV w base Bk vo vp out places n last):BldV w.drew base Bk vo vp out places n last:=⟨h.row,h.oo.drew,h.op.drew,h.ne,h.le⟩
theorem BldV.no (h:BldV w base Bk vo vp out places n last):vo.ownBlock≠some Bk:=own_type bk_ne h.oo h.row
theorem BldV.np (h:BldV w base Bk vo vp out places n last):vp.ownBlock≠some Bk:=own_type bk_ne h.op h.row
theorem BldV.setPlaces (h:BldV w base Bk vo vp out places n last) (ho:OB w base r l) (hr:r.ownBlock=none∨r.ownBlock≠vo.ownBlock):BldV (w.setCell ⟨Bk,1,none⟩ r) base Bk vo r out l n last :=
 ⟨by simp[World.setCell,Array.getElem?_modify,h.row],h.oo.setCell h.no _,ho.setCell (own_type bk_ne ho h.row) _,hr,h.le⟩
theorem BldV.setN (h:BldV w base Bk vo vp out places n last) (m:Nat):BldV (w.setCell ⟨Bk,2,none⟩ (.int .i64 (m:Int))) base Bk vo vp out places m last :=
 ⟨by simp[World.setCell,Array.getElem?_modify,h.row],h.oo.setCell h.no _,h.op.setCell h.np _,h.ne,h.le⟩
theorem BldV.setLast (h:BldV w base Bk vo vp out places n last) (s:ByteArray):BldV (w.setCell ⟨Bk,3,none⟩ (.string s)) base Bk vo vp out places n s :=
 ⟨by simp[World.setCell,Array.getElem?_modify,h.row],h.oo.setCell h.no _,h.op.setCell h.np _,h.ne,h.le⟩
end
structure Kept (w w':World) (vo v':Value):Prop where
 size:w.heap.size≤w'.heap.size
 block:∀x,x<w.heap.size→vo.ownBlock≠some x→w'.heap[x]? = w.heap[x]?
 own:v'.ownBlock=vo.ownBlock∨∃g,v'.ownBlock=some g∧w.heap.size≤g
theorem Kept.refl (w:World) (vo:Value):Kept w w vo vo:=⟨Nat.le_refl _,fun _ _ _=>rfl,.inl rfl⟩
theorem Kept.drew {w w':World} {vo v:Value} (h:Kept w w' vo v):Kept w w'.drew vo v:=⟨h.size,h.block,h.own⟩
theorem Kept.step {w w1 w2:World} {vo v1 v2:Value} (h:Kept w w1 vo v1) (hg:w1.grownBy w2 v1.ownBlock) (ho:v2.ownBlock=v1.ownBlock∨v2.ownBlock=some w1.heap.size):Kept w w2 vo v2:=by
 refine⟨Nat.le_trans h.size hg.size,fun x hx hne=>?_,?_⟩
 ·refine (hg.block x (Nat.lt_of_lt_of_le hx h.size) (fun e=>?_)).trans (h.block x hx hne)
  rcases h.own with e1|⟨g,e1,hge⟩
  ·rw[e1] at e;exact hne e.symm
  ·rw[e1] at e;injection e with e;omega
 ·rcases ho with e|e
  ·rw[e];exact h.own
  ·exact .inr ⟨_,e,h.size⟩
theorem Kept.below {w w1 w2:World} {vo v1:Value} (h:Kept w w1 vo v1) (hb:Below w1.heap.size w1 w2):Kept w w2 vo v1:=⟨Nat.le_trans h.size hb.size,fun x hx hne=>(hb.block x (Nat.lt_of_lt_of_le hx h.size)).trans (h.block x hx hne),h.own⟩
theorem Kept.ob {w w':World} {base:Nat} {vo v' vp:Value} {l:List UInt8} (h:Kept w w' vo v') (hp:OB w base vp l) (hne:vp.ownBlock=none∨vp.ownBlock≠vo.ownBlock):OB w' base vp l:=by
 refine⟨hp.1,?_⟩
 rcases hp.2 with hn|⟨g,cap,cur,hv,hbg,hg,rest⟩
 ·exact .inl hn
 ·have hlt:g<w.heap.size:=(Array.getElem?_eq_some_iff.1 hg).1
  refine .inr ⟨g,cap,cur,hv,hbg,(h.block g hlt (fun e=>?_)).trans hg,rest⟩
  rcases hne with h1|h1
  ·rw[hv] at h1;cases h1
  ·rw[hv] at h1;exact h1 e.symm
section
variable {w w':World} {base Bk:Nat} {vo vp v':Value} {out out' places:List UInt8} {n:Nat} {last:ByteArray}
theorem BldV.setOut (h:BldV w base Bk vo vp out places n last) (k:Kept w w' vo v') (ho:OB w' base v' out'):BldV (w'.setCell ⟨Bk,0,none⟩ v') base Bk v' vp out' places n last:=by
 have hrow:=(k.block Bk h.lt h.no).trans h.row
 have hop:=k.ob h.op h.ne
 refine⟨by simp[World.setCell,Array.getElem?_modify,hrow],ho.setCell (own_type bk_ne ho hrow) _,hop.setCell (own_type bk_ne hop hrow) _,?_,h.le⟩
 rcases k.own with e|⟨g,e,hge⟩
 ·rw[e];exact h.ne
 ·rcases hv:vp.ownBlock with _|x
  ·exact .inl rfl
  ·right
   have:=(h.op.lt x hv).2
   rw[e]
   intro e2
   injection e2 with e2
   omega
end
section
variable {ops:Array Oper} {rest:List Oper} {o:Oper} {a:Act} {K:Act→World→Prop} {Q:Exit→Act→World→Prop} {w:World}
theorem wp_appS2 (s x:Operand)
  (ho:o.op=.call { callee:=.builtin .append,args:=#[s,x],argTypes:=#[56,9] })
  (base:Nat) (v:Value) (l:List UInt8) (hs:a.eval s=v) (hown:OB w base v l)
  (t:ByteArray) (hx:a.eval x=.string t) (hlen:l.length+t.size≤140737488355328) (hbase:base≤w.heap.size)
  (h:∀v' w',OB w' base v' (l++t.data.toList)→w.grownBy w' v.ownBlock→(v'.ownBlock=v.ownBlock∨v'.ownBlock=some w.heap.size)→Below base w w'→K (a.put o.dst v') w'):o.wp Tryz.prog a w K Q:=by
 obtain⟨i0,hi0,hz0,hz1,hz2⟩:=info_parts infoB
 obtain⟨v',w',hrun,h1,h2,h4⟩:=Lib.run_append_own_string (P:=Tryz.prog) w base 56 9 o.type 5 i0 Tryz.underlying56 Tryz.underlying9 hi0 hz0 hz1 hz2 v l.length (bv l) hown t (by simp only[maxLen];omega) (by omega) hbase
 have h3:v'.ownBlock=v.ownBlock∨v'.ownBlock=some w.heap.size:=by
  rcases hown.2 with ⟨rfl,hl0⟩|⟨g,cap,cur,rfl,hbg,hg,hnc,hcm,hcs,htake⟩
  ·by_cases hm:t.size=0
   ·rw[h4.2 ⟨rfl,hm⟩];exact .inl rfl
   ·have hr:=run_append_nil_string (P:=Tryz.prog) w 56 9 o.type 5 i0 (.int .u8 0) Tryz.underlying56 Tryz.underlying9 hi0 hz0 t (by omega) (by omega) (by rw[hz2];omega)
    rw[hr] at hrun
    injection hrun with e _
    rw[←e];exact .inr rfl
  ·by_cases hroom:l.length+t.size≤cap
   ·have hr:=Lib.run_append_room_string (P:=Tryz.prog) w 56 9 o.type 5 i0 Tryz.underlying56 Tryz.underlying9 hi0 hz1 g l.length cap cur hg t hroom (by omega)
    rw[hr] at hrun
    injection hrun with e _
    rw[←e];exact .inl rfl
   ·have holds:∀j u,(bv l)[j]? = some u→w.cell? ((⟨g,0,none⟩:Addr).add j)=some u:=World.ownsRow.cells (g:=g) hown rfl
    have hr:=Lib.run_append_grow_string (P:=Tryz.prog) w 56 9 o.type 5 i0 (.int .u8 0) Tryz.underlying56 Tryz.underlying9 hi0 hz0 ⟨g,0,none⟩ l.length cap (bv l) (by rw[bv_length,hz1,Nat.mul_one]) holds t (by omega) (by omega) (by rw[hz2];exact growslice_fits (by omega) (by omega))
    rw[hr] at hrun
    injection hrun with e _
    rw[←e];exact .inr rfl
 unfold Oper.wp execOp
 simp only[ho,resolve,invoke,builtin,Sem.run_bind,Sem.run_pure,Result.andThen_ok,List.map_toArray,List.map_cons,List.map_nil,hs,hx,hrun]
 have e:t.data.toList.length=t.size:=by rw[Array.length_toList];rfl
 refine h v' w' ?_ h2 h3 ((Below.refl _ _).grown h2 hbase fun k hk=>(hown.lt k hk).1)
 unfold OB
 rw[List.length_append,bv_append,e,←strCells_bv]
 exact h1
end
end Go.Proofs.YtchjknbideoieaaGreatDoor
