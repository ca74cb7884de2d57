/- What is proved here: which entries are few; how many entries the first block of a table has, at this seat's numbers. Conditions: the texts' lengths. how much entries count; the shape of tables, at this seat's numbers. Conditions: the texts' lengths. how many entries the first block of a table has, at this seat's numbers. Conditions: the texts' lengths. how entries are cut .. -/
import Derived.Test.YtchjknbideoieaaGreatDoorK06
import Derived.Test.YtchjknbideoieaaGreatDoorK03
import Derived.BigQuiet
import Derived.Test.YtchjknbideoieaaGreatDoorK02
namespace Go.Proofs.YtchjknbideoieaaGreatDoor
set_option maxRecDepth 100000
set_option maxHeartbeats 8000000
open Go.RowKit
def fewF:Nat→List Ent→Nat→Bool
 | _,[],_=>true
 | i,o::l,left=>decide (i<200)&&decide (o.user.size≤left)&&decide (o.value.size≤left-o.user.size)&&fewF (i+1) l (left-(o.user.size+o.value.size))
def fewB (l:List Ent):Bool:=fewF 0 l 3000
theorem fewF_drop (l:List Ent) (k:Nat) (hk:k<l.length) (left:Nat):fewF k (l.drop k) left=(decide (k<200)&&decide (l[k].user.size≤left)&&decide (l[k].value.size≤left-l[k].user.size)&&fewF (k+1) (l.drop (k+1)) (left-(l[k].user.size+l[k].value.size))):=by
 rw[List.drop_eq_getElem_cons hk,fewF]
theorem few_any (v:Value) (l:List Ent) (w:World) (hv:SE w w.heap.size v l) (hok:∀o∈l,o.user.size≤9223372036854775807∧o.value.size≤9223372036854775807) :
  Calls Tryz.prog 6 #[v] w fun e w'=>e=.returned (.bool (fewB l))∧Below w.heap.size w w':=by
 obtain⟨A,c,rfl,hlc,hcm,hr⟩:=hv
 have hcm':c≤9223372036854775807:=by unfold maxLen at hcm;omega
 clear hcm
 go_enter Tryz.func6,Tryz.ntmps6
 go_wp2
 go_loopw [3,7] (fun s i wr=>∃k left:Nat,i=.int .i64 k∧k≤l.length∧s=.int .i64 left∧left≤3000∧Hid (fewB l=fewF k (l.drop k) left)∧Below w.heap.size w wr) (fun _ i _=>l.length-(intOf i).toNat)
 case atStart=>exact⟨0,3000,rfl,Nat.zero_le _,rfl,Nat.le_refl _,rfl,Below.refl _ _⟩
 case round =>
  obtain⟨k,left,rfl,hk,rfl,hleft,hl,hbr⟩:=hrel
  by_cases hlt:k<l.length
  ·obtain⟨b,o,rfl,hb,c0,c1,c2,c3⟩:=(hr.below hbr).ent rfl hlt
   have hoo:=hok _ (List.getElem_mem hlt)
   have hd:=fewF_drop l k hlt left
   obtain⟨x,hx⟩:∃x,x=l[k]:=⟨_,rfl⟩
   rw[←hx] at c0 c3 hoo hd
   clear c1 c2
   have HD:=Lib.hid hd
   clear hx hd
   by_cases g0:k<200
   ·have g0':decide ((200:Int)≤(k:Int))=false:=by simp;omega
    by_cases g1:x.user.size≤left
    ·have g1':decide (left<x.user.size)=false:=by simp;omega
     have gw:IntKind.i64.wrap ((left:Int)-(x.user.size:Int))=(left:Int)-(x.user.size:Int):=IntWalk.i64_in _ (by omega)
     by_cases g2:x.value.size≤left-x.user.size
     ·have g2':decide ((left:Int)-(x.user.size:Int)<(x.value.size:Int))=false:=by simp;omega
      have gv:IntKind.i64.wrap ((x.user.size:Int)+(x.value.size:Int))=(x.user.size:Int)+(x.value.size:Int):=IntWalk.i64_in _ (by omega)
      have gx:IntKind.i64.wrap ((left:Int)-((x.user.size:Int)+(x.value.size:Int)))=(left:Int)-((x.user.size:Int)+(x.value.size:Int)):=IntWalk.i64_in _ (by omega)
      go_wp2
      go_quiet (fail)
      go_wp2
      go_quiet (fail)
      go_wp2
      clear gw gv gx
      go_roundw
      case rel =>
       refine⟨k+1,left-(x.user.size+x.value.size),by go_num,by omega,by go_num,by omega,?_,bdrewN hbr _⟩
       show _=_
       rw[hl.out,HD.out]
       simp[g0,g1,g2]
      case measure=>simp[intOf];omega
     ·have g2':decide ((left:Int)-(x.user.size:Int)<(x.value.size:Int))=true:=by simp;omega
      go_wp2
      go_quiet (fail)
      go_wp2
      go_ret
      refine⟨ret_bool ?_,bdrewN hbr _⟩
      rw[hl.out,HD.out]
      simp[g2]
    ·have g1':decide (left<x.user.size)=true:=by simp;omega
     go_wp2
     go_quiet (fail)
     go_wp2
     go_ret
     refine⟨ret_bool ?_,bdrewN hbr _⟩
     rw[hl.out,HD.out]
     simp[g1]
   ·have g0':decide ((200:Int)≤(k:Int))=true:=by simp;omega
    go_wp2
    go_quiet (fail)
    go_wp2
    go_ret
    refine⟨ret_bool ?_,bdrewN hbr _⟩
    rw[hl.out,HD.out]
    simp[g0]
  ·go_wp2
   go_ret
   refine⟨ret_bool ?_,hbr⟩
   rw[hl.out,List.drop_eq_nil_of_le (by omega)]
   rfl
end Go.Proofs.YtchjknbideoieaaGreatDoor
namespace Go.Proofs.YtchjknbideoieaaGreatDoor
set_option maxRecDepth 100000
set_option maxHeartbeats 8000000
open Go.RowKit
def countE (l:List Ent):Nat:=8*l.length+(l.map fun e=>e.user.size+e.value.size).sum
theorem countE_take (l:List Ent) (k:Nat) (hk:k<l.length):((l.take (k+1)).map fun e=>e.user.size+e.value.size).sum=((l.take k).map fun e=>e.user.size+e.value.size).sum+(l[k].user.size+l[k].value.size):=by
 rw[List.take_succ_eq_append_getElem hk,List.map_append,List.sum_append]
 simp
theorem kCount_any (v:Value) (l:List Ent) (w:World) (hv:SE w w.heap.size v l) (hl:l.length≤1048576) (hz:∀e∈l,e.user.size≤1048576∧e.value.size≤1048576) :
  Calls Tryz.prog 65 #[v] w fun e w'=>e=.returned (.int .i64 (countE l:Nat))∧Below w.heap.size w w':=by
 obtain⟨A,c,rfl,hlc,hcm,hr⟩:=hv
 have hcm':c≤9223372036854775807:=by unfold maxLen at hcm;omega
 clear hcm
 have g0:IntKind.i64.wrap (8*(l.length:Int))=((8*l.length:Nat):Int):=by rw[IntKind.wrap_i64];omega
 go_enter Tryz.func65,Tryz.ntmps65
 go_wp2_with fail
 go_loopw [3,11] (fun s i wr=>∃k n:Nat,i=.int .i64 k∧k≤l.length∧s=.int .i64 n∧n≤8388608+k*2097152∧Hid (n=8*l.length+((l.take k).map fun e=>e.user.size+e.value.size).sum)∧Below w.heap.size w wr) (fun _ i _=>l.length-(intOf i).toNat)
 case atStart=>exact⟨0,8*l.length,rfl,Nat.zero_le _,by first|rfl|simp,by omega,Lib.hid (by simp),Below.refl _ _⟩
 case round =>
  obtain⟨k,n,rfl,hk,rfl,hn,hP,hbr⟩:=hrel
  by_cases hlt:k<l.length
  ·obtain⟨b,o,rfl,hb,c0,c1,c2,c3⟩:=(hr.below hbr).ent rfl hlt
   have hoo:=hz _ (List.getElem_mem hlt)
   have hd:=countE_take l k hlt
   obtain⟨x,hx⟩:∃x,x=l[k]:=⟨_,rfl⟩
   rw[←hx] at c0 c1 c2 c3 hoo hd
   obtain⟨n2,hn2⟩:∃n2,n2=n+(x.user.size+x.value.size):=⟨_,rfl⟩
   have HP2:Hid (n2=8*l.length+((l.take (k+1)).map fun e=>e.user.size+e.value.size).sum):=Lib.hid (by rw[hn2,hd,hP.out];omega)
   have g1:IntKind.i64.wrap ((x.user.size:Int)+(x.value.size:Int))=(x.user.size:Int)+(x.value.size:Int):=IntWalk.i64_in _ (by omega)
   have g3:IntKind.i64.wrap ((n:Int)+((x.user.size:Int)+(x.value.size:Int)))=(n2:Int):=by rw[IntKind.wrap_i64];omega
   have g4:(n:Int)+((x.user.size:Int)+(x.value.size:Int))=(n2:Int):=by omega
   have hn3:n2≤8388608+(k+1)*2097152:=by omega
   clear hx hd hn2 hP g0
   go_wp2_with fail
   go_roundw
   case rel=>exact⟨k+1,n2,by go_num,by omega,by first|rfl|go_num,hn3,HP2,balloc hbr _⟩
   case measure=>first|(simp[intOf];done)|(simp[intOf];omega)
  ·have hkl:k=l.length:=by omega
   subst hkl
   have HE:Hid (n=countE l):=Lib.hid (by rw[hP.out,List.take_length];rfl)
   go_wp2_with fail
   go_ret
   exact⟨by rw[←HE.out];rfl,hbr⟩
theorem kNeed_true (w:World):Calls Tryz.prog 62 #[.bool true] w fun e w'=>e=.returned (.tuple #[])∧w'=w:=by
 go_enter Tryz.func62,Tryz.ntmps62
 go_wp2_with fail
 go_end0
 exact⟨rfl,rfl⟩
theorem kShape_any (n:UInt8) (w:World):Calls Tryz.prog 10 #[.int .u8 (n.toNat:Int)] w fun e w'=>e=.returned (.agg #[.int .i64 ((n.toNat%60+1:Nat):Int),.int .i64 ((n.toNat%7+1:Nat):Int),.int .i64 ((n.toNat%20+1:Nat):Int)])∧Below w.heap.size w w':=by
 have hn:=u8_lt n
 obtain⟨a,ha⟩:∃a,a=n.toNat%60+1:=⟨_,rfl⟩
 obtain⟨b,hb⟩:∃b,b=n.toNat%7+1:=⟨_,rfl⟩
 obtain⟨c,hc⟩:∃c,c=n.toNat%20+1:=⟨_,rfl⟩
 rw[←ha,←hb,←hc]
 have g1:(n.toNat:Int)%60+1=(a:Int):=by omega
 have g2:(n.toNat:Int)%7+1=(b:Int):=by omega
 have g3:(n.toNat:Int)%20+1=(c:Int):=by omega
 clear ha hb hc
 go_enter Tryz.func10,Tryz.ntmps10
 go_wp2_with fail
 exact bodyPost_ret (v:=.agg #[.int .i64 (a:Int),.int .i64 (b:Int),.int .i64 (c:Int)]) (by simp[results,Tryz.results10,go_sem] <;> rfl) rfl ⟨rfl,balloc (bself w) _⟩
end Go.Proofs.YtchjknbideoieaaGreatDoor
namespace Go.Proofs.YtchjknbideoieaaGreatDoor
set_option maxRecDepth 100000
set_option maxHeartbeats 8000000
open Go.RowKit
theorem kCut_any (v:Value) (l:List Ent) (least:Int) (w:World) (hv:SE w w.heap.size v l) (hl:l.length≤1048576) (hz:∀e∈l,e.user.size≤1048576∧e.value.size≤1048576) (h1:-9223372036854775808≤least) (h2:least≤9223372036854775807) :
  Calls Tryz.prog 52 #[v,.int .i64 least] w fun e w'=>e=.returned (.int .i64 (cutF least 0 l:Nat))∧Below w.heap.size w w':=by
 obtain⟨A,c,rfl,hlc,hcm,hr⟩:=hv
 have hcm':c≤9223372036854775807:=by unfold maxLen at hcm;omega
 clear hcm
 go_enter Tryz.func52,Tryz.ntmps52
 go_wp2
 go_loopw [5,6,10] (fun s _ i wr=>∃k n:Nat,i=.int .i64 k∧k≤l.length∧s=.int .i64 n∧n≤k*2097160∧Hid (cutF least 0 l=k+cutF least n (l.drop k))∧Below w.heap.size w wr) (fun _ _ i _=>l.length-(intOf i).toNat)
 case atStart=>exact⟨0,0,rfl,Nat.zero_le _,rfl,Nat.le_refl _,Lib.hid (by simp),Below.refl _ _⟩
 case round =>
  obtain⟨k,n,rfl,hk,rfl,hn,hP,hbr⟩:=hrel
  by_cases hlt:k<l.length
  ·obtain⟨b,o,rfl,hb,c0,c1,c2,c3⟩:=(hr.below hbr).ent rfl hlt
   have hoo:=hz _ (List.getElem_mem hlt)
   have hd:l.drop k=l[k]::l.drop (k+1):=List.drop_eq_getElem_cons hlt
   obtain⟨x,hx⟩:∃x,x=l[k]:=⟨_,rfl⟩
   rw[←hx] at c0 c1 c2 c3 hoo hd
   obtain⟨n2,hn2⟩:∃n2,n2=n+(x.user.size+x.value.size+8):=⟨_,rfl⟩
   have hP2:cutF least 0 l=k+(if least≤(n2:Int) then 1 else 1+cutF least n2 (l.drop (k+1))):=by rw[hP.out,hd,cutF,←hn2]
   have g1:IntKind.i64.wrap ((x.user.size:Int)+(x.value.size:Int))=(x.user.size:Int)+(x.value.size:Int):=IntWalk.i64_in _ (by omega)
   have g2:IntKind.i64.wrap ((x.user.size:Int)+(x.value.size:Int)+8)=(x.user.size:Int)+(x.value.size:Int)+8:=IntWalk.i64_in _ (by omega)
   have g3:IntKind.i64.wrap ((n:Int)+((x.user.size:Int)+(x.value.size:Int)+8))=(n2:Int):=by rw[IntKind.wrap_i64];omega
   have g4:(n:Int)+((x.user.size:Int)+(x.value.size:Int)+8)=(n2:Int):=by omega
   have hn3:n2≤(k+1)*2097160:=by omega
   have HP2:=Lib.hid hP2
   clear hx hd hn2 hP2 hP
   by_cases hle:least≤(n2:Int)
   ·have hle':decide (least≤(n2:Int))=true:=by simp[hle]
    have HE:Hid (cutF least 0 l=k+1):=Lib.hid (by rw[HP2.out,if_pos hle])
    go_wp2_with fail
    go_ret
    exact⟨by rw[HE.out];rfl,balloc hbr _⟩
   ·have hle':decide (least≤(n2:Int))=false:=by simp;omega
    have HE:Hid (cutF least 0 l=(k+1)+cutF least n2 (l.drop (k+1))):=Lib.hid (by rw[HP2.out,if_neg hle];omega)
    go_wp2_with fail
    go_roundw
    case rel=>exact⟨k+1,n2,by go_num,by omega,by first|rfl|go_num,hn3,HE,balloc hbr _⟩
    case measure=>simp[intOf];omega
  ·have hkl:k=l.length:=by omega
   subst hkl
   have HE:Hid (cutF least 0 l=l.length):=Lib.hid (by rw[hP.out,List.drop_eq_nil_of_le (Nat.le_refl _),cutF];omega)
   go_wp2_with fail
   go_ret
   exact⟨by rw[HE.out];rfl,hbr⟩
end Go.Proofs.YtchjknbideoieaaGreatDoor
namespace Go.Proofs.YtchjknbideoieaaGreatDoor
set_option maxRecDepth 100000
set_option maxHeartbeats 8000000
def keyN (u:ByteArray):List Ent→Nat
 | []=>0
 | e::l=>if e.user=u then keyN u l+1 else 0
theorem keyN_le (u:ByteArray):∀l:List Ent,keyN u l≤l.length
 | []=>Nat.le_refl _
 | e::l=>by
  rw[keyN,List.length_cons]
  split
  ·have:=keyN_le u l;omega
  ·omega
def groupsF:Nat→List Ent→List (List Ent)
 | 0,_=>[]
 | _+1,[]=>[]
 | f+1,e::l=>(e::l.take (keyN e.user l))::groupsF f (l.drop (keyN e.user l))
theorem groupsF_flat:∀(f:Nat) (l:List Ent),l.length≤f→(groupsF f l).flatten=l
 | 0,l,h=>by rw[List.length_eq_zero_iff.1 (show l.length=0 by omega)];rfl
 | f+1,[],_=>rfl
 | f+1,e::l,h=>by
  rw[groupsF,List.flatten_cons,groupsF_flat f _ (by rw[List.length_drop];rw[List.length_cons] at h;omega),List.cons_append,List.take_append_drop]
theorem groupsF_ne:∀(f:Nat) (l:List Ent),∀g∈groupsF f l,g≠[]
 | 0,_=>fun g hg=>by cases hg
 | _+1,[]=>fun g hg=>by cases hg
 | f+1,e::l=>by
  intro g hg
  rw[groupsF] at hg
  rcases List.mem_cons.1 hg with rfl|hg
  ·simp
  ·exact groupsF_ne f _ g hg
def Under (a b:List Ent):Prop:=∀x∈a,∀y∈b,ltB x.user.toList y.user.toList=true
theorem ext_toList {a b:ByteArray} (h:a.toList=b.toList):a=b:=by
 rw[Lib.toList_data,Lib.toList_data] at h
 exact ByteArray.ext (Array.toList_inj.1 h)
theorem keyN_take (u:ByteArray):∀l:List Ent,∀x∈l.take (keyN u l),x.user=u
 | []=>fun x hx=>by simp at hx
 | e::l=>by
  intro x hx
  rw[keyN] at hx
  split at hx
  ·rename_i h
   rw[List.take_succ_cons] at hx
   rcases List.mem_cons.1 hx with rfl|hx
   ·exact h
   ·exact keyN_take u l x hx
  ·simp at hx
theorem keyN_drop {e:Ent}:∀l:List Ent,risesE (e::l)=true→∀y∈l.drop (keyN e.user l),ltB e.user.toList y.user.toList=true
 | [],_=>fun y hy=>by simp at hy
 | a::l,h=>by
  obtain⟨h1,h2⟩:=rises_all e (a::l) h
  intro y hy
  rw[keyN] at hy
  split at hy
  ·rename_i hu
   rw[List.drop_succ_cons] at hy
   have:=keyN_drop (e:=a) l h1 y (by rw[hu];exact hy)
   rwa [hu] at this
  ·rename_i hu
   rw[List.drop_zero] at hy
   rcases (ahead_iff _ _).1 (h2 y hy) with h3|⟨h3,_⟩
   ·exact h3
   ·exfalso
    have ha:ltB e.user.toList a.user.toList=true:=by
     rcases (ahead_iff _ _).1 (h2 a (List.mem_cons_self)) with h4|⟨h4,_⟩
     ·exact h4
     ·exact absurd (ext_toList h4).symm hu
    rcases List.mem_cons.1 hy with rfl|hy
    ·rw[h3,ltB_irr] at ha;cases ha
    ·obtain⟨_,h5⟩:=rises_all a l h1
     rcases (ahead_iff _ _).1 (h5 y hy) with h6|⟨h6,_⟩
     ·have:=ltB_trans _ _ _ ha h6
      rw[h3,ltB_irr] at this;cases this
     ·rw[h3,←h6,ltB_irr] at ha;cases ha
theorem rises_tail {e:Ent} {l:List Ent} (h:risesE (e::l)=true):risesE l=true:=(rises_all e l h).1
theorem groupsF_under:∀(f:Nat) (l:List Ent),risesE l=true→l.length≤f→(groupsF f l).Pairwise Under
 | 0,_,_,_=>List.Pairwise.nil
 | _+1,[],_,_=>List.Pairwise.nil
 | f+1,e::l,h,hf=>by
  rw[groupsF]
  rw[List.length_cons] at hf
  have hl:(l.drop (keyN e.user l)).length≤f:=by rw[List.length_drop];omega
  refine List.Pairwise.cons ?_ (groupsF_under f _ (rises_drop (rises_tail h) _) hl)
  intro g hg x hx y hy
  have hy2:y∈l.drop (keyN e.user l):=by
   rw[←groupsF_flat f _ hl]
   exact List.mem_flatten.2 ⟨g,hg,hy⟩
  have h3:=keyN_drop l h y hy2
  rcases List.mem_cons.1 hx with rfl|hx
  ·exact h3
  ·rw[keyN_take _ l x hx];exact h3
def splitGo (most:Int):List (List Ent)→List Ent→Int→List (List Ent)→List (List Ent)
 | o,t,_,[]=>o++[t]
 | o,t,room,p::gs=>if room<(countE p:Int) then splitGo most (o++[t]) p (max most 1-min (max most 1) (countE p)) gs else splitGo most o (t++p) (room-min room (countE p)) gs
def splitG (most:Int):List (List Ent)→List (List Ent)
 | []=>[]
 | p::gs=>splitGo most [] p (max most 1-min (max most 1) (countE p)) gs
def splitL (most:Int) (l:List Ent):List (List Ent):=splitG most (groupsF l.length l)
theorem splitGo_flat (most:Int):∀gs o t room,(splitGo most o t room gs).flatten=o.flatten++t++gs.flatten
 | [],o,t,room=>by simp[splitGo]
 | p::gs,o,t,room=>by
  rw[splitGo]
  split
  ·rw[splitGo_flat most gs];simp
  ·rw[splitGo_flat most gs];simp
theorem splitL_flat (most:Int) (l:List Ent):(splitL most l).flatten=l:=by
 have h:=groupsF_flat l.length l (Nat.le_refl _)
 unfold splitL
 cases hg:groupsF l.length l with
 | nil=>rw[hg] at h;exact h
 | cons p gs =>
  rw[hg] at h
  rw[splitG,splitGo_flat]
  simpa using h
theorem splitGo_under (most:Int):∀gs o t room,(o++t::gs).Pairwise Under→(∀g∈o++t::gs,g≠[])→(splitGo most o t room gs).Pairwise Under∧∀g∈splitGo most o t room gs,g≠[]
 | [],o,t,room,h,hn=>by rw[splitGo];exact⟨h,hn⟩
 | p::gs,o,t,room,h,hn=>by
  rw[splitGo]
  split
  ·exact splitGo_under most gs (o++[t]) p _ (by simpa using h) (by simpa using hn)
  ·refine splitGo_under most gs o (t++p) _ ?_ ?_
   ·rw[List.pairwise_append] at h ⊢
    obtain⟨h1,h2,h3⟩:=h
    rw[List.pairwise_cons] at h2
    obtain⟨h4,h5⟩:=h2
    rw[List.pairwise_cons] at h5
    obtain⟨h6,h7⟩:=h5
    refine⟨h1,List.pairwise_cons.2 ⟨fun g hg x hx y hy=>?_,h7⟩,fun a ha b hb x hx y hy=>?_⟩
    ·rcases List.mem_append.1 hx with hx|hx
     ·exact h4 g (List.mem_cons_of_mem _ hg) x hx y hy
     ·exact h6 g hg x hx y hy
    ·rcases List.mem_cons.1 hb with rfl|hb
     ·rcases List.mem_append.1 hy with hy|hy
      ·exact h3 a ha t (List.mem_cons_self) x hx y hy
      ·exact h3 a ha p (List.mem_cons_of_mem _ (List.mem_cons_self)) x hx y hy
     ·exact h3 a ha b (List.mem_cons_of_mem _ (List.mem_cons_of_mem _ hb)) x hx y hy
   ·intro g hg
    rcases List.mem_append.1 hg with hg|hg
    ·exact hn g (List.mem_append_left _ hg)
    ·rcases List.mem_cons.1 hg with rfl|hg
     ·have:=hn t (List.mem_append_right _ (List.mem_cons_self))
      intro e
      rw[List.append_eq_nil_iff] at e
      exact this e.1
     ·exact hn g (List.mem_append_right _ (List.mem_cons_of_mem _ (List.mem_cons_of_mem _ hg)))
theorem splitL_under (most:Int) (l:List Ent) (h:risesE l=true):(splitL most l).Pairwise Under∧∀g∈splitL most l,g≠[]:=by
 have h1:=groupsF_under l.length l h (Nat.le_refl _)
 have h2:=groupsF_ne l.length l
 unfold splitL
 cases hg:groupsF l.length l with
 | nil=>exact⟨List.Pairwise.nil,fun g hg=>by cases hg⟩
 | cons p gs =>
  rw[hg] at h1 h2
  exact splitGo_under most gs [] p _ h1 h2
theorem part_of {ts:List (List Ent)} {t:List Ent} (h:t∈ts):∃a b,ts.flatten=a++(t++b):=by
 obtain⟨s,r,rfl⟩:=List.append_of_mem h
 exact⟨s.flatten,r.flatten,by simp⟩
theorem rises_part {l a t b:List Ent} (h:risesE l=true) (e:l=a++(t++b)):risesE t=true:=by
 have h1:=rises_drop h a.length
 rw[e,List.drop_left] at h1
 have h2:=rises_take h1 t.length
 rwa [List.take_left] at h2
def seekE (q:Ent) (l:List Ent):Option Ent:=l.find? (fun e=>decide (e.user=q.user)&&decide (e.seq.toNat≤q.seq.toNat))
theorem only_seek {l:List Ent} (h:risesE l=true) (q:Ent):onlyE q (firstE l q)=seekE q l:=by
 induction l with
 | nil=>rfl
 | cons a l ih =>
  obtain⟨h1,h2⟩:=rises_all a l h
  unfold firstE seekE
  rw[List.find?_cons,List.find?_cons]
  cases ha:aheadE a q with
  | true =>
   have hn:(decide (a.user=q.user)&&decide (a.seq.toNat≤q.seq.toNat))=false:=by
    rcases (ahead_iff _ _).1 ha with h3|⟨h3,h4⟩
    ·have:¬a.user=q.user:=by intro e;rw[e,ltB_irr] at h3;cases h3
     simp[this]
    ·have:¬a.seq.toNat≤q.seq.toNat:=by omega
     simp[this]
   rw[hn]
   exact ih h1
  | false =>
   simp only[Bool.not_false]
   unfold onlyE
   simp only[Option.bind_some]
   by_cases hu:a.user=q.user
   ·have hs:a.seq.toNat≤q.seq.toNat:=by
     rcases Nat.lt_or_ge q.seq.toNat a.seq.toNat with h3|h3
     ·have:=(ahead_iff a q).2 (.inr ⟨by rw[hu],h3⟩)
      rw[ha] at this;cases this
     ·exact h3
    rw[if_pos hu]
    simp[hu,hs]
   ·rw[if_neg hu]
    have hn:(decide (a.user=q.user)&&decide (a.seq.toNat≤q.seq.toNat))=false:=by simp[hu]
    rw[hn]
    symm
    rw[List.find?_eq_none]
    intro y hy
    have hlt:ltB q.user.toList a.user.toList=true:=by
     rcases Bool.eq_false_or_eq_true (ltB q.user.toList a.user.toList) with h3|h3
     ·exact h3
     ·exfalso
      have h4:ltB a.user.toList q.user.toList=false:=by
       rcases Bool.eq_false_or_eq_true (ltB a.user.toList q.user.toList) with h5|h5
       ·have:=(ahead_iff a q).2 (.inl h5);rw[ha] at this;cases this
       ·exact h5
      exact hu (ext_toList (ltB_tri _ _ h4 h3))
    have hy2:¬y.user=q.user:=by
     intro e
     rcases (ahead_iff _ _).1 (h2 y hy) with h3|⟨h3,_⟩
     ·have:=ltB_trans _ _ _ hlt h3
      rw[e,ltB_irr] at this;cases this
     ·rw[h3,e,ltB_irr] at hlt;cases hlt
    simp[hy2]
def hasU (u:ByteArray) (t:List Ent):Bool:=!ltB (t.getD (t.length-1) ent0).user.toList u.toList&&!ltB u.toList (t.getD 0 ent0).user.toList
theorem seek_none {q:Ent} {t:List Ent} (h:risesE t=true) (hu:hasU q.user t=false):seekE q t=none:=by
 unfold seekE
 rw[List.find?_eq_none]
 intro y hy
 have hy2:¬y.user=q.user:=by
  intro e
  obtain⟨i,hi,rfl⟩:=List.getElem_of_mem hy
  have hg:t.getD i ent0=t[i]:=by rw[List.getD_eq_getElem?_getD,List.getElem?_eq_getElem hi];rfl
  have h1:=rises_user h 0 i (Nat.zero_le _) hi
  have h2:=rises_user h i (t.length-1) (by omega) (by omega)
  rw[hg,e] at h1 h2
  unfold hasU at hu
  rw[h1,h2] at hu
  cases hu
 simp[hy2]
theorem has_once {u:ByteArray} {ts:List (List Ent)} (h:ts.Pairwise Under) (hn:∀t∈ts,t≠[]):(ts.filter (hasU u)).length≤1:=by
 induction ts with
 | nil=>simp
 | cons t ts ih =>
  rw[List.pairwise_cons] at h
  have ih2:=ih h.2 (fun x hx=>hn x (List.mem_cons_of_mem _ hx))
  rw[List.filter_cons]
  split
  ·rename_i ht
   have:ts.filter (hasU u)=[]:=by
    rw[List.filter_eq_nil_iff]
    intro b hb hb2
    have h1:=List.length_pos_iff.2 (hn t (List.mem_cons_self))
    have h2:=List.length_pos_iff.2 (hn b (List.mem_cons_of_mem _ hb))
    have g1:t.getD (t.length-1) ent0∈t:=by
     rw[List.getD_eq_getElem?_getD,List.getElem?_eq_getElem (by omega:t.length-1<t.length)]
     exact List.getElem_mem _
    have g2:b.getD 0 ent0∈b:=by
     rw[List.getD_eq_getElem?_getD,List.getElem?_eq_getElem h2]
     exact List.getElem_mem _
    have h3:=h.1 b hb _ g1 _ g2
    unfold hasU at ht hb2
    simp only[Bool.and_eq_true,Bool.not_eq_true'] at ht hb2
    have h4:=ltB_of_le ht.1 h3
    rw[hb2.2] at h4
    cases h4
   rw[this]
   simp
  ·exact ih2
theorem seek_tables (q:Ent):∀ts:List (List Ent),risesE ts.flatten=true→(ts.filter (hasU q.user)).length≤1→seekE q ts.flatten=match ts.filter (hasU q.user) with|[]=>none|t::_=>seekE q t
 | [],_,_=>rfl
 | t::ts,h,hl=>by
  rw[List.flatten_cons] at h ⊢
  have ht:risesE t=true:=by have:=rises_take h t.length;rwa [List.take_left] at this
  have hts:risesE ts.flatten=true:=by have:=rises_drop h t.length;rwa [List.drop_left] at this
  have e:seekE q (t++ts.flatten)=(seekE q t).or (seekE q ts.flatten):=List.find?_append
  rw[e]
  rw[List.filter_cons] at hl ⊢
  cases hh:hasU q.user t with
  | false =>
   rw[hh] at hl
   rw[seek_none ht hh,Option.none_or,if_neg (by simp)]
   exact seek_tables q ts hts (by simpa using hl)
  | true =>
   rw[hh,if_pos rfl,List.length_cons] at hl
   have hz:ts.filter (hasU q.user)=[]:=List.length_eq_zero_iff.1 (by omega)
   have hr:=seek_tables q ts hts (by rw[hz];simp)
   rw[hz] at hr
   rw[hr,Option.or_none,if_pos rfl]
end Go.Proofs.YtchjknbideoieaaGreatDoor
namespace Go.Proofs.YtchjknbideoieaaGreatDoor
set_option maxRecDepth 100000
set_option maxHeartbeats 8000000
open Go.RowKit
def RdrAt (w:World) (R:Nat) (rest:List UInt8) (bad:Nat):Prop :=
 ∃A c,w.heap[R]? = some (.cells #[.slice A rest.length c,.int .i64 (bad:Int)] 181 (0,0))∧rest.length≤c∧c≤maxLen∧Rd w R 1 A rest.length (bv rest)
section
variable {w w':World} {R B:Nat} {rest:List UInt8} {bad:Nat}
theorem RdrAt.lt (h:RdrAt w R rest bad):R<w.heap.size:=by
 obtain⟨A,c,h,_⟩:=h
 exact (Array.getElem?_eq_some_iff.1 h).1
theorem RdrAt.on (h:RdrAt w R rest bad) (hb:Below B w w') (hB:w.heap.size≤B):RdrAt w' R rest bad:=by
 have hlt:=h.lt
 obtain⟨A,c,h1,h2,h3,h4⟩:=h
 exact⟨A,c,(hb.block R (by omega)).trans h1,h2,h3,h4.keep fun p hp=>hb.cell (by omega)⟩
theorem RdrAt.far (h:RdrAt w R rest bad) {row:Option Nat} (hg:w.grownBy w' row) (hr:∀g,row=some g→R<g):RdrAt w' R rest bad:=by
 have hlt:=h.lt
 obtain⟨A,c,h1,h2,h3,h4⟩:=h
 refine⟨A,c,(hg.block R hlt (fun e=>by have:=hr R e.symm;omega)).trans h1,h2,h3,h4.keep fun p hp=>World.cell?_of_block (hg.block p.block (by omega) (fun e=>by have:=hr _ e.symm;omega))⟩
theorem RdrAt.drewN (h:RdrAt w R rest bad) (k:Nat):RdrAt (w.drewN k) R rest bad:=h
end
theorem set0 {w:World} {R:Nat} {a b u:Value} {T:TypeId} (h:w.heap[R]? = some (.cells #[a,b] T (0,0))):(w.setCell ⟨R,0,none⟩ u).heap[R]? = some (.cells #[u,b] T (0,0)):=by
 simp[World.setCell,Array.getElem?_modify,h]
theorem set1 {w:World} {R:Nat} {a b u:Value} {T:TypeId} (h:w.heap[R]? = some (.cells #[a,b] T (0,0))):(w.setCell ⟨R,1,none⟩ u).heap[R]? = some (.cells #[a,u] T (0,0)):=by
 simp[World.setCell,Array.getElem?_modify,h]
theorem cells2 {w:World} {R:Nat} {a b:Value} {T:TypeId} (h:w.heap[R]? = some (.cells #[a,b] T (0,0))):w.cell? ⟨R,0,none⟩=some a∧w.cell? ⟨R,1,none⟩=some b∧w.frozen? ⟨R,0,none⟩=false∧w.frozen? ⟨R,1,none⟩=false:=by
 refine⟨cell_of_row w R 0 _ _ _ h,cell_of_row w R 1 _ _ _ h,?_,?_⟩ <;> simp[World.frozen?,h]
def RdrFrom (L:Nat) (w:World) (R:Nat) (rest:List UInt8) (bad:Nat):Prop :=
 ∀w':World,(∀g,L≤g→g<w.heap.size→w'.heap[g]? = w.heap[g]?)→RdrAt w' R rest bad
theorem RdrFrom.at_ {L:Nat} {w:World} {R:Nat} {rest:List UInt8} {bad:Nat} (h:RdrFrom L w R rest bad):RdrAt w R rest bad:=h w fun _ _ _=>rfl
theorem RdrFrom.far {L:Nat} {w w':World} {R:Nat} {rest:List UInt8} {bad g:Nat} (h:RdrFrom L w R rest bad) (hg:w.grownBy w' (some g)) (hL:g<L):RdrFrom L w' R rest bad:=fun w2 h2 =>
 h w2 fun k hk hs=>(h2 k hk (Nat.lt_of_lt_of_le hs hg.size)).trans (hg.block k hs (fun e=>by injection e with e;omega))
theorem cNew_any (v:Value) (bs:List UInt8) (w:World) (hv:SB w w.heap.size v bs) (hm:bs.length≤140737488355328) :
  Calls Tryz.prog 73 #[v] w fun e w'=>∃R,e=.returned (.pointer (some ⟨R,0,none⟩))∧w.heap.size≤R∧RdrFrom w.heap.size w' R bs 0∧Below w.heap.size w w':=by
 go_enter Tryz.func73,Tryz.ntmps73
 go_wp2_with (at_builtin;refine wl_appB rfl (.tmp 3) (.tmp 4) rfl w.heap.size _ [] rfl (OB.lit0 w (Nat.le_refl _)) w.heap.size v bs rfl (hv.alloc (Nat.le_refl _) _) (by simp;omega) (by simp) ?_;intro v1 w1 hown1 _ _ hb1;have hlt1:=hown1.lt;obtain⟨A1,c1,rfl,hc1,hm1,hr1⟩:=hown1.sb)
 go_ret
 have hb:Below w.heap.size w w1:=((Below.refl _ _).alloc (Nat.le_refl _) _).trans hb1
 refine⟨w1.heap.size,rfl,hb.size,fun w2 h2=>⟨A1,c1,(h2 _ hb.size (by simp)).trans (heap_alloc_new w1 _),hc1,hm1,hr1.1,hr1.2.1,fun ad e hn=>?_⟩,balloc hb _⟩
 have hr2:=hr1.alloc (Nat.le_refl _) (.cells #[.slice A1 bs.length c1,.int .i64 0] 181 (0,0))
 obtain⟨hs,hbl,hcell⟩:=hr2.2.2 ad e hn
 refine⟨hs,hbl,fun j u hu=>(World.cell?_of_block (a:=⟨ad.block,ad.off+j,none⟩) (h2 ad.block ?_ (by simp;omega))).trans (hcell j u hu)⟩
 exact (hlt1 ad.block (by rw[e];rfl)).1
theorem and127:∀a:Nat,a<256→a &&& 127=a%128:=by decide +kernel
theorem u8_and127 (x:UInt8):bits .and .u8 (x.toNat:Int) 127=((x.toNat%128:Nat):Int):=by
 have h:=u8_lt x
 rw[show (127:Int)=((127:Nat):Int) from rfl,u8_and_nat _ _ h (by omega),and127 _ h]
theorem pow128 (k:Nat):(128:Nat) ^ k=2 ^ (7*k):=by rw[Nat.pow_mul]
theorem or_step (n k:Nat) (x:UInt8) (hn:n<128 ^ k) (hk:k≤9) (hx:k=9→x.toNat≤1) :
  bits .or .u64 (n:Int) (IntKind.u64.wrap ((x.toNat:Int)%128*2 ^ (7*k)))=((n+x.toNat%128*128 ^ k:Nat):Int):=by
 have hb:x.toNat%128*128 ^ k+128 ^ k≤18446744073709551616:=by
  rcases Nat.lt_or_ge k 9 with h|h
  ·have h1:x.toNat%128*128 ^ k≤127*128 ^ k:=Nat.mul_le_mul_right _ (by omega)
   have h2:128 ^ (k+1)≤128 ^ 9:=Nat.pow_le_pow_right (by omega) (by omega)
   have h3:(128:Nat) ^ 9≤18446744073709551616:=by decide
   rw[Nat.pow_succ] at h2
   omega
  ·have e:k=9:=by omega
   have h4:=hx e
   have h5:x.toNat%128*128 ^ k≤1*128 ^ k:=Nat.mul_le_mul_right _ (by omega)
   have h6:(128:Nat) ^ k=9223372036854775808:=by rw[e]
   have key:∀q p:Nat,q≤1*p→p=9223372036854775808→q+p≤18446744073709551616:=by intro q p h1 h2;omega
   exact key _ _ h5 h6
 have e1:((x.toNat:Int)%128*2 ^ (7*k))=((x.toNat%128*128 ^ k:Nat):Int):=by rw[pow128];simp
 have e2:IntKind.u64.wrap ((x.toNat:Int)%128*2 ^ (7*k))=((x.toNat%128*128 ^ k:Nat):Int):=by
  rw[e1,IntKind.wrap_u64];omega
 rw[e2,u64_or_nat _ _ (by omega) (by omega)]
 congr 1
 rw[pow128] at hn ⊢
 rw[Nat.or_comm,Nat.mul_comm,←Nat.two_pow_add_eq_or_of_lt hn,Nat.add_comm]
theorem or_step9 (n:Nat) (x:UInt8) (hn:n<128 ^ 9) (hx:x.toNat≤1):bits .or .u64 (n:Int) ((x.toNat:Int)%128*9223372036854775808)=((n+x.toNat%128*128 ^ 9:Nat):Int):=by
 have h:=or_step n 9 x hn (by omega) (fun _=>hx)
 have p:(2:Int) ^ (7*9)=9223372036854775808:=by decide
 rw[p] at h
 have e:IntKind.u64.wrap ((x.toNat:Int)%128*9223372036854775808)=(x.toNat:Int)%128*9223372036854775808:=by rw[IntKind.wrap_u64];omega
 rw[e] at h
 exact h
theorem ret3 {k1 k2 k3:IntKind} {a b c a' b' c':Int} (h1:a=a') (h2:b=b') (h3:c=c'):Ending.returned (.tuple #[.int k1 a,.int k2 b,.int k3 c])=Ending.returned (.tuple #[.int k1 a',.int k2 b',.int k3 c']):=by rw[h1,h2,h3]
theorem cNumber_any (A:Option Addr) (c B:Nat) (l:List UInt8) (w:World) (_hc:l.length≤c) (hcm:c≤maxLen) (hr:Rd w B 1 A l.length (bv l)) :
  Calls Tryz.prog 101 #[.slice A l.length c] w fun e w'=>e=.returned (.tuple #[.int .u64 ((number l).1:Int),.int .i64 ((number l).2.1:Int),.int .i64 ((number l).2.2:Int)])∧w'=w:=by
 have hcm':c≤9223372036854775807:=by unfold maxLen at hcm;omega
 clear hcm
 go_enter Tryz.func101,Tryz.ntmps101
 go_wp2
 go_loop [5,10] (fun x i=>∃k n:Nat,i=.int .i64 k∧x=.int .u64 n∧k≤l.length∧k≤9∧Hid (n<128 ^ k∧numG k n (l.drop k)=number l)) (fun _ i=>l.length-(intOf i).toNat)
 case atStart=>exact⟨0,0,rfl,rfl,Nat.zero_le _,by omega,by simp,rfl⟩
 case round =>
  obtain⟨k,n,rfl,rfl,hk,hk9,hl⟩:=hrel
  by_cases hlt:k<l.length
  ·obtain⟨b,o,rfl,hb,hcell⟩:=hr.at_ (by omega)
   have c0:=hcell k _ (bv_get l k hlt)
   have hd:l.drop k=l[k]::l.drop (k+1):=List.drop_eq_getElem_cons hlt
   obtain⟨x,hx⟩:∃x,x=l[k]:=⟨_,rfl⟩
   rw[←hx] at c0 hd
   have HD:=Lib.hid hd
   have hx8:=u8_lt x
   have hand:=u8_and127 x
   clear hx hcell hd
   have hbad:k=9∧1<x.toNat→number l=(0,0,11):=fun h=>by rw[←hl.out.2,HD.out,numG,if_pos h]
   have hzero:¬(k=9∧1<x.toNat)→x.toNat<128→0<k∧x.toNat=0→number l=(0,0,11):=fun h1 h2 h3=>by rw[←hl.out.2,HD.out,numG,if_neg h1,if_pos h2,if_pos h3]
   have hgood:¬(k=9∧1<x.toNat)→x.toNat<128→¬(0<k∧x.toNat=0)→number l=(n+x.toNat%128*128 ^ k,k+1,0):=fun h1 h2 h3=>by rw[←hl.out.2,HD.out,numG,if_neg h1,if_pos h2,if_neg h3]
   have hmore:¬(k=9∧1<x.toNat)→¬x.toNat<128→numG (k+1) (n+x.toNat%128*128 ^ k) (l.drop (k+1))=number l:=fun h1 h2=>by rw[←hl.out.2,HD.out,numG,if_neg h1,if_neg h2]
   have hor:=or_step n k x hl.out.1 hk9
   have HH:=Lib.hid (And.intro hbad (And.intro hzero (And.intro hgood (And.intro hmore hor))))
   clear hbad hzero hgood hmore hor
   go_wp2
   ·go_ret3
    rw[HH.out.1 ⟨by omega,by omega⟩]
    exact⟨rfl,rfl⟩
   ·have hz:x.toNat=0:=by have h:((x.toNat:Int)==0)=true:=by assumption
                          rw[beq_iff_eq] at h;omega
    go_ret3
    rw[HH.out.2.1 (by omega) (by omega) (by omega)]
    exact⟨rfl,rfl⟩
   ·have hz:¬x.toNat=0:=by have h:((x.toNat:Int)==0)=false:=by assumption
                           rw[beq_eq_false_iff_ne] at h;omega
    obtain rfl:k=9:=by omega
    go_ret3
    rw[HH.out.2.2.1 (by omega) (by omega) (by omega)]
    exact⟨ret3 (or_step9 n x hl.out.1 (by omega)) rfl rfl,rfl⟩
   ·have hz:x.toNat=0:=by have h:((x.toNat:Int)==0)=true:=by assumption
                          rw[beq_iff_eq] at h;omega
    go_ret3
    rw[HH.out.2.1 (by omega) (by omega) (by omega)]
    exact⟨rfl,rfl⟩
   ·have hz:¬x.toNat=0:=by have h:((x.toNat:Int)==0)=false:=by assumption
                           rw[beq_eq_false_iff_ne] at h;omega
    go_ret3
    rw[HH.out.2.2.1 (by omega) (by omega) (by omega)]
    exact⟨ret3 (HH.out.2.2.2.2 (by omega)) (by simp) rfl,rfl⟩
   ·go_ret3
    rw[HH.out.2.2.1 (by omega) (by omega) (by omega)]
    exact⟨ret3 (HH.out.2.2.2.2 (by omega)) (by simp) rfl,rfl⟩
   ·have hx9:¬(k=9∧1<x.toNat):=by omega
    go_round
    case rel =>
     refine⟨k+1,n+x.toNat%128*128 ^ k,by go_num,by rw[HH.out.2.2.2.2 (by omega)],by omega,by omega,?_,HH.out.2.2.2.1 hx9 (by omega)⟩
     have h1:x.toNat%128*128 ^ k≤127*128 ^ k:=Nat.mul_le_mul_right _ (by omega)
     have h2:=hl.out.1
     rw[Nat.pow_succ]
     omega
    case measure=>simp[intOf];omega
  ·go_wp2
   go_ret3
   have h:=hl.out.2
   rw[List.drop_eq_nil_of_le (by omega),numG] at h
   rw[←h]
   exact⟨rfl,rfl⟩
theorem rd_cut {w:World} {B:Nat} {A:Option Addr} {c k:Nat} {l:List UInt8} (hc:l.length≤c) (hk:k≤l.length) (h:Rd w B 1 A l.length (bv l)):Rd w B 1 (if c=k then A else A.map (·.add k)) (l.drop k).length (bv (l.drop k)):=by
 have:=h.cut hk hc
 rw[Nat.mul_one] at this
 rw[bv_drop,List.length_drop]
 exact this
section
variable {ops:Array Oper} {rest:List Oper} {o:Oper} {a:Act} {Q:Exit→Act→World→Prop} {w:World}
theorem run_cutB (w:World) (A:Option Addr) (n c k:Nat) (kl:IntKind) (hk:k≤n):(Instr.sliceAt 56 (.slice A n c) (some (.int kl (k:Int))) none none).run Tryz.prog w=.ok (.slice (if c=k then A else A.map (·.add k)) (n-k) (c-k)) w:=by
 rw[run_sliceAt_slice w 56 _ _ _ _ Tryz.underlying56,run_slice_l w 56 A n c Tryz.underlying56 kl k (by omega) (by omega)]
 simp[go_sem,sliced]
theorem run_takeB (w:World) (A:Option Addr) (n c lo hi:Nat) (kl kh:IntKind) (h1:lo≤hi) (h2:hi≤c):(Instr.sliceAt 56 (.slice A n c) (some (.int kl (lo:Int))) (some (.int kh (hi:Int))) none).run Tryz.prog w=.ok (.slice (if c=lo then A else A.map (·.add lo)) (hi-lo) (c-lo)) w:=by
 rw[run_sliceAt_slice w 56 _ _ _ _ Tryz.underlying56,run_slice_lh w 56 A n c Tryz.underlying56 kl kh lo hi (by omega) (by omega) (by omega)]
 simp[go_sem,sliced]
theorem wl_cutB (hgd:Region.wanted o (yielded ops a.tmps)=true) (x lo:Operand) (ho:o.op=.slice 56 x (some lo) none none) (A:Option Addr) (c k B:Nat) (kl:IntKind) (l:List UInt8) (hx:a.eval x=.slice A l.length c) (hlo:a.eval lo=.int kl (k:Int)) (hk:k≤l.length) (hc:l.length≤c) (hcm:c≤maxLen) (hr:Rd w B 1 A l.length (bv l))
  (h:∀A' c',(l.drop k).length≤c'→c'≤maxLen→Rd w B 1 A' (l.drop k).length (bv (l.drop k))→wpList Tryz.prog ops Q rest (a.put o.dst (.slice A' (l.drop k).length c')) w):wpList Tryz.prog ops Q (o::rest) a w:=by
 refine wl_of hgd fun K hK=>?_
 unfold Oper.wp execOp
 simp only[ho,hx,hlo,Sem.run_bind,Sem.run_pure,Result.andThen_ok,Option.map_some,Option.map_none,run_cutB w A l.length c k kl hk]
 refine hK _ _ ?_
 have e:l.length-k=(l.drop k).length:=by rw[List.length_drop]
 rw[e]
 exact h _ _ (by rw[←e];omega) (by omega) (rd_cut hc hk hr)
theorem wl_takeB (hgd:Region.wanted o (yielded ops a.tmps)=true) (x lo hi:Operand) (ho:o.op=.slice 56 x (some lo) (some hi) none) (A:Option Addr) (c i j B:Nat) (kl kh:IntKind) (l:List UInt8) (hx:a.eval x=.slice A l.length c) (hlo:a.eval lo=.int kl (i:Int)) (hhi:a.eval hi=.int kh (j:Int)) (hij:i≤j) (hj:j≤l.length) (hc:l.length≤c) (hcm:c≤maxLen) (hr:Rd w B 1 A l.length (bv l))
  (h:∀v',SB w B v' ((l.take j).drop i)→wpList Tryz.prog ops Q rest (a.put o.dst v') w):wpList Tryz.prog ops Q (o::rest) a w:=by
 refine wl_of hgd fun K hK=>?_
 unfold Oper.wp execOp
 simp only[ho,hx,hlo,hhi,Sem.run_bind,Sem.run_pure,Result.andThen_ok,Option.map_some,Option.map_none,run_takeB w A l.length c i j kl kh hij (by omega)]
 refine hK _ _ (h _ ?_)
 have e1:(l.take j).length=j:=by rw[List.length_take];omega
 have h1:Rd w B 1 A (l.take j).length (bv (l.take j)):=by
  have:=hr.take hj
  rw[Nat.mul_one] at this
  rw[bv_take,e1];exact this
 have h2:=rd_cut (c:=c) (k:=i) (by omega) (by omega) h1
 have e:j-i=((l.take j).drop i).length:=by rw[List.length_drop,e1]
 exact⟨_,c-i,by rw[e],by rw[←e];omega,by omega,h2⟩
end
theorem RdrAt.mk1 {w:World} {R c:Nat} {A:Option Addr} {rest:List UInt8} {bad:Nat} {v:Value} (hh:w.heap[R]? = some (.cells #[.slice A rest.length c,v] 181 (0,0))) (hc:rest.length≤c) (hm:c≤maxLen) (hr:Rd w R 1 A rest.length (bv rest)) :
  RdrAt (w.setCell ⟨R,1,none⟩ (.int .i64 (bad:Int))) R rest bad :=
 ⟨A,c,set1 hh,hc,hm,hr.setCell (Nat.le_refl _) _⟩
theorem gbelow {w w':World} {g B:Nat} (h:w.grownBy w' (some g)) (hg:g≤w.heap.size) (hB:B≤g):Below B w w':=below_grown (Below.refl B w) h (by omega) (fun k e=>by injection e with e;omega)
theorem gself (w:World) (row:Option Nat):w.grownBy w row:=⟨rfl,rfl,rfl,Nat.le_refl _,fun _ _ _=>rfl⟩
theorem gset2 (w:World) (R:Nat) (u v:Value):w.grownBy ((w.setCell ⟨R,1,none⟩ u).setCell ⟨R,0,none⟩ v) (some R):=(grown_set (p:=⟨R,1,none⟩) w rfl u).trans (grown_set (p:=⟨R,0,none⟩) _ rfl v)
theorem mNum_any (R:Nat) (rest:List UInt8) (bad:Nat) (w:World) (h:RdrAt w R rest bad) :
  Calls Tryz.prog 76 #[.pointer (some ⟨R,0,none⟩)] w fun e w'=>e=.returned (.int .u64 ((sNum (rest,bad)).1:Int))∧RdrAt w' R (sNum (rest,bad)).2.1 (sNum (rest,bad)).2.2∧w.grownBy w' (some R):=by
 obtain⟨A,c,hh,hc,hm,hr⟩:=h
 obtain⟨c0,c1,f0,f1⟩:=cells2 hh
 by_cases hbad:bad=0
 ·subst hbad
  have hle:=number_le rest
  have hm':c≤9223372036854775807:=by unfold maxLen at hm;omega
  have es:sNum (rest,0)=((number rest).1,rest.drop (number rest).2.1,(number rest).2.2):=by simp[sNum]
  rw[es]
  clear es
  go_enter Tryz.func76,Tryz.ntmps76
  go_wp2_with (first|(refine wl_cutB (o:=⟨some 34,_,_,_,_,_⟩) rfl (.tmp 32) (.tmp 33) rfl A c (number rest).2.1 R .i64 rest rfl rfl hle hc hm (hr.setCell (Nat.le_refl _) _) ?_;intro A1 c1 hc1 hm1 hr1)|(go_at_call 101;refine (cNumber_any A c R rest w hc hm hr).mono ?_;rintro e w' ⟨rfl,rfl⟩))
  go_ret
  rw[←List.length_drop]
  exact⟨rfl,⟨A1,c1,set0 (set1 hh),hc1,hm1,hr1.setCell (Nat.le_refl _) _⟩,gset2 _ R _ _⟩
 ·have es:sNum (rest,bad)=(0,rest,bad):=by simp[sNum,hbad]
  rw[es]
  have hb':(((bad:Int))==0)=false:=by rw[beq_eq_false_iff_ne];omega
  go_enter Tryz.func76,Tryz.ntmps76
  go_wp2
  go_ret
  exact⟨rfl,⟨A,c,hh,hc,hm,hr⟩,gself _ _⟩
theorem mLeft_any (R:Nat) (rest:List UInt8) (bad:Nat) (w:World) (h:RdrAt w R rest bad) :
  Calls Tryz.prog 102 #[.pointer (some ⟨R,0,none⟩)] w fun e w'=>e=.returned (.int .i64 (rest.length:Int))∧w'=w:=by
 obtain⟨A,c,hh,hc,hm,hr⟩:=h
 obtain⟨c0,c1,f0,f1⟩:=cells2 hh
 go_enter Tryz.func102,Tryz.ntmps102
 go_wp2
 go_ret
 exact⟨rfl,rfl⟩
theorem mFault_any (R:Nat) (rest:List UInt8) (bad:Nat) (w:World) (h:RdrAt w R rest bad) :
  Calls Tryz.prog 77 #[.pointer (some ⟨R,0,none⟩)] w fun e w'=>e=.returned (.int .i64 (bad:Int))∧w'=w:=by
 obtain⟨A,c,hh,hc,hm,hr⟩:=h
 obtain⟨c0,c1,f0,f1⟩:=cells2 hh
 go_enter Tryz.func77,Tryz.ntmps77
 go_wp2
 go_ret
 exact⟨rfl,rfl⟩
theorem mEnd_any (R:Nat) (rest:List UInt8) (bad:Nat) (w:World) (h:RdrAt w R rest bad) :
  Calls Tryz.prog 79 #[.pointer (some ⟨R,0,none⟩)] w fun e w'=>e=.returned (.int .i64 (sEnd (rest,bad):Int))∧w'=w:=by
 by_cases hbad:bad=0
 ·subst hbad
  by_cases hl:0<rest.length
  ·have es:sEnd (rest,0)=12:=by simp[sEnd];intro e;subst e;simp at hl
   rw[es]
   go_enter Tryz.func79,Tryz.ntmps79
   go_wp2_with (first|(go_at_call 77;refine (mFault_any R rest 0 _ (by assumption)).mono ?_;rintro e w' ⟨rfl,rfl⟩)|(go_at_call 102;refine (mLeft_any R rest 0 _ (by assumption)).mono ?_;rintro e w' ⟨rfl,rfl⟩))
   go_ret
   exact⟨rfl,rfl⟩
  ·have e0:rest=[]:=List.eq_nil_of_length_eq_zero (by omega)
   subst e0
   go_enter Tryz.func79,Tryz.ntmps79
   go_wp2_with (first|(go_at_call 77;refine (mFault_any R [] 0 _ (by assumption)).mono ?_;rintro e w' ⟨rfl,rfl⟩)|(go_at_call 102;refine (mLeft_any R [] 0 _ (by assumption)).mono ?_;rintro e w' ⟨rfl,rfl⟩))
   go_ret
   exact⟨rfl,rfl⟩
 ·have es:sEnd (rest,bad)=bad:=by simp[sEnd,hbad]
  have hb':(((bad:Int))==0)=false:=by rw[beq_eq_false_iff_ne];omega
  rw[es]
  go_enter Tryz.func79,Tryz.ntmps79
  go_wp2_with (first|(go_at_call 77;refine (mFault_any R rest bad _ (by assumption)).mono ?_;rintro e w' ⟨rfl,rfl⟩))
  go_ret
  exact⟨rfl,rfl⟩
theorem or_step8 (n k:Nat) (x:UInt8) (hn:n<256 ^ k) (hk:k≤7):bits .or .u64 (n:Int) (IntKind.u64.wrap ((x.toNat:Int)*2 ^ (8*k)))=((n+x.toNat*256 ^ k:Nat):Int):=by
 have hx:=u8_lt x
 have hb:x.toNat*256 ^ k+256 ^ k≤18446744073709551616:=by
  have h1:(x.toNat+1)*256 ^ k≤256*256 ^ k:=Nat.mul_le_mul_right _ (by omega)
  have h2:256 ^ (k+1)≤256 ^ 8:=Nat.pow_le_pow_right (by omega) (by omega)
  have h3:(256:Nat) ^ 8=18446744073709551616:=by decide
  rw[Nat.add_mul,Nat.one_mul] at h1
  rw[Nat.pow_succ] at h2
  omega
 have p:(256:Nat) ^ k=2 ^ (8*k):=by rw[Nat.pow_mul]
 have e1:((x.toNat:Int)*2 ^ (8*k))=((x.toNat*256 ^ k:Nat):Int):=by rw[p];simp
 have e2:IntKind.u64.wrap ((x.toNat:Int)*2 ^ (8*k))=((x.toNat*256 ^ k:Nat):Int):=by rw[e1,IntKind.wrap_u64];omega
 rw[e2,u64_or_nat _ _ (by omega) (by omega)]
 congr 1
 rw[p] at hn ⊢
 rw[Nat.or_comm,Nat.mul_comm,←Nat.two_pow_add_eq_or_of_lt hn,Nat.add_comm]
theorem mStr_any (R:Nat) (rest:List UInt8) (bad:Nat) (most:Int) (w:World) (h:RdrAt w R rest bad) (hmost:most≤9223372036854775807) :
  Calls Tryz.prog 78 #[.pointer (some ⟨R,0,none⟩),.int .i64 most] w fun e w'=>e=.returned (.string ⟨(sStr most (rest,bad)).1.toArray⟩)∧RdrAt w' R (sStr most (rest,bad)).2.1 (sStr most (rest,bad)).2.2∧w.grownBy w' (some R):=by
 obtain⟨A,c,hh,hc,hm,hr⟩:=h
 obtain⟨c0,c1,f0,f1⟩:=cells2 hh
 by_cases hbad:bad=0
 ·subst hbad
  have hle:=number_le rest
  have hlt:=number_lt rest
  have hm':c≤9223372036854775807:=by unfold maxLen at hm;omega
  have hcall:=cNumber_any A c R rest w hc hm hr
  obtain⟨n,k,f,hnum⟩:∃n k f,number rest=(n,k,f):=⟨_,_,_,rfl⟩
  unfold sStr
  rw[hnum] at hcall hle hlt ⊢
  simp only[] at hcall hle hlt ⊢
  have HC:=Lib.hid hcall
  clear hcall hnum
  by_cases hf:f=0
  ·subst hf
   by_cases hn1:max 0 most<(n:Int)
   ·simp only[ne_eq,not_true_eq_false,if_false,if_pos hn1]
    go_enter Tryz.func78,Tryz.ntmps78
    go_wp2_with (first|(go_at_call 101;refine HC.out.mono ?_;rintro e w' ⟨rfl,rfl⟩))
    all_goals (go_ret;exact⟨rfl,RdrAt.mk1 hh hc hm hr,grown_set (p:=⟨R,1,none⟩) _ rfl _⟩)
   ·by_cases hn2:rest.length-k<n
    ·simp only[ne_eq,not_true_eq_false,if_false,if_neg hn1,if_pos hn2]
     go_enter Tryz.func78,Tryz.ntmps78
     go_wp2_with (first|(go_at_call 101;refine HC.out.mono ?_;rintro e w' ⟨rfl,rfl⟩))
     all_goals (go_ret;exact⟨rfl,RdrAt.mk1 hh hc hm hr,grown_set (p:=⟨R,1,none⟩) _ rfl _⟩)
    ·simp only[ne_eq,not_true_eq_false,if_false,if_neg hn1,if_neg hn2]
     have hle2:k+n≤rest.length:=by omega
     have hle3:k≤k+n:=by omega
     go_enter Tryz.func78,Tryz.ntmps78
     go_wp2_with (first|(refine wl_takeB (o:=⟨some 68,_,_,_,_,_⟩) rfl (.tmp 65) (.tmp 66) (.tmp 67) rfl A c k (k+n) R .i64 .i64 rest rfl rfl rfl hle3 hle2 hc hm hr ?_;intro v1 hs1)|(refine wl_b2s (o:=⟨some 69,_,_,_,_,_⟩) rfl (.tmp 68) rfl _ rfl R _ hs1 ?_)|(refine wl_cutB (o:=⟨some 76,_,_,_,_,_⟩) rfl (.tmp 74) (.tmp 75) rfl A c (k+n) R .i64 rest rfl rfl hle2 hc hm hr ?_;intro A1 d1 hc1 hm1 hr1)|(go_at_call 101;refine HC.out.mono ?_;rintro e w' ⟨rfl,rfl⟩))
     all_goals (go_ret;rw[←List.length_drop];exact⟨rfl,⟨A1,d1,set0 hh,hc1,hm1,hr1.setCell (Nat.le_refl _) _⟩,grown_set (p:=⟨R,0,none⟩) _ rfl _⟩)
  ·simp only[ne_eq,not_true_eq_false,if_false,hf,not_false_eq_true,if_true]
   have hb':(((f:Int))==0)=false:=by rw[beq_eq_false_iff_ne];omega
   go_enter Tryz.func78,Tryz.ntmps78
   go_wp2_with (first|(go_at_call 101;refine HC.out.mono ?_;rintro e w' ⟨rfl,rfl⟩))
   all_goals (go_ret;exact⟨rfl,RdrAt.mk1 hh hc hm hr,grown_set (p:=⟨R,1,none⟩) _ rfl _⟩)
 ·have es:sStr most (rest,bad)=([],rest,bad):=by simp[sStr,hbad]
  rw[es]
  have hb':(((bad:Int))==0)=false:=by rw[beq_eq_false_iff_ne];omega
  go_enter Tryz.func78,Tryz.ntmps78
  go_wp2
  go_ret
  exact⟨rfl,⟨A,c,hh,hc,hm,hr⟩,gself _ _⟩
theorem add256 (l:List UInt8) (k:Nat) (h:k<l.length):leN (l.take (k+1))=leN (l.take k)+l[k].toNat*256 ^ k:=by
 have e:l.take (k+1)=l.take k++[l[k]]:=by simp
 rw[e,leN_append]
 simp[leN,Nat.min_eq_left (Nat.le_of_lt h),Nat.mul_comm]
theorem mFix_any (R:Nat) (rest:List UInt8) (bad:Nat) (many:Int) (w:World) (h:RdrAt w R rest bad) (hmany:many≤9223372036854775807) (hmany':-9223372036854775808≤many) :
  Calls Tryz.prog 74 #[.pointer (some ⟨R,0,none⟩),.int .i64 many] w fun e w'=>e=.returned (.int .u64 ((sFix many (rest,bad)).1:Int))∧RdrAt w' R (sFix many (rest,bad)).2.1 (sFix many (rest,bad)).2.2∧w.grownBy w' (some R):=by
 obtain⟨A,c,hh,hc,hm,hr⟩:=h
 obtain⟨c0,c1,f0,f1⟩:=cells2 hh
 have hm':c≤9223372036854775807:=by unfold maxLen at hm;omega
 by_cases hbad:bad=0
 ·subst hbad
  unfold sFix
  by_cases h1:many<0∨8<many
  ·simp only[ne_eq,not_true_eq_false,if_false,if_pos h1]
   by_cases h2:many<0
   ·go_enter Tryz.func74,Tryz.ntmps74
    go_wp2
    go_ret
    exact⟨rfl,RdrAt.mk1 hh hc hm hr,grown_set (p:=⟨R,1,none⟩) _ rfl _⟩
   ·have h3:8<many:=by omega
    go_enter Tryz.func74,Tryz.ntmps74
    go_wp2
    go_ret
    exact⟨rfl,RdrAt.mk1 hh hc hm hr,grown_set (p:=⟨R,1,none⟩) _ rfl _⟩
  ·have h2:0≤many:=by omega
   have h3:many≤8:=by omega
   obtain⟨m,rfl⟩:=Int.eq_ofNat_of_zero_le h2
   by_cases h4:(rest.length:Int)<(m:Int)
   ·simp only[ne_eq,not_true_eq_false,if_false,if_neg h1,if_pos h4]
    go_enter Tryz.func74,Tryz.ntmps74
    go_wp2
    go_ret
    exact⟨rfl,RdrAt.mk1 hh hc hm hr,grown_set (p:=⟨R,1,none⟩) _ rfl _⟩
   ·simp only[ne_eq,not_true_eq_false,if_false,if_neg h1,if_neg h4,Int.toNat_natCast]
    have hle:m≤rest.length:=by omega
    go_enter Tryz.func74,Tryz.ntmps74
    go_wp2
    go_loop [5,36] (fun x i=>∃k n:Nat,i=.int .i64 k∧x=.int .u64 n∧k≤m∧Hid (n=leN (rest.take k))) (fun _ i=>m-(intOf i).toNat)
    case atStart=>exact⟨0,0,rfl,rfl,Nat.zero_le _,Lib.hid (by simp[leN])⟩
    case round =>
     obtain⟨k,n,rfl,rfl,hk,hl⟩:=hrel
     by_cases hlt:k<m
     ·have hk9:k<rest.length:=by omega
      obtain⟨b,o,rfl,hb,hcell⟩:=hr.at_ (by omega)
      have d0:=hcell k _ (bv_get rest k hk9)
      have hl2:=add256 rest k hk9
      have hnlt:n<256 ^ k:=by
       have h:=leN_lt (rest.take k)
       rw[←hl.out,List.length_take,Nat.min_eq_left (by omega)] at h
       exact h
      obtain⟨x,hx⟩:∃x,x=rest[k]:=⟨_,rfl⟩
      rw[←hx] at d0 hl2
      have hx8:=u8_lt x
      have hor:=or_step8 n k x hnlt (by omega)
      have HH:=Lib.hid (And.intro hl2 hor)
      clear hx hcell hl2 hor hnlt
      go_wp2
      go_round
      case rel =>
       refine⟨k+1,n+x.toNat*256 ^ k,by go_num,by rw[HH.out.2],by omega,Lib.hid ?_⟩
       rw[HH.out.1,hl.out]
      case measure=>simp[intOf];omega
     ·have e:k=m:=by omega
      subst e
      go_wp2_with (first|(refine wl_cutB (o:=⟨some 59,_,_,_,_,_⟩) rfl (.tmp 57) (.tmp 58) rfl A c k R .i64 rest rfl rfl hle hc hm hr ?_;intro A1 d1 hc1 hm1 hr1))
      go_ret
      rw[←List.length_drop,hl.out]
      exact⟨rfl,⟨A1,d1,set0 hh,hc1,hm1,hr1.setCell (Nat.le_refl _) _⟩,grown_set (p:=⟨R,0,none⟩) _ rfl _⟩
 ·have es:sFix many (rest,bad)=(0,rest,bad):=by simp[sFix,hbad]
  rw[es]
  have hb':(((bad:Int))==0)=false:=by rw[beq_eq_false_iff_ne];omega
  go_enter Tryz.func74,Tryz.ntmps74
  go_wp2
  go_ret
  exact⟨rfl,⟨A,c,hh,hc,hm,hr⟩,gself _ _⟩
end Go.Proofs.YtchjknbideoieaaGreatDoor
namespace Go.Proofs.YtchjknbideoieaaGreatDoor
set_option maxRecDepth 100000
set_option maxHeartbeats 8000000
theorem ahead_irr (a:Ent):aheadE a a=false:=by
 rcases Bool.eq_false_or_eq_true (aheadE a a) with h|h
 ·rcases (ahead_iff a a).1 h with h|⟨_,h⟩
  ·rw[ltB_irr] at h;cases h
  ·omega
 ·exact h
theorem ahead_like {a b c:Ent} (h1:aheadE a b=false) (h2:aheadE b a=false) (h:aheadE b c=true):aheadE a c=true:=by
 have hn1:¬(ltB a.user.toList b.user.toList=true∨(a.user.toList=b.user.toList∧b.seq.toNat<a.seq.toNat)):=fun h=>by rw[(ahead_iff a b).2 h] at h1;cases h1
 have hn2:¬(ltB b.user.toList a.user.toList=true∨(b.user.toList=a.user.toList∧a.seq.toNat<b.seq.toNat)):=fun h=>by rw[(ahead_iff b a).2 h] at h2;cases h2
 have e:a.user.toList=b.user.toList:=ltB_tri _ _ (by simpa using fun h=>hn1 (.inl h)) (by simpa using fun h=>hn2 (.inl h))
 have s:a.seq.toNat=b.seq.toNat:=by
  have h3:¬b.seq.toNat<a.seq.toNat:=fun h=>hn1 (.inr ⟨e,h⟩)
  have h4:¬a.seq.toNat<b.seq.toNat:=fun h=>hn2 (.inr ⟨e.symm,h⟩)
  omega
 rw[ahead_iff] at h ⊢
 rw[e,s]
 exact h
theorem rises_pw:∀l:List Ent,risesE l=true↔l.Pairwise (fun a b=>aheadE a b=true)
 | []=>by simp[risesE]
 | a::l=>by
  rw[List.pairwise_cons,←rises_pw l]
  constructor
  ·intro h;exact⟨(rises_all a l h).2,(rises_all a l h).1⟩
  ·rintro⟨h1,h2⟩
   cases l with
   | nil=>rfl
   | cons b l=>rw[risesE,h1 b (by simp),h2];rfl
theorem rises_sub {l m:List Ent} (h:risesE m=true) (hs:l.Sublist m):risesE l=true:=(rises_pw l).2 (((rises_pw m).1 h).sublist hs)
def bestS (b:Option Ent):List Ent→Option Ent
 | []=>b
 | y::_=>match b with
  | none=>some y
  | some e=>if aheadE y e then some y else some e
def bestH (L:List (List Ent)):Option Ent:=L.foldl bestS none
theorem bestH_snoc (L:List (List Ent)) (x:List Ent):bestH (L++[x])=bestS (bestH L) x:=by simp[bestH]
def dropH (e:Ent):List Ent→List Ent
 | []=>[]
 | y::t=>if aheadE e y then y::t else t
def mergeF:Nat→List (List Ent)→List Ent
 | 0,_=>[]
 | f+1,L=>match bestH L with
  | none=>[]
  | some e=>e::mergeF f (L.map (dropH e))
def lenL (L:List (List Ent)):Nat:=L.flatten.length
def mergeL (L:List (List Ent)):List Ent:=mergeF (lenL L) L
theorem ahead_neg {a b c:Ent} (h1:aheadE a b=false) (h2:aheadE b c=false):aheadE a c=false:=by
 rcases Bool.eq_false_or_eq_true (aheadE a c) with h|h
 ·exfalso
  rcases Bool.eq_false_or_eq_true (aheadE b a) with h3|h3
  ·rw[ahead_trans h3 h] at h2;cases h2
  ·rw[ahead_like h3 h1 h] at h2;cases h2
 ·exact h
theorem best_acc:∀(L:List (List Ent)) (b:Option Ent),
  (L.foldl bestS b=none→b=none∧∀x∈L,x=[]) ∧
  ∀e,L.foldl bestS b=some e→(b=some e∨∃x∈L,x.head? = some e)∧(∀b',b=some b'→aheadE b' e=false)∧∀x∈L,∀y,x.head? = some y→aheadE y e=false
 | [],b=>⟨fun h=>⟨h,fun x hx=>by cases hx⟩,fun e h=>⟨.inl h,fun b' hb=>by
   rw[List.foldl_nil,hb] at h;injection h with h;rw[h];exact ahead_irr e,fun x hx=>by cases hx⟩⟩
 | []::L,b=>by
  obtain⟨h1,h2⟩:=best_acc L b
  rw[List.foldl_cons,bestS]
  refine⟨fun h=>⟨(h1 h).1,fun x hx=>?_⟩,fun e h=>?_⟩
  ·rcases List.mem_cons.1 hx with rfl|hx
   ·rfl
   ·exact (h1 h).2 x hx
  ·obtain⟨g1,g2,g3⟩:=h2 e h
   refine⟨g1.imp id (fun ⟨x,hx,hy⟩=>⟨x,List.mem_cons_of_mem _ hx,hy⟩),g2,fun x hx y hy=>?_⟩
   rcases List.mem_cons.1 hx with rfl|hx
   ·cases hy
   ·exact g3 x hx y hy
 | (y::t)::L,none=>by
  obtain⟨h1,h2⟩:=best_acc L (some y)
  rw[List.foldl_cons,bestS]
  refine⟨fun h=>(by cases (h1 h).1),fun e h=>?_⟩
  obtain⟨g1,g2,g3⟩:=h2 e h
  refine⟨.inr ?_,fun b' hb=>(by cases hb),fun x hx z hz=>?_⟩
  ·rcases g1 with g1|⟨x,hx,hy⟩
   ·exact⟨y::t,by simp,g1⟩
   ·exact⟨x,List.mem_cons_of_mem _ hx,hy⟩
  ·rcases List.mem_cons.1 hx with rfl|hx
   ·injection hz with hz;rw[←hz];exact g2 y rfl
   ·exact g3 x hx z hz
 | (y::t)::L,some c=>by
  rw[List.foldl_cons,bestS]
  cases hyc:aheadE y c with
  | true =>
   rw[if_pos rfl]
   obtain⟨h1,h2⟩:=best_acc L (some y)
   refine⟨fun h=>(by cases (h1 h).1),fun e h=>?_⟩
   obtain⟨g1,g2,g3⟩:=h2 e h
   refine⟨.inr ?_,fun b' hb=>?_,fun x hx z hz=>?_⟩
   ·rcases g1 with g1|⟨x,hx,hy⟩
    ·exact⟨y::t,by simp,g1⟩
    ·exact⟨x,List.mem_cons_of_mem _ hx,hy⟩
   ·injection hb with hb;subst hb
    rcases Bool.eq_false_or_eq_true (aheadE c e) with h3|h3
    ·have h4:=ahead_trans hyc h3
     rw[g2 y rfl] at h4;cases h4
    ·exact h3
   ·rcases List.mem_cons.1 hx with rfl|hx
    ·injection hz with hz;rw[←hz];exact g2 y rfl
    ·exact g3 x hx z hz
  | false =>
   rw[if_neg (by simp)]
   obtain⟨h1,h2⟩:=best_acc L (some c)
   refine⟨fun h=>(by cases (h1 h).1),fun e h=>?_⟩
   obtain⟨g1,g2,g3⟩:=h2 e h
   refine⟨g1.imp id (fun ⟨x,hx,hy⟩=>⟨x,List.mem_cons_of_mem _ hx,hy⟩),g2,fun x hx z hz=>?_⟩
   rcases List.mem_cons.1 hx with rfl|hx
   ·injection hz with hz;rw[←hz];exact ahead_neg hyc (g2 c rfl)
   ·exact g3 x hx z hz
theorem best_some {L:List (List Ent)} {e:Ent} (h:bestH L=some e):(∃x∈L,x.head? = some e)∧∀x∈L,∀y,x.head? = some y→aheadE y e=false:=by
 obtain⟨g1,_,g3⟩:=(best_acc L none).2 e h
 refine⟨?_,g3⟩
 rcases g1 with g1|g1
 ·cases g1
 ·exact g1
theorem dropH_tail (e:Ent) (x:List Ent):dropH e x=x∨∃y,x=y::dropH e x:=by
 cases x with
 | nil=>exact .inl rfl
 | cons y t =>
  rw[dropH]
  split
  ·exact .inl rfl
  ·exact .inr ⟨y,rfl⟩
theorem dropH_suffix (e:Ent) (x:List Ent):(dropH e x).Sublist x:=by
 rcases dropH_tail e x with h|⟨y,h⟩
 ·rw[h];exact List.Sublist.refl x
 ·exact h▸(by conv=>rhs;rw[h]
              exact List.sublist_cons_self _ _)
theorem dropH_head {e:Ent} {x:List Ent} (h:x.head? = some e):x=e::dropH e x:=by
 cases x with
 | nil=>cases h
 | cons y t =>
  injection h with h
  rw[dropH,h,ahead_irr]
  rfl
theorem drops_lt {e:Ent}:∀{L:List (List Ent)},(∃x∈L,x.head? = some e)→lenL (L.map (dropH e))+1≤lenL L∧textE (L.map (dropH e)).flatten+(e.user.size+e.value.size)≤textE L.flatten
 | [],h=>by obtain⟨x,hx,_⟩:=h;cases hx
 | z::L,h=>by
  have hle:∀L:List (List Ent),lenL (L.map (dropH e))≤lenL L∧textE (L.map (dropH e)).flatten≤textE L.flatten:=by
   intro L
   induction L with
   | nil=>exact⟨Nat.le_refl _,Nat.le_refl _⟩
   | cons z L ih =>
    simp only[lenL,List.map_cons,List.flatten_cons,List.length_append,textE_append] at ih ⊢
    rcases dropH_tail e z with h|⟨y,h⟩
    ·rw[h];omega
    ·have h1:=congrArg List.length h
     have h2:=congrArg textE h
     rw[List.length_cons] at h1
     rw[textE_cons] at h2
     omega
  obtain⟨x,hx,hh⟩:=h
  rcases List.mem_cons.1 hx with rfl|hx
  ·have h1:=hle L
   have h3:=dropH_head hh
   have h4:=congrArg List.length h3
   have h5:=congrArg textE h3
   rw[List.length_cons] at h4
   rw[textE_cons] at h5
   simp only[lenL,List.map_cons,List.flatten_cons,List.length_append,textE_append] at h1 ⊢
   omega
  ·have h1:=drops_lt ⟨x,hx,hh⟩
   have h2:=hle [z]
   simp only[lenL,List.map_cons,List.map_nil,List.flatten_cons,List.flatten_nil,List.append_nil,List.length_append,textE_append] at h1 h2 ⊢
   omega
theorem mergeF_is:∀(f:Nat) (L:List (List Ent)),(∀x∈L,risesE x=true)→lenL L≤f →
  (∀c,(∀x∈L,∀y∈x,aheadE c y=true)→risesE (c::mergeF f L)=true)∧risesE (mergeF f L)=true∧(∀y∈mergeF f L,∃x∈L,y∈x)∧(mergeF f L).length≤lenL L∧textE (mergeF f L)≤textE L.flatten
 | 0,L,_,_=>⟨fun c _=>rfl,rfl,fun y hy=>(by cases hy),Nat.zero_le _,Nat.zero_le _⟩
 | f+1,L,hL,hf=>by
  rw[mergeF]
  cases hb:bestH L with
  | none=>exact⟨fun c _=>rfl,rfl,fun y hy=>(by cases hy),Nat.zero_le _,Nat.zero_le _⟩
  | some e =>
   dsimp only
   obtain⟨⟨x,hx,hxe⟩,hmin⟩:=best_some hb
   have hlt:=drops_lt ⟨x,hx,hxe⟩
   have hR:∀z∈L.map (dropH e),risesE z=true:=fun z hz=>by
    obtain⟨z',hz',rfl⟩:=List.mem_map.1 hz
    exact rises_sub (hL z' hz') (dropH_suffix e z')
   obtain⟨i1,i2,i3,i4,i5⟩:=mergeF_is f (L.map (dropH e)) hR (by omega)
   have hbe:∀z∈L.map (dropH e),∀y∈z,aheadE e y=true:=fun z hz y hy=>by
    obtain⟨z',hz',rfl⟩:=List.mem_map.1 hz
    have hrz:=hL z' hz'
    cases z' with
    | nil=>cases hy
    | cons a t =>
     rw[dropH] at hy
     have ham:=hmin _ hz' a rfl
     split at hy
     ·rename_i hea
      rcases List.mem_cons.1 hy with rfl|hy
      ·exact hea
      ·exact ahead_trans hea ((rises_all a t hrz).2 y hy)
     ·rename_i hea
      exact ahead_like (by simpa using hea) ham ((rises_all a t hrz).2 y hy)
   have hmem:e∈x:=by rw[dropH_head hxe];simp
   have hcons:risesE (e::mergeF f (L.map (dropH e)))=true:=i1 e hbe
   refine⟨fun c hc=>?_,hcons,fun y hy=>?_,?_,?_⟩
   ·rw[risesE,hc x hx e hmem,hcons];rfl
   ·rcases List.mem_cons.1 hy with rfl|hy
    ·exact⟨x,hx,hmem⟩
    ·obtain⟨z,hz,hyz⟩:=i3 y hy
     obtain⟨z',hz',rfl⟩:=List.mem_map.1 hz
     exact⟨z',hz',(dropH_suffix e z').subset hyz⟩
   ·rw[List.length_cons];omega
   ·rw[textE_cons];omega
theorem mergeL_is {L:List (List Ent)} (h:∀x∈L,risesE x=true):risesE (mergeL L)=true∧(∀y∈mergeL L,∃x∈L,y∈x)∧(mergeL L).length≤lenL L∧textE (mergeL L)≤textE L.flatten:=(mergeF_is _ L h (Nat.le_refl _)).2
def seenE (ms:List UInt64) (e p:Ent):Bool:=ms.any (fun m=>decide (e.seq.toNat≤m.toNat)&&decide (m.toNat<p.seq.toNat))
def keptT (ms:List UInt64):Ent→List Ent→List Ent
 | _,[]=>[]
 | p,e::t=>if seenE ms e p then e::keptT ms e t else keptT ms e t
def keptG (ms:List UInt64):List Ent→List Ent
 | []=>[]
 | e::t=>e::keptT ms e t
def isDel (e:Ent):Bool:=decide (e.kind.toNat=0)
def stripD (last:Bool) (l:List Ent):List Ent:=if last then (l.reverse.dropWhile isDel).reverse else l
def keepG (ms:List UInt64) (last:Bool) (G:List (List Ent)):List Ent:=(G.map fun g=>stripD last (keptG ms g)).flatten
def keepL (ms:List UInt64) (last:Bool) (l:List Ent):List Ent:=keepG ms last (groupsF l.length l)
def viewF (s:Nat):Option ByteArray→List Ent→List (ByteArray × ByteArray)
 | _,[]=>[]
 | d,e::t=>if s<e.seq.toNat∨d=some e.user then viewF s d t else (if e.kind.toNat=1 then [(e.user,e.value)] else [])++viewF s (some e.user) t
def oneP (s:Nat) (p:List Ent):List (ByteArray × ByteArray):=match p.find? (fun e=>decide (e.seq.toNat≤s)) with
 | some e=>if e.kind.toNat=1 then [(e.user,e.value)] else []
 | none=>[]
theorem view_past (s:Nat) (u:ByteArray):∀l:List Ent,(∀e∈l,e.user≠u)→viewF s (some u) l=viewF s none l
 | [],_=>rfl
 | e::t,h=>by
  have h1:¬(some u=some e.user):=fun h2=>by injection h2 with h2;exact h e (by simp) h2.symm
  rw[viewF,viewF,view_past s u t (fun x hx=>h x (List.mem_cons_of_mem _ hx))]
  simp[h1]
theorem view_same (s:Nat) (u:ByteArray) (r:List Ent):∀p:List Ent,(∀e∈p,e.user=u)→viewF s (some u) (p++r)=viewF s (some u) r
 | [],_=>rfl
 | e::t,h=>by
  rw[List.cons_append,viewF,if_pos (.inr (by rw[h e (by simp)]))]
  exact view_same s u r t (fun x hx=>h x (List.mem_cons_of_mem _ hx))
theorem view_group (s:Nat) (u:ByteArray) (r:List Ent) (hr:∀e∈r,e.user≠u):∀p:List Ent,(∀e∈p,e.user=u)→viewF s none (p++r)=oneP s p++viewF s none r
 | [],_=>rfl
 | e::t,h=>by
  have hu:=h e (by simp)
  have ht:∀x∈t,x.user=u:=fun x hx=>h x (List.mem_cons_of_mem _ hx)
  rw[List.cons_append,viewF]
  by_cases hs:s<e.seq.toNat
  ·rw[if_pos (.inl hs),view_group s u r hr t ht]
   unfold oneP
   rw[List.find?_cons,show decide (e.seq.toNat≤s)=false from decide_eq_false (by omega)]
  ·rw[if_neg (by simp[hs]),hu,view_same s u r t ht,view_past s u r hr]
   unfold oneP
   rw[List.find?_cons,show decide (e.seq.toNat≤s)=true from decide_eq_true (by omega)]
   dsimp only
   rw[hu]
def OneKey (p:List Ent):Prop:=∃u,∀e∈p,e.user=u
def Unlike2 (a b:List Ent):Prop:=∀x∈a,∀y∈b,y.user≠x.user
theorem view_flat (s:Nat):∀G:List (List Ent),(∀g∈G,OneKey g)→G.Pairwise Unlike2→viewF s none G.flatten=(G.map (oneP s)).flatten
 | [],_,_=>rfl
 | g::G,h1,h2=>by
  rw[List.pairwise_cons] at h2
  rw[List.flatten_cons,List.map_cons,List.flatten_cons,←view_flat s G (fun x hx=>h1 x (List.mem_cons_of_mem _ hx)) h2.2]
  cases g with
  | nil=>rfl
  | cons e t =>
   obtain⟨u,hu⟩:=h1 (e::t) (by simp)
   refine view_group s u _ (fun x hx=>?_) _ hu
   obtain⟨g',hg',hx'⟩:=List.mem_flatten.1 hx
   have:=h2.1 g' hg' e (by simp) x hx'
   rwa [hu e (by simp)] at this
theorem keptT_sub (ms:List UInt64):∀(t:List Ent) (p:Ent),(keptT ms p t).Sublist t
 | [],_=>List.Sublist.refl _
 | e::t,p=>by
  rw[keptT]
  split
  ·exact (keptT_sub ms t e).cons_cons e
  ·exact (keptT_sub ms t e).cons e
theorem stripD_eq (last:Bool) (l:List Ent):∃d,l=stripD last l++d∧∀e∈d,isDel e=true:=by
 unfold stripD
 cases last with
 | false=>exact⟨[],by simp,fun e he=>by cases he⟩
 | true =>
  rw[if_pos rfl]
  refine⟨(l.reverse.takeWhile isDel).reverse,?_,fun e he=>?_⟩
  ·rw[←List.reverse_append,List.takeWhile_append_dropWhile,List.reverse_reverse]
  ·rw[List.mem_reverse] at he
   exact List.all_eq_true.1 List.all_takeWhile e he
theorem stripD_sub (last:Bool) (l:List Ent):(stripD last l).Sublist l:=by
 obtain⟨d,h,_⟩:=stripD_eq last l
 conv=>rhs;rw[h]
 exact List.sublist_append_left _ _
theorem keptG_sub (ms:List UInt64) (last:Bool) (g:List Ent):(stripD last (keptG ms g)).Sublist g:=by
 refine (stripD_sub last _).trans ?_
 cases g with
 | nil=>exact List.Sublist.refl _
 | cons e t=>exact (keptT_sub ms t e).cons_cons e
theorem keepG_sub (ms:List UInt64) (last:Bool):∀G:List (List Ent),(keepG ms last G).Sublist G.flatten
 | []=>List.Sublist.refl _
 | g::G=>by
  rw[List.flatten_cons]
  exact (keptG_sub ms last g).append (keepG_sub ms last G)
theorem keepL_sub (ms:List UInt64) (last:Bool) (l:List Ent):(keepL ms last l).Sublist l:=by
 have h:=keepG_sub ms last (groupsF l.length l)
 rwa [groupsF_flat _ _ (Nat.le_refl _)] at h
theorem one_strip (s:Nat) (last:Bool) (l:List Ent):oneP s (stripD last l)=oneP s l:=by
 obtain⟨d,h,hd⟩:=stripD_eq last l
 unfold oneP
 conv=>rhs;rw[h]
 rw[List.find?_append]
 cases h1:(stripD last l).find? (fun e=>decide (e.seq.toNat≤s)) with
 | some e=>rfl
 | none =>
  rw[Option.none_or]
  cases h2:d.find? (fun e=>decide (e.seq.toNat≤s)) with
  | none=>rfl
  | some e =>
   have h3:=hd e (List.mem_of_find?_eq_some h2)
   have h4:¬e.kind.toNat=1:=by
    unfold isDel at h3
    have:=of_decide_eq_true h3
    omega
   dsimp only
   rw[if_neg h4]
theorem find_kept {ms:List UInt64} {s:UInt64} (hs:s∈ms):∀(t:List Ent) (p:Ent),s.toNat<p.seq.toNat→(keptT ms p t).find? (fun e=>decide (e.seq.toNat≤s.toNat))=t.find? (fun e=>decide (e.seq.toNat≤s.toNat))
 | [],_,_=>rfl
 | e::t,p,hp=>by
  rw[keptT,List.find?_cons]
  by_cases he:e.seq.toNat≤s.toNat
  ·have hse:seenE ms e p=true:=by
    unfold seenE
    rw[List.any_eq_true]
    exact⟨s,hs,by simp[he,hp]⟩
   rw[if_pos hse,List.find?_cons,decide_eq_true he]
  ·have ih:=find_kept hs t e (by omega)
   rw[decide_eq_false he]
   dsimp only
   split
   ·rw[List.find?_cons,decide_eq_false he];exact ih
   ·exact ih
theorem one_kept {ms:List UInt64} {s:UInt64} {g:List Ent} (h:s∈ms∨∀e∈g,e.seq.toNat≤s.toNat):oneP s.toNat (keptG ms g)=oneP s.toNat g:=by
 cases g with
 | nil=>rfl
 | cons e t =>
  unfold oneP keptG
  rw[List.find?_cons,List.find?_cons]
  by_cases he:e.seq.toNat≤s.toNat
  ·rw[decide_eq_true he]
  ·rw[decide_eq_false he]
   dsimp only
   rcases h with h|h
   ·rw[find_kept h t e (by omega)]
   ·exact absurd (h e (by simp)) he
theorem groups_key:∀(f:Nat) (l:List Ent),∀g∈groupsF f l,OneKey g
 | 0,_=>fun g hg=>by cases hg
 | _+1,[]=>fun g hg=>by cases hg
 | f+1,e::l=>by
  intro g hg
  rw[groupsF] at hg
  rcases List.mem_cons.1 hg with rfl|hg
  ·refine⟨e.user,fun x hx=>?_⟩
   rcases List.mem_cons.1 hx with rfl|hx
   ·rfl
   ·exact keyN_take _ l x hx
  ·exact groups_key f _ g hg
theorem view_keep {ms:List UInt64} {last:Bool} {l:List Ent} (hr:risesE l=true) {s:UInt64} (h:s∈ms∨∀e∈l,e.seq.toNat≤s.toNat):viewF s.toNat none (keepL ms last l)=viewF s.toNat none l:=by
 have hk:=groups_key l.length l
 have hu:=groupsF_under l.length l hr (Nat.le_refl _)
 have hf:=groupsF_flat l.length l (Nat.le_refl _)
 have hu2:(groupsF l.length l).Pairwise Unlike2:=hu.imp (fun {a b} h x hx y hy e=>by have:=h x hx y hy;rw[e,ltB_irr] at this;cases this)
 unfold keepL keepG
 rw[view_flat,List.map_map]
 ·conv=>rhs;rw[←hf]
  rw[view_flat _ _ hk hu2]
  congr 1
  apply List.map_congr_left
  intro g hg
  show oneP _ (stripD last (keptG ms g))=_
  rw[one_strip,one_kept]
  refine h.imp id fun h e he=>h e ?_
  rw[←hf]
  exact List.mem_flatten.2 ⟨g,hg,he⟩
 ·intro g hg
  obtain⟨g',hg',rfl⟩:=List.mem_map.1 hg
  obtain⟨u,hu⟩:=hk g' hg'
  exact⟨u,fun e he=>hu e ((keptG_sub ms last g').subset he)⟩
 ·rw[List.pairwise_map]
  exact hu2.imp (fun {a b} h x hx y hy=>h x ((keptG_sub ms last a).subset hx) y ((keptG_sub ms last b).subset hy))
end Go.Proofs.YtchjknbideoieaaGreatDoor
