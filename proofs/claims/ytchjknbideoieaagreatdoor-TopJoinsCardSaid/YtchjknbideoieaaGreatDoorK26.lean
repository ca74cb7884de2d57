/- What is proved here: whether all entries may be, by slices.ContainsFunc and by the reference, at this seat's numbers. Condition: the list's length. what the program's Build comes to, at this seat's numbers. Conditions: the list's length, the texts' lengths. whether all entries may be, as table.Build asks it, at this seat's numbers. Condition: the list's length. -/
import Derived.Test.YtchjknbideoieaaGreatDoorK25
import Derived.Shelf.Abstract
namespace Go.Proofs.YtchjknbideoieaaGreatDoor
set_option maxRecDepth 100000
set_option maxHeartbeats 8000000
open Go.RowKit
theorem kBad_any (e:Ent) (w:World) (hu:e.user.size≤9223372036854775807) (hv:e.value.size≤9223372036854775807) :
  Calls Tryz.prog 91 #[entV e] w fun en w'=>en=.returned (.bool (!rightE e))∧Below w.heap.size w w':=by
 have HR:=Lib.hid (fun W=>iRight_any e W hu hv)
 go_enter Tryz.func91,Tryz.ntmps91
 go_wp2_with (go_at_call 8;refine (HR.out _).mono ?_;rintro _ w1 ⟨rfl,hb1⟩)
 go_ret
 exact⟨rfl,bstep (balloc (bself w) _) hb1⟩
theorem kIndex_any (v:Value) (l:List Ent) (w:World) (hv:SE w w.heap.size v l) (_hl:l.length≤140737488351232) (hz:∀e∈l,e.user.size≤9223372036854775807∧e.value.size≤9223372036854775807) :
  Calls Tryz.prog 41 #[v,.func (.func 91) #[] #[]] w fun en w'=>∃i:Int,en=.returned (.int .i64 i)∧Hid (decide (0≤i)=!(l.all rightE))∧Below w.heap.size w w':=by
 obtain⟨A,c,rfl,hc,hm,hr⟩:=hv
 have hm':c≤9223372036854775807:=by unfold maxLen at hm;omega
 have HZ:=Lib.hid hz
 clear hz
 have eg:∀args w,(callFunc 91 args).run Tryz.prog w=.ok (.enter 91 args) w:=enters_of Tryz.func91 (by kernel_rfl) rfl
 go_enter Tryz.func41,Tryz.ntmps41
 go_wp2
 go_loopw [5,8] (fun _ i wr=>∃k:Nat,i=.int .i64 k∧k≤l.length∧Hid (∀j (hj:j<l.length),j<k→rightE l[j]=true)∧Below w.heap.size w wr) (fun _ i _=>l.length-(intOf i).toNat)
 case atStart=>exact⟨0,rfl,Nat.zero_le _,fun j hj h0=>by omega,bself w⟩
 case round =>
  obtain⟨k,rfl,hk,hp,hbr⟩:=hrel
  by_cases hlt:k<l.length
  ·obtain⟨b,o,rfl,hb,c0,c1,c2,c3⟩:=(hr.below hbr).ent rfl (k:=k) hlt
   obtain⟨x,hx⟩:∃x,x=l[k]:=⟨_,rfl⟩
   have hxz:=HZ.out l[k] (List.getElem_mem hlt)
   rw[←hx] at c0 c1 c2 c3 hxz
   have HB:=Lib.hid (fun W=>kBad_any x W hxz.1 hxz.2)
   have HX:=Lib.hid hx
   clear hx hxz
   cases hR:rightE x with
   | true =>
    simp only[hR,Bool.not_true] at HB
    go_wp2_with (go_at_fn 91;refine (HB.out _).mono ?_;rintro _ w2 ⟨rfl,hb2⟩)
    go_roundw
    case rel =>
     refine⟨k+1,by go_num,by omega,Lib.hid (fun j hj hjk=>?_),bstep hbr hb2⟩
     rcases Nat.lt_or_ge j k with h1|h1
     ·exact hp.out j hj h1
     ·have e:j=k:=by omega
      subst e;rw[←HX.out];exact hR
    case measure=>simp[intOf];omega
   | false =>
    simp only[hR,Bool.not_false] at HB
    go_wp2_with (go_at_fn 91;refine (HB.out _).mono ?_;rintro _ w2 ⟨rfl,hb2⟩)
    go_ret
    refine⟨_,rfl,Lib.hid ?_,bstep hbr hb2⟩
    have:l.all rightE=false:=by
     rw[List.all_eq_false]
     exact⟨x,by rw[HX.out];exact List.getElem_mem hlt,by rw[hR];simp⟩
    rw[this]
    simp
  ·go_wp2
   go_ret
   refine⟨_,rfl,Lib.hid ?_,hbr⟩
   have:l.all rightE=true:=by
    rw[List.all_eq_true]
    intro x hx
    obtain⟨j,hj,rfl⟩:=List.getElem_of_mem hx
    exact hp.out j hj (by omega)
   rw[this]
   rfl
theorem kContains_any (v:Value) (l:List Ent) (w:World) (hv:SE w w.heap.size v l) (hl:l.length≤140737488351232) (hz:∀e∈l,e.user.size≤9223372036854775807∧e.value.size≤9223372036854775807) :
  Calls Tryz.prog 49 #[v,.func (.func 91) #[] #[]] w fun en w'=>en=.returned (.bool (!(l.all rightE)))∧Below w.heap.size w w':=by
 have HI:=Lib.hid (kIndex_any v l w hv hl hz)
 go_enter Tryz.func49,Tryz.ntmps49
 go_wp2_with (go_at_call 41;refine HI.out.mono ?_;rintro _ w2 ⟨i,rfl,hi,hb2⟩)
 go_ret
 exact⟨by rw[←hi.out];rfl,hb2⟩
end Go.Proofs.YtchjknbideoieaaGreatDoor
namespace Go.Proofs.YtchjknbideoieaaGreatDoor
set_option maxRecDepth 100000
set_option maxHeartbeats 8000000
open Go.RowKit
theorem out_ge (ev:Nat) (l:List Ent):∀i,i≤(outAt ev l i).length:=by
 intro i
 have h:=out_ones ev l i 0
 rw[Nat.zero_add] at h
 rw[h,List.length_append]
 have:=onesB_len ev l i 0
 omega
theorem out_mono (ev:Nat) (l:List Ent) {i j:Nat} (h:i≤j):(outAt ev l i).length≤(outAt ev l j).length:=by
 have e:=out_ones ev l (j-i) i
 rw[show i+(j-i)=j from by omega] at e
 rw[e,List.length_append]
 omega
theorem places_le (ev:Nat) (l:List Ent):∀i,(placesAt ev l i).length≤4*i:=by
 intro i
 induction i with
 | zero=>simp[placesAt]
 | succ i ih =>
  rw[placesAt]
  split
  ·rw[List.length_append,fix_length];omega
  ·omega
theorem starts_le (ev:Nat):∀i,startsAt ev i≤i:=by
 intro i
 induction i with
 | zero=>simp[startsAt]
 | succ i ih =>
  rw[startsAt]
  split <;> omega
theorem build_arg {ev:Int} {l:List Ent} (h:¬(1≤ev∧ev≤1024∧rightL l=true)):buildB ev l=([],1):=by unfold buildB;rw[if_neg h]
theorem build_long {ev:Nat} {l:List Ent} (h:1≤ev∧ev≤1024∧rightL l=true) {i:Nat} (hi:i≤l.length) (ho:1048576<(outAt ev l i).length):buildB (ev:Int) l=([],4):=by
 unfold buildB
 rw[if_pos ⟨by omega,by omega,h.2.2⟩,if_pos]
 have:=out_mono ev l hi
 show 1048576<(blockB ev l).length
 unfold blockB
 simp only[List.length_append]
 omega
theorem build_end {ev:Nat} {l:List Ent} (h:1≤ev∧ev≤1024∧rightL l=true):buildB (ev:Int) l=if 1048576<(blockB ev l).length then ([],4) else (blockB ev l,0):=by
 unfold buildB
 rw[if_pos ⟨by omega,by omega,h.2.2⟩]
 rfl
theorem BldAt.below {w w':World} {base Bk:Nat} {out places:List UInt8} {n:Nat} {last:ByteArray} (h:BldAt w base Bk out places n last) (hb:Below w.heap.size w w'):BldAt w' base Bk out places n last:=by obtain⟨a,b,h⟩:=h;exact⟨a,b,h.below hb⟩
def BuildPost (w:World) (r:List UInt8 × Nat) (en:Ending) (w':World):Prop:=∃v,en=.returned (.tuple #[v,.int .i64 (r.2:Int)])∧OB w' w.heap.size v r.1∧Below w.heap.size w w'
theorem kBuild_any (v:Value) (l:List Ent) (ev:Int) (w:World) (hv:SE w w.heap.size v l) (hl:l.length≤140737488351232) (hz:∀e∈l,e.user.size≤9223372036854775807∧e.value.size≤9223372036854775807) (he1:-9223372036854775808≤ev) (he2:ev≤9223372036854775807) :
  Calls Tryz.prog 53 #[v,.int .i64 ev] w (BuildPost w (buildB ev l)):=by
 by_cases h1:ev<1
 ·have HB:Hid (buildB ev l=([],1)):=Lib.hid (build_arg (fun h=>by omega))
  go_enter Tryz.func53,Tryz.ntmps53
  go_wp2_with fail
  exact bodyPost_ret (v:=.tuple #[.slice none 0 0,.int .i64 1]) (by simp[results,Tryz.results53,go_sem] <;> rfl) rfl ⟨_,by rw[HB.out];rfl,by rw[HB.out];exact OB.nil_ _ _,bself w⟩
 by_cases h2:1024<ev
 ·have HB:Hid (buildB ev l=([],1)):=Lib.hid (build_arg (fun h=>by omega))
  go_enter Tryz.func53,Tryz.ntmps53
  go_wp2_with fail
  exact bodyPost_ret (v:=.tuple #[.slice none 0 0,.int .i64 1]) (by simp[results,Tryz.results53,go_sem] <;> rfl) rfl ⟨_,by rw[HB.out];rfl,by rw[HB.out];exact OB.nil_ _ _,bself w⟩
 obtain⟨en,rfl⟩:∃n:Nat,ev=(n:Int):=⟨ev.toNat,by omega⟩
 have hen1:1≤en:=by omega
 have hen2:en≤1024:=by omega
 have HRI:=Lib.hid (iRises_any v l w hv hl)
 have HCF:=Lib.hid (fun w' (hb:Below w.heap.size w w')=>kContains_any v l w' (hv.on hb) hl hz)
 cases hri:risesE l with
 | false =>
  have HB:Hid (buildB (en:Int) l=([],1)):=Lib.hid (build_arg (fun h=>by have:=(rightL_all h.2.2).1;rw[hri] at this;cases this))
  rw[hri] at HRI
  go_enter Tryz.func53,Tryz.ntmps53
  go_wp2_with fail
  refine HRI.out.mono ?_
  rintro _ w1 ⟨rfl,hb1⟩
  go_wp2_with fail
  exact bodyPost_ret (v:=.tuple #[.slice none 0 0,.int .i64 1]) (by simp[results,Tryz.results53,go_sem] <;> rfl) rfl ⟨_,by rw[HB.out];rfl,by rw[HB.out];exact OB.nil_ _ _,hb1⟩
 | true =>
  rw[hri] at HRI
  cases hall:l.all rightE with
  | false =>
   have HB:Hid (buildB (en:Int) l=([],1)):=Lib.hid (build_arg (fun h=>by have:=h.2.2;unfold rightL at this;rw[hall,Bool.and_false] at this;cases this))
   simp only[hall,Bool.not_false] at HCF
   go_enter Tryz.func53,Tryz.ntmps53
   go_wp2_with fail
   refine HRI.out.mono ?_
   rintro _ w1 ⟨rfl,hb1⟩
   go_wp2_with fail
   refine (HCF.out w1 hb1).mono ?_
   rintro _ w2 ⟨rfl,hb2⟩
   go_wp2_with fail
   exact bodyPost_ret (v:=.tuple #[.slice none 0 0,.int .i64 1]) (by simp[results,Tryz.results53,go_sem] <;> rfl) rfl ⟨_,by rw[HB.out];rfl,by rw[HB.out];exact OB.nil_ _ _,bstep hb1 hb2⟩
  | true =>
   simp only[hall,Bool.not_true] at HCF
   have hok:1≤en∧en≤1024∧rightL l=true:=⟨hen1,hen2,by unfold rightL;rw[hri,hall];rfl⟩
   have HOK:=Lib.hid hok
   clear hok hri hall
   go_enter Tryz.func53,Tryz.ntmps53
   go_wp2_with fail
   refine HRI.out.mono ?_
   rintro _ w1 ⟨rfl,hb1⟩
   go_wp2_with fail
   refine (HCF.out w1 hb1).mono ?_
   rintro _ w2 ⟨rfl,hb2⟩
   have b2:=bstep hb1 hb2
   obtain⟨A,c,rfl,hc,hm,hr⟩:=id hv
   go_wp2_with fail
   refine (cNum_any _ [] en w2 (SB.nil_ _ _) (by simp) (by omega)).mono ?_
   rintro _ w3 ⟨r3,rfl,ho3,hb3⟩
   have b3:=bstep b2 hb3
   go_wp2_with fail
   refine (cNum_any r3 ([]++num en) l.length w3 ho3.sb (by have:=num_length en;simp only[List.nil_append];omega) (by omega)).mono ?_
   rintro _ w4 ⟨r4,rfl,ho4,hb4⟩
   have b4:=bstep b3 hb4
   have ho4:OB w4 w.heap.size r4 (outAt en l 0):=ho4.rebase b3.size
   obtain⟨out0,ho0⟩:∃o,outAt en l 0=o:=⟨_,rfl⟩
   have HO0:=Lib.hid ho0
   rw[ho0] at ho4
   have hol0:out0.length≤20:=by
    rw[←ho0,outAt,List.length_append]
    have:=num_length en
    have:=num_length l.length
    omega
   obtain⟨A4,c4,rfl,_,_,_⟩:=ho4.sb
   clear ho0 ho3 hb1 hb2 hb3 hb4 b2 b3 HRI HCF
   go_upto_region 4 with fail
   obtain⟨Bk,hBk⟩:∃Bk,Bk=w4.heap.size:=⟨_,rfl⟩
   have hrow:=heap_alloc_new w4 (.cells #[.slice A4 out0.length c4,.slice none 0 0,.int .i64 0,.string ⟨#[]⟩] 169)
   rw[←hBk] at hrow ⊢
   have b5:=balloc b4 (.cells #[.slice A4 out0.length c4,.slice none 0 0,.int .i64 0,.string ⟨#[]⟩] 169)
   have hbl:BldAt (w4.alloc (.cells #[.slice A4 out0.length c4,.slice none 0 0,.int .i64 0,.string ⟨#[]⟩] 169)) w.heap.size Bk out0 [] 0 ⟨#[]⟩ :=
    ⟨_,_,hrow,ho4.alloc _,OB.nil_ _ _,.inl rfl,by rw[hBk];exact b4.size⟩
   clear hrow ho4 b4 hBk hol0
   generalize World.alloc w4 _=w5 at b5 hbl ⊢
   have hbl:BldAt w5 w.heap.size Bk (outAt en l 0) [] 0 ⟨#[]⟩:=by rw[HO0.out];exact hbl
   clear HO0
   go_wp2_with fail
   go_loopw [34] (fun i wr=>∃k:Nat,i=.int .i64 k∧k≤l.length∧(∃last,BldAt wr w.heap.size Bk (outAt en l k) (placesAt en l k) (startsAt en k) last∧Hid (last.data.toList=lastAt l k)∧last.size≤2000)∧Hid ((outAt en l k).length≤1048576)∧Below w.heap.size w wr) (fun i _=>l.length-(intOf i).toNat)
   case atStart=>exact⟨0,rfl,Nat.zero_le _,⟨_,hbl,Lib.hid rfl,Nat.zero_le _⟩,Lib.hid (by have:=num_length en;have:=num_length l.length;simp only[outAt,List.length_append];omega),b5⟩
   case round =>
    obtain⟨k,rfl,hk,⟨last,hB,hla,hls⟩,hol,hbr⟩:=hrel
    by_cases hlt:k<l.length
    ·obtain⟨b,o,rfl,hb,c0,c1,c2,c3⟩:=(hr.below hbr).ent rfl (k:=k) hlt
     obtain⟨x,hx⟩:∃x,x=l[k]:=⟨_,rfl⟩
     rw[←hx] at c0 c1 c2 c3
     have hxr:rightE x=true:=by rw[hx];exact (rightL_all HOK.out.2.2).2 _ (List.getElem_mem hlt)
     have HX:=Lib.hid hx
     clear hx
     have g1:¬en=0:=by omega
     obtain⟨an,han⟩:∃an:Bool,decide (k%en=0)=an:=⟨_,rfl⟩
     have g3:((k:Int)%(en:Int)==0)=an:=by rw[←han,Bool.eq_iff_iff,beq_iff_eq,decide_eq_true_eq,←Int.natCast_emod];omega
     have g4:(((k:Int)).tmod (en:Int)==0)=an:=by rw[←g3,←Int.ofNat_tmod,←Int.natCast_emod]
     have HAN:=Lib.hid han
     clear han
     go_upto_region 7 with fail
     have hEr:=heap_alloc_new wr (entO x)
     have hBa:=hB.below (bdrew (balloc (bself wr) (entO x)))
     have hba:=bdrew (balloc hbr (entO x))
     obtain⟨⟨d0,d1,d2,d3⟩,_⟩:=cells4 hEr
     have hbz:w.heap.size≤(wr.alloc (entO x)).drew.heap.size:=hba.size
     have HADD:=Lib.hid (kAdd_any w.heap.size Bk _ _ _ last x an (wr.alloc (entO x)).drew hBa hbz hxr hls hol.out (Nat.le_trans (places_le en l k) (by have:=out_ge en l k;have:=hol.out;omega)) (Nat.le_trans (starts_le en k) (Nat.le_trans (out_ge en l k) hol.out)))
     refine wp_region_noPanic ?_
     refine wp_region_held_drew (S:=fun _=>True) (by kernel_rfl) trivial (fun hHeld=>?_)
     refine rtk 1 ?_
     refine rtk 2 ?_
     refine rtk 3 ?_
     refine rtk 4 ?_
     refine ro 0 (fun K hK=>?_)
     (go_simp)
     refine hK.out _ _ ?_ (fun hHeld=>?_)
     ·trivial
     clear hK K
     try simp only[Act.put,q1,q2,q3]
     refine ro 5 (fun K hK=>?_)
     (go_simp;go_at_call 92;refine HADD.out.mono ?_;rintro _ w6 ⟨rfl,hB6,hb6⟩;go_wp2_with fail)
     refine hK.out _ _ ?_ (fun hHeld=>?_)
     ·trivial
     clear hK K
     try simp only[Act.put,q1,q2,q3]
     refine rdn ?_
     have hgd:l.getD k ent0=x:=by rw[HX.out,List.getD_eq_getElem?_getD,List.getElem?_eq_getElem hlt];rfl
     have e1:outAt en l k++oneB (if an=true then 0 else partAt last.data.toList (layE x)) x=outAt en l (k+1):=by
      rw[outAt,hgd,hla.out,←HAN.out]
      unfold shareAt keyAt
      rw[hgd]
      by_cases h0:k%en=0 <;> simp[h0]
     have e2:(if an=true then placesAt en l k++fix (outAt en l k).length 4 else placesAt en l k)=placesAt en l (k+1):=by
      rw[placesAt,←HAN.out]
      by_cases h0:k%en=0 <;> simp[h0]
     have e3:(if an=true then startsAt en k+1 else startsAt en k)=startsAt en (k+1):=by
      rw[startsAt,←HAN.out]
      by_cases h0:k%en=0 <;> simp[h0]
     rw[e1,e2,e3] at hB6
     have hla6:Hid ((⟨(layE x).toArray⟩:ByteArray).data.toList=lastAt l (k+1)):=Lib.hid (by
      show layE x=keyAt l k
      unfold keyAt;rw[hgd])
     have hls6:(⟨(layE x).toArray⟩:ByteArray).size≤2000:=by
      have:=lay_le hxr
      show (layE x).toArray.size≤2000
      simp;omega
     have b6:Below w.heap.size w w6:=hba.trans hb6
     clear HADD d0 d1 d2 d3 hEr hBa hba hb6 hB c0 c1 c2 c3 e1 e2 e3 hgd HAN HX g1 g3 g4
     have hB7:=hB6
     obtain⟨vo,vp,hB6⟩:=hB6
     obtain⟨O,hO⟩:∃O,outAt en l (k+1)=O:=⟨_,rfl⟩
     have HO:=Lib.hid hO
     rw[hO] at hB6
     clear hO
     obtain⟨Ao,co,rfl,_,_,_⟩:=hB6.oo.sb
     obtain⟨⟨d0,_,_,_⟩,_⟩:=hB6.cells
     by_cases hlong:1048576<O.length
     ·have HBL:Hid (buildB (en:Int) l=([],4)):=Lib.hid (build_long HOK.out (i:=k+1) (by omega) (by rw[HO.out];exact hlong))
      go_wp2_with fail
      exact bodyPost_ret (v:=.tuple #[.slice none 0 0,.int .i64 4]) (by simp[results,Tryz.results53,go_sem] <;> rfl) rfl ⟨_,by rw[HBL.out];rfl,by rw[HBL.out];exact OB.nil_ _ _,b6⟩
     ·go_wp2_with fail
      go_roundw
      case rel=>exact⟨k+1,by go_num,by omega,⟨_,hB7,hla6,hls6⟩,Lib.hid (by rw[HO.out];omega),b6⟩
      case measure=>simp[intOf];omega
    ·have hkl:k=l.length:=by omega
     subst hkl
     have hpl:=places_le en l l.length
     have hst:=starts_le en l.length
     have hge:=out_ge en l l.length
     have hol2:=hol.out
     obtain⟨vo,vp,hB⟩:=hB
     have hBB:Hid (outAt en l l.length++placesAt en l l.length++fix (startsAt en l.length) 4=blockB en l):=Lib.hid rfl
     generalize outAt en l l.length=O at hB hBB hol2 hge
     generalize placesAt en l l.length=PL at hB hBB hpl
     generalize startsAt en l.length=st at hB hBB hst
     have hOl:O.length≤1048576:=hol2
     have hPl:PL.length≤4194304:=by omega
     have hSl:st≤1048576:=by omega
     clear hpl hst hge hol2 hol
     obtain⟨Ao,co,rfl,_,_,_⟩:=hB.oo.sb
     have hd:=hB.drew
     obtain⟨⟨d0,d1,d2,_⟩,f0,_⟩:=hd.cells
     have hbz:w.heap.size≤wr.drew.heap.size:=hbr.size
     have gst:IntKind.u64.wrap (st:Int)=(st:Int):=by rw[IntKind.wrap_u64];omega
     have KR:Hid (∀w':World,w'.heap[Bk]? = wr.drew.heap[Bk]?→True∧w'.cell? ⟨Bk,1,none⟩=some vp∧w'.cell? ⟨Bk,2,none⟩=some (.int .i64 (st:Int))):=Lib.hid (fun w' e=>⟨trivial,(World.cell?_of_block (a:=⟨Bk,1,none⟩) e).trans d1,(World.cell?_of_block (a:=⟨Bk,2,none⟩) e).trans d2⟩)
     go_upto_region 11 with fail
     refine wp_region_noPanic ?_
     refine wp_region_held_drew (S:=fun w'=>True∧w'.cell? ⟨Bk,1,none⟩=some vp∧w'.cell? ⟨Bk,2,none⟩=some (.int .i64 (st:Int))) (by kernel_rfl) ⟨trivial,d1,d2⟩ (fun hHeld=>?_)
     refine rtk 0 ?_
     refine rtk 2 ?_
     refine rtk 3 ?_
     refine rtk 5 ?_
     refine rtk 6 ?_
     refine rtk 7 ?_
     refine ro 1 (fun K hK=>?_)
     (go_simp)
     refine hK.out _ _ ?_ (fun hHeld=>?_)
     ·exact⟨trivial,d1,d2⟩
     clear hK K
     try simp only[Act.put,q1,q2,q3]
     refine ro 4 (fun K hK=>?_)
     (refine wp_appB (.tmp 51) (.tmp 53) rfl w.heap.size (.slice Ao O.length co) O rfl hd.oo wr.drew.heap.size vp PL rfl hd.op.sb (by omega) hbz ?_;intro v5 w5 ho5 hg5 hw5 hb5;have k5:=(Kept.refl wr.drew (.slice Ao O.length co)).step hg5 hw5;have r5:=k5.block Bk hd.lt hd.no)
     refine hK.out _ _ ?_ (fun hHeld=>?_)
     ·exact KR.out _ r5
     clear hK K
     try simp only[Act.put,q1,q2,q3]
     refine ro 8 (fun K hK=>?_)
     (go_simp;go_at_call 60;refine (cFix_any _ [] st 4 w5 (SB.nil_ _ _) (by simp) (by omega) (by omega) (by omega)).mono ?_;rintro _ w6 ⟨v6,rfl,ho6,hb6⟩;have k6:=k5.below hb6;have r6:=k6.block Bk hd.lt hd.no;have ho56:=ho5.below hb6 (Nat.le_refl _);go_wp2_with fail)
     refine hK.out _ _ ?_ (fun hHeld=>?_)
     ·exact KR.out _ r6
     clear hK K
     try simp only[Act.put,q1,q2,q3]
     have hb56:w.heap.size≤w6.heap.size:=Nat.le_trans (Nat.le_trans hbz hb5.size) hb6.size
     refine ro 9 (fun K hK=>?_)
     (refine wp_appB (.tmp 54) (.tmp 58) rfl w.heap.size v5 (O++PL) rfl ho56 w6.heap.size v6 ([]++fix st (fixN 4)) rfl ho6.sb (by simp only[List.length_append,List.nil_append,fix_length,show fixN 4=4 from rfl];omega) hb56 ?_;intro v7 w7 ho7 hg7 hw7 hb7;have k7:=k6.step hg7 hw7;have r7:=k7.block Bk hd.lt hd.no;have ho7:OB w7 w.heap.size v7 (blockB en l):=(by rw[←hBB.out];simpa [show fixN 4=4 from rfl] using ho7);obtain⟨Z,hZ⟩:∃Z,blockB en l=Z:=⟨_,rfl⟩;have HZ:=Lib.hid hZ;rw[hZ] at ho7;clear hZ;obtain⟨A7,c7,rfl,_,_,_⟩:=ho7.sb)
     refine hK.out _ _ ?_ (fun hHeld=>?_)
     ·exact KR.out _ r7
     clear hK K
     try simp only[Act.put,q1,q2,q3]
     refine rtk 10 ?_
     have d7:w7.cell? ⟨Bk,0,none⟩=some (.slice Ao O.length co):=(World.cell?_of_block (a:=⟨Bk,0,none⟩) r7).trans d0
     have f7:w7.frozen? ⟨Bk,0,none⟩=false:=by rw[←f0];unfold World.frozen?;rw[show w7.heap[(⟨Bk,0,none⟩:Addr).block]? = wr.drew.heap[(⟨Bk,0,none⟩:Addr).block]? from r7]
     refine ro 11 (fun K hK=>?_)
     (go_simp)
     refine hK.out _ _ ?_ (fun hHeld=>?_)
     ·exact⟨trivial,(World.cell?_setCell_other _ _ _ _ (by simp)).trans (KR.out _ r7).2.1,(World.cell?_setCell_other _ _ _ _ (by simp)).trans (KR.out _ r7).2.2⟩
     clear hK K
     try simp only[Act.put,q1,q2,q3]
     refine rdn ?_
     have h8:=hd.setOut k7 ho7
     have b8:Below w.heap.size w (w7.setCell ⟨Bk,0,none⟩ (.slice A7 Z.length c7)):=(((⟨hbr.os,hbr.tape,hbr.output,hbr.size,hbr.block⟩:Below w.heap.size w wr.drew).trans hb5).trans ((hb6.mono (Nat.le_trans hbz hb5.size)).trans hb7)).setCell hd.le _
     clear d7 f7 r5 r6 r7 k5 k6 k7 hg5 hg7 hw5 hw7 hb5 hb6 hb7 ho5 ho6 ho7 ho56 d0 d1 d2 f0 hHeld KR hd hB
     generalize World.setCell w7 _ _=w8 at h8 b8 ⊢
     obtain⟨⟨d0,_,_,_⟩,_⟩:=h8.cells
     by_cases hlong:1048576<Z.length
     ·have HBL:Hid (buildB (en:Int) l=([],4)):=Lib.hid (by rw[build_end HOK.out,HZ.out,if_pos hlong])
      go_wp2_with fail
      exact bodyPost_ret (v:=.tuple #[.slice none 0 0,.int .i64 4]) (by simp[results,Tryz.results53,go_sem] <;> rfl) rfl ⟨_,by rw[HBL.out];rfl,by rw[HBL.out];exact OB.nil_ _ _,b8⟩
     ·have HBL:Hid (buildB (en:Int) l=(Z,0)):=Lib.hid (by rw[build_end HOK.out,HZ.out,if_neg hlong])
      go_wp2_with fail
      exact bodyPost_ret (v:=.tuple #[.slice A7 Z.length c7,.int .i64 0]) (by simp[results,Tryz.results53,go_sem] <;> rfl) rfl ⟨_,by rw[HBL.out];rfl,by rw[HBL.out];exact h8.oo,b8⟩
end Go.Proofs.YtchjknbideoieaaGreatDoor
namespace Go.Proofs.YtchjknbideoieaaGreatDoor
set_option maxRecDepth 100000
set_option maxHeartbeats 8000000
open Go.RowKit
theorem tBad_any (e:Ent) (w:World) (hu:e.user.size≤9223372036854775807) (hv:e.value.size≤9223372036854775807) :
  Calls Tryz.prog 47 #[entV e] w fun en w'=>en=.returned (.bool (!rightE e))∧Below w.heap.size w w':=by
 have HR:=Lib.hid (fun W=>iRight_any e W hu hv)
 go_enter Tryz.func47,Tryz.ntmps47
 go_wp2_with (go_at_call 8;refine (HR.out _).mono ?_;rintro _ w1 ⟨rfl,hb1⟩)
 go_ret
 exact⟨rfl,bstep (balloc (bself w) _) hb1⟩
theorem tIndex_any (v:Value) (l:List Ent) (w:World) (hv:SE w w.heap.size v l) (_hl:l.length≤140737488351232) (hz:∀e∈l,e.user.size≤9223372036854775807∧e.value.size≤9223372036854775807) :
  Calls Tryz.prog 41 #[v,.func (.func 47) #[] #[]] w fun en w'=>∃i:Int,en=.returned (.int .i64 i)∧Hid (decide (0≤i)=!(l.all rightE))∧Below w.heap.size w w':=by
 obtain⟨A,c,rfl,hc,hm,hr⟩:=hv
 have hm':c≤9223372036854775807:=by unfold maxLen at hm;omega
 have HZ:=Lib.hid hz
 clear hz
 have eg:∀args w,(callFunc 47 args).run Tryz.prog w=.ok (.enter 47 args) w:=enters_of Tryz.func47 (by kernel_rfl) rfl
 go_enter Tryz.func41,Tryz.ntmps41
 go_wp2
 go_loopw [5,8] (fun _ i wr=>∃k:Nat,i=.int .i64 k∧k≤l.length∧Hid (∀j (hj:j<l.length),j<k→rightE l[j]=true)∧Below w.heap.size w wr) (fun _ i _=>l.length-(intOf i).toNat)
 case atStart=>exact⟨0,rfl,Nat.zero_le _,fun j hj h0=>by omega,bself w⟩
 case round =>
  obtain⟨k,rfl,hk,hp,hbr⟩:=hrel
  by_cases hlt:k<l.length
  ·obtain⟨b,o,rfl,hb,c0,c1,c2,c3⟩:=(hr.below hbr).ent rfl (k:=k) hlt
   obtain⟨x,hx⟩:∃x,x=l[k]:=⟨_,rfl⟩
   have hxz:=HZ.out l[k] (List.getElem_mem hlt)
   rw[←hx] at c0 c1 c2 c3 hxz
   have HB:=Lib.hid (fun W=>tBad_any x W hxz.1 hxz.2)
   have HX:=Lib.hid hx
   clear hx hxz
   cases hR:rightE x with
   | true =>
    simp only[hR,Bool.not_true] at HB
    go_wp2_with (go_at_fn 47;refine (HB.out _).mono ?_;rintro _ w2 ⟨rfl,hb2⟩)
    go_roundw
    case rel =>
     refine⟨k+1,by go_num,by omega,Lib.hid (fun j hj hjk=>?_),bstep hbr hb2⟩
     rcases Nat.lt_or_ge j k with h1|h1
     ·exact hp.out j hj h1
     ·have e:j=k:=by omega
      subst e;rw[←HX.out];exact hR
    case measure=>simp[intOf];omega
   | false =>
    simp only[hR,Bool.not_false] at HB
    go_wp2_with (go_at_fn 47;refine (HB.out _).mono ?_;rintro _ w2 ⟨rfl,hb2⟩)
    go_ret
    refine⟨_,rfl,Lib.hid ?_,bstep hbr hb2⟩
    have:l.all rightE=false:=by
     rw[List.all_eq_false]
     exact⟨x,by rw[HX.out];exact List.getElem_mem hlt,by rw[hR];simp⟩
    rw[this]
    simp
  ·go_wp2
   go_ret
   refine⟨_,rfl,Lib.hid ?_,hbr⟩
   have:l.all rightE=true:=by
    rw[List.all_eq_true]
    intro x hx
    obtain⟨j,hj,rfl⟩:=List.getElem_of_mem hx
    exact hp.out j hj (by omega)
   rw[this]
   rfl
theorem tContains_any (v:Value) (l:List Ent) (w:World) (hv:SE w w.heap.size v l) (hl:l.length≤140737488351232) (hz:∀e∈l,e.user.size≤9223372036854775807∧e.value.size≤9223372036854775807) :
  Calls Tryz.prog 49 #[v,.func (.func 47) #[] #[]] w fun en w'=>en=.returned (.bool (!(l.all rightE)))∧Below w.heap.size w w':=by
 have HI:=Lib.hid (tIndex_any v l w hv hl hz)
 go_enter Tryz.func49,Tryz.ntmps49
 go_wp2_with (go_at_call 41;refine HI.out.mono ?_;rintro _ w2 ⟨i,rfl,hi,hb2⟩)
 go_ret
 exact⟨by rw[←hi.out];rfl,hb2⟩
end Go.Proofs.YtchjknbideoieaaGreatDoor
