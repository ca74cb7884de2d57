/- What is proved here: what Lay and Take of ikey and of the reference come to, at this seat's numbers. Conditions: the texts' lengths. what Between and After of ikey and of the reference come to, at this seat's numbers. Conditions: the texts' lengths. -/
import Derived.Test.YtchjknbideoieaaGreatDoorK19
import Derived.Test.YtchjknbideoieaaGreatDoorK03
import Derived.Test.YtchjknbideoieaaGreatDoorK05
import Derived.BigQuiet
import Derived.Test.YtchjknbideoieaaGreatDoorK06
import Derived.Test.YtchjknbideoieaaGreatDoorK08
import Derived.Lib.IndexBytes
namespace Go.Proofs.YtchjknbideoieaaGreatDoor
set_option maxRecDepth 100000
set_option maxHeartbeats 8000000
open Go.RowKit
theorem ret_str {a b:ByteArray} (h:a=b):Ending.returned (.string a)=Ending.returned (.string b):=by rw[h]
theorem cells4 {w:World} {R:Nat} {a b c d:Value} {T:TypeId} (h:w.heap[R]? = some (.cells #[a,b,c,d] T (0,0))) :
  (w.cell? ⟨R,0,none⟩=some a∧w.cell? ⟨R,1,none⟩=some b∧w.cell? ⟨R,2,none⟩=some c∧w.cell? ⟨R,3,none⟩=some d)∧w.frozen? ⟨R,0,none⟩=false∧w.frozen? ⟨R,1,none⟩=false∧w.frozen? ⟨R,2,none⟩=false∧w.frozen? ⟨R,3,none⟩=false:=by
 refine⟨⟨cell_of_row w R 0 _ _ _ h,cell_of_row w R 1 _ _ _ h,cell_of_row w R 2 _ _ _ h,cell_of_row w R 3 _ _ _ h⟩,?_,?_,?_,?_⟩ <;> simp[World.frozen?,h]
theorem seqKind (s:UInt64) (k:UInt8):IntKind.u64.wrap (IntKind.u64.wrap ((s.toNat:Int)*256)+(k.toNat:Int))=(((s.toNat*256+k.toNat)%18446744073709551616:Nat):Int):=by
 rw[IntKind.wrap_u64,IntKind.wrap_u64];omega
theorem iLay_any (e:Ent) (w:World) (hu:e.user.size≤140737488351232) :
  Calls Tryz.prog 114 #[entV e] w fun en w'=>en=.returned (.string ⟨(layE e).toArray⟩)∧Below w.heap.size w w':=by
 have hs:=u64_lt e.seq
 have hk:=u8_lt e.kind
 go_enter Tryz.func114,Tryz.ntmps114
 go_wp2_with (first
  | (refine wl_s2b (o:=⟨some 5,_,_,_,_,_⟩) rfl (.tmp 4) rfl e.user rfl (by simp only[maxLen];omega) ?_;intro v2 w2 hs2 _ hb2 _;obtain⟨hc2,_⟩:=bcells hb2))
 rw[seqKind]
 have hb2':=bstep (balloc (bself w) _) hb2
 have hus:=toList_size e.user
 have hfl:=fix_length 8 ((e.seq.toNat*256+e.kind.toNat)%18446744073709551616)
 refine (cFix_any v2 e.user.data.toList ((e.seq.toNat*256+e.kind.toNat)%18446744073709551616) 8 w2 hs2 (by omega) (by omega) (by omega) (by omega)).mono ?_
 rintro e3 w3 ⟨x3,rfl,hown3,hb3⟩
 rw[fixN8] at hown3
 have hs3:=hown3.sb
 go_wp2_with (refine wl_b2s (o:=⟨some 14,_,_,_,_,_⟩) rfl (.tmp 13) rfl x3 rfl _ _ hs3 ?_)
 go_ret
 exact⟨rfl,bstep hb2' hb3⟩
def takeV (s:List UInt8):Value:=if isKey s then .tuple #[entV (takeE s),.int .i64 0] else .tuple #[.agg #[.string .empty,.int .u64 0,.int .u8 0,.string .empty],.int .i64 80]
theorem iTake_short (s:ByteArray) (w:World) (hs:s.size<8) :
  Calls Tryz.prog 124 #[.string s] w fun en w'=>en=.returned (takeV s.data.toList)∧Below w.heap.size w w':=by
 go_enter Tryz.func124,Tryz.ntmps124
 go_wp2_with fail
 have hn:isKey s.data.toList=false:=by
  have h:=toList_size s
  have:decide (8≤s.data.toList.length)=false:=by rw[decide_eq_false_iff_not];omega
  unfold isKey
  rw[this]
  rfl
 exact bodyPost_ret (v:=.tuple #[.agg #[.string .empty,.int .u64 0,.int .u8 0,.string .empty],.int .i64 80]) (by simp[results,Tryz.results124,go_sem] <;> rfl) rfl ⟨by unfold takeV;rw[hn];rfl,balloc (bself w) _⟩
theorem iTake_long (s:ByteArray) (w:World) (hs:8≤s.size) (hm:s.size≤140737488355328) :
  Calls Tryz.prog 124 #[.string s] w fun en w'=>en=.returned (takeV s.data.toList)∧Below w.heap.size w w':=by
 go_enter Tryz.func124,Tryz.ntmps124
 have hsz:=toList_size s
 obtain⟨T,hT⟩:∃T,T=s.data.toList.drop (s.data.toList.length-8):=⟨_,rfl⟩
 have hx:(s.extract (s.size-8) s.size).data.toList=T:=by rw[Lib.extract_to_end,hT,hsz]
 have hTl:T.length=8:=by rw[hT,List.length_drop];omega
 have hxs:(s.extract (s.size-8) s.size).size=8:=by
  have h:=toList_size (s.extract (s.size-8) s.size)
  rw[hx,hTl] at h
  exact h.symm
 have es:sFix 8 (T,0)=(leN T,[],0):=by
  unfold sFix
  rw[if_neg (by simp),if_neg (by omega),if_neg (by simp only[hTl];omega)]
  simp only
  rw[show (8:Int).toNat=8 from rfl,List.take_of_length_le (by omega),List.drop_eq_nil_of_le (by omega)]
 have hnl:leN T<18446744073709551616:=by
  have h:=leN_lt T
  rw[hTl] at h
  exact Nat.lt_of_lt_of_le h (by decide)
 have hu:s.extract 0 (s.size-8)=⟨(s.data.toList.take (s.data.toList.length-8)).toArray⟩:=by
  apply ByteArray.ext
  apply Array.toList_inj.1
  rw[Lib.extract_data,hsz]
  simp
 obtain⟨n,hn⟩:∃n,n=leN T:=⟨_,rfl⟩
 obtain⟨q,hq⟩:∃q,q=takeE s.data.toList:=⟨_,rfl⟩
 have hq1:entV q=.agg #[.string (s.extract 0 (s.size-8)),.int .u64 ((n:Int)/256),.int .u8 ((n:Int)%256),.string ⟨#[]⟩]:=by
  rw[hq,hn,hu]
  unfold takeE entV
  simp only[←hT]
  have h1:((UInt64.ofNat (leN T/256)).toNat:Int)=(leN T:Int)/256:=by rw[UInt64.toNat_ofNat'];omega
  have h2:((UInt8.ofNat (leN T%256)).toNat:Int)=(leN T:Int)%256:=by rw[UInt8.toNat_ofNat'];omega
  rw[h1,h2]
 have hqu:q.user.size≤9223372036854775807∧q.value.size≤9223372036854775807:=by
  have h1:=toList_size q.user
  have h2:q.value.size=0:=by rw[hq];rfl
  have h3:q.user.data.toList.length≤s.data.toList.length:=by rw[hq];simp only[takeE];exact List.length_take_le' _ _
  omega
 have hright:=fun W=>iRight_any q W hqu.1 hqu.2
 rw[hq1] at hright
 rw[←hn] at es hnl
 have hres:takeV s.data.toList=if rightE q then .tuple #[entV q,.int .i64 0] else .tuple #[.agg #[.string .empty,.int .u64 0,.int .u8 0,.string .empty],.int .i64 80]:=by
  unfold takeV isKey
  rw[hq,show decide (8≤s.data.toList.length)=true from by rw[decide_eq_true_eq];omega,Bool.true_and]
 rw[hq1] at hres
 have HX:=Lib.hid (And.intro hx (And.intro hxs hres))
 have HR:=Lib.hid hright
 have HE:=Lib.hid es
 have hTle:T.length≤8:=by omega
 clear hx hxs hu hT hTl es hn hq hq1 hright hres hqu
 go_wp2_with (first
  | (refine wl_s2b (o:=⟨some 16,_,_,_,_,_⟩) rfl (.tmp 15) rfl (s.extract (s.size-8) s.size) rfl (by rw[HX.out.2.1];simp[maxLen]) ?_;intro v2 w2 hs2 _ hb2 _))
 rw[HX.out.1] at hs2
 refine (cNew_any v2 T w2 hs2 (by omega)).mono ?_
 rintro e w3 ⟨R,rfl,hR,hrd,hb3⟩
 go_wp2_with fail
 have hcall:=mFix_any R T 0 8 w3 hrd.at_ (by omega) (by omega)
 rw[HE.out] at hcall
 refine hcall.mono ?_
 rintro e w4 ⟨rfl,hrd4,hg4⟩
 clear hcall
 go_wp2_with fail
 have hb2':=bstep (balloc (bself w) _) hb2
 have hb3':=bstep hb2' hb3
 have hR0:w.heap.size<R:=by have:=hb2.size;simp at this;omega
 have hb4':Below w.heap.size w w4:=hb3'.trans (gbelow hg4 (Nat.le_of_lt hrd.at_.lt) (by omega))
 have hr1:=heap_alloc_new w (.cells #[.string ⟨#[]⟩,.int .u64 0,.int .u8 0,.string ⟨#[]⟩] 29)
 have hr4:w4.heap[w.heap.size]? = some (.cells #[.string ⟨#[]⟩,.int .u64 0,.int .u8 0,.string ⟨#[]⟩] 29 (0,0)) :=
  ((hg4.block _ (by have:=hb3'.size;have:=hb2.size;have:=hb3.size;simp at *;omega) (fun e=>by injection e with e;omega)).trans ((hb3.block _ (by have:=hb2.size;simp at this;omega)).trans (hb2.block _ (by simp)))).trans hr1
 have hz4:w.heap.size<w4.heap.size:=(Array.getElem?_eq_some_iff.1 hr4).1
 refine (HR.out _).mono ?_
 rintro e w5 ⟨rfl,hb5⟩
 have hr5:w5.heap[w.heap.size]? = some (.cells #[.string ⟨#[]⟩,.int .u64 0,.int .u8 0,.string ⟨#[]⟩] 29 (0,0)) :=
  (hb5.block _ (by simp;omega)).trans ((balloc (bself w4) _).block _ hz4 |>.trans hr4)
 have hq5:w5.heap[w4.heap.size]? = some (.cells #[.string (s.extract 0 (s.size-8)),.int .u64 ((n:Int)/256),.int .u8 ((n:Int)%256),.string ⟨#[]⟩] 29 (0,0)) :=
  (hb5.block _ (by simp)).trans (heap_alloc_new w4 _)
 obtain⟨⟨x0,x1,x2,x3⟩,y0,y1,y2,y3⟩:=cells4 hr5
 obtain⟨⟨z0,z1,z2,z3⟩,_,_,_,_⟩:=cells4 hq5
 have hz5:=hb5.size
 simp at hz5
 have hb5':=bstep (balloc hb4' _) hb5
 clear hr5 hq5 hr4 hr1
 cases hrt:rightE q with
 | true =>
  have HX2:=HX.out.2.2
  rw[hrt] at HX2
  have HX3:=Lib.hid HX2
  clear HX2
  go_wp2_with fail
  exact bodyPost_ret (v:=.tuple #[.agg #[.string (s.extract 0 (s.size-8)),.int .u64 ((n:Int)/256),.int .u8 ((n:Int)%256),.string ⟨#[]⟩],.int .i64 0]) (by simp[results,Tryz.results124,go_sem,x0,x1,x2,x3]) rfl ⟨by rw[HX3.out];rfl,(((hb5'.setCell (Nat.le_refl _) _).setCell (Nat.le_refl _) _).setCell (Nat.le_refl _) _).setCell (Nat.le_refl _) _⟩
 | false =>
  have HX2:=HX.out.2.2
  rw[hrt] at HX2
  have HX3:=Lib.hid HX2
  clear HX2
  go_wp2_with fail
  exact bodyPost_ret (v:=.tuple #[.agg #[.string ⟨#[]⟩,.int .u64 0,.int .u8 0,.string ⟨#[]⟩],.int .i64 80]) (by simp[results,Tryz.results124,go_sem,x0,x1,x2,x3]) rfl ⟨by rw[HX3.out];rfl,(((hb5'.setCell (Nat.le_refl _) _).setCell (Nat.le_refl _) _).setCell (Nat.le_refl _) _).setCell (Nat.le_refl _) _⟩
end Go.Proofs.YtchjknbideoieaaGreatDoor
namespace Go.Proofs.YtchjknbideoieaaGreatDoor
set_option maxRecDepth 100000
set_option maxHeartbeats 8000000
open Go.RowKit
theorem partAt_go:∀(a b:List UInt8) (k:Nat),k≤partAt a b→∀(h1:k<a.length) (h2:k<b.length),(a[k]=b[k]→k+1≤partAt a b)∧(a[k]≠b[k]→partAt a b=k)
 | [],_,_,_,h1,_=>by simp at h1
 | _::_,[],_,_,_,h2=>by simp at h2
 | x::a,y::b,0,_,_,_=>by
  refine⟨fun h=>?_,fun h=>?_⟩
  ·simp only[List.getElem_cons_zero] at h
   simp[partAt,h]
  ·simp only[List.getElem_cons_zero] at h
   simp[partAt,h]
 | x::a,y::b,k+1,h,h1,h2=>by
  rw[partAt] at h
  by_cases e:x=y
  ·rw[if_pos e] at h
   have ih:=partAt_go a b k (by omega) (by simpa using h1) (by simpa using h2)
   simp only[List.getElem_cons_succ]
   rw[partAt,if_pos e]
   exact⟨fun h=>by have:=ih.1 h;omega,fun h=>by have:=ih.2 h;omega⟩
  ·rw[if_neg e] at h;omega
theorem raise_eq (s:ByteArray) (k:Nat) (h:k<s.size) (y:UInt8) (hy:s[k]=y):s.extract 0 k++(⟨#[UInt8.ofNat (y.toNat+1)]⟩:ByteArray)=⟨(raise s.data.toList k).toArray⟩:=by
 have hs:=toList_size s
 have h1:s.data.toList[k]? = some y:=by
  rw[List.getElem?_eq_getElem (by omega),←hy];rfl
 apply ByteArray.ext
 apply Array.toList_inj.1
 have h2:=Lib.extract_data s 0 k
 unfold raise
 rw[h1]
 simp only[ByteArray.data_append,Array.toList_append,h2]
 simp
theorem sget (s:ByteArray) (k:Nat) (h:k<s.size):s.data.toList[k]'(by rw[toList_size];exact h)=s[k]:=rfl
theorem byteUp (y:UInt8) (_h:y.toNat<255):IntKind.u8.wrap ((y.toNat:Int)+1)=((UInt8.ofNat (y.toNat+1)).toNat:Int):=by
 rw[UInt8.toNat_ofNat',IntKind.wrap_u8];omega
theorem iBetween_any (a b:ByteArray) (w:World) (ha:a.size≤140737488351232) (hb:b.size≤140737488351232) :
  Calls Tryz.prog 54 #[.string a,.string b] w fun en w'=>en=.returned (.string ⟨(between a.data.toList b.data.toList).toArray⟩)∧Below w.heap.size w w':=by
 have hsa:=toList_size a
 have hsb:=toList_size b
 have HA:=Lib.hid hsa
 have HB:=Lib.hid hsb
 clear hsa hsb
 go_enter Tryz.func54,Tryz.ntmps54
 go_wp2
 all_goals
  go_loopw [11] (fun i wr=>∃k n:Nat,i=.int .i64 k∧k≤a.size∧k≤b.size∧wr=w.drewN n∧Hid (k≤partAt a.data.toList b.data.toList)) (fun i _=>a.size-(intOf i).toNat)
  case atStart=>exact⟨0,0,rfl,Nat.zero_le _,Nat.zero_le _,rfl,Nat.zero_le _⟩
  case round =>
   obtain⟨k,n,rfl,hka,hkb,rfl,hp⟩:=hrel
   by_cases hlt:k<a.size∧k<b.size
   ·obtain⟨h1,h2⟩:=hlt
    have hgo:=partAt_go a.data.toList b.data.toList k hp.out (by rw[HA.out];exact h1) (by rw[HB.out];exact h2)
    obtain⟨y,hy⟩:∃y,y=a[k]:=⟨_,rfl⟩
    obtain⟨z,hz⟩:∃z,z=b[k]:=⟨_,rfl⟩
    rw[sget a k h1,sget b k h2,←hy,←hz] at hgo
    have HG:=Lib.hid hgo
    have HY:=Lib.hid hy
    have HZ:=Lib.hid hz
    have ey:=hy.symm
    have ez:=hz.symm
    have hy8:=u8_lt y
    have hz8:=u8_lt z
    clear hgo hy hz
    by_cases hyz:y.toNat=z.toNat
    ·have t1:((y.toNat:Int)==(z.toNat:Int))=true:=by rw[beq_iff_eq];omega
     have HE:Hid (y=z):=Lib.hid (UInt8.toNat_inj.1 hyz)
     clear hyz
     go_wp2
     go_quiet (fail)
     go_wp2
     go_roundw
     case rel=>exact⟨k+1,_,by go_num,by omega,by omega,rfl,HG.out.1 HE.out⟩
     case measure=>simp[intOf];omega
    ·have t1:((y.toNat:Int)==(z.toNat:Int))=false:=by rw[beq_eq_false_iff_ne];omega
     have hpk:partAt a.data.toList b.data.toList=k:=HG.out.2 (fun e=>hyz (by rw[e]))
     have HPK:=Lib.hid hpk
     have hga:(a.data.toList[k]?.getD 0)=y:=by rw[List.getElem?_eq_getElem (by rw[HA.out];exact h1)];exact HY.out.symm
     have hgb:(b.data.toList[k]?.getD 0)=z:=by rw[List.getElem?_eq_getElem (by rw[HB.out];exact h2)];exact HZ.out.symm
     have HGG:=Lib.hid (And.intro hga hgb)
     clear hpk hga hgb
     by_cases hlt2:y.toNat+2≤z.toNat
     ·have gs:IntKind.u8.wrap ((z.toNat:Int)-(y.toNat:Int))=(z.toNat:Int)-(y.toNat:Int):=by rw[IntKind.wrap_u8];omega
      have t2:decide (y.toNat<z.toNat)=true:=by simp;omega
      have t3:decide ((1:Int)<(z.toNat:Int)-(y.toNat:Int))=true:=by simp;omega
      have hbu:=byteUp y (by omega)
      have hre:=raise_eq a k h1 y ey
      obtain⟨x,hx⟩:∃x,x=UInt8.ofNat (y.toNat+1):=⟨_,rfl⟩
      obtain⟨sv,hsv⟩:∃sv:ByteArray,sv=⟨(raise a.data.toList k).toArray⟩:=⟨_,rfl⟩
      rw[←hx] at hbu hre
      rw[←hsv] at hre
      have HSV:=Lib.hid hsv
      have f1:¬9223372036854775807<k+1:=by omega
      clear hx hsv
      go_wp2
      go_quiet (fail)
      go_wp2
      go_quiet (fail)
      go_wp2
      refine wp_region_noPanic ?_
      refine wp_region_held_drew (S:=fun _=>True) (by kernel_rfl) trivial (fun hHeld=>?_)
      refine rtk 0 ?_
      refine rtk 1 ?_
      refine rtk 2 ?_
      refine rtk 3 ?_
      refine rtk 4 ?_
      refine rtk 5 ?_
      refine rtk 6 ?_
      refine ro 7 (fun K hK=>?_)
      (go_simp)
      refine hK.out _ _ ?_ (fun hHeld=>?_)
      ·trivial
      clear hK K
      try simp only[Act.put,q1,q2,q3]
      refine reg_add (fun w'=>(convert 56 9 (.slice (some ⟨w.heap.size,0,none⟩) 1 1)).run Tryz.prog w'=.ok (.string ⟨[x].toArray⟩) w') (by assumption) (run_b2s _ _ (w.heap.size+1) [x] (SB.newAt x rfl (by simp))) (fun hHeld=>?_)
      refine rtk 8 ?_
      refine rtk 9 ?_
      refine rtk 10 ?_
      refine rdn ?_
      go_wp2
      go_ret
      refine⟨ret_str ?_,balloc (brefl w _) _⟩
      rw[HSV.out]
      unfold between
      rw[HPK.out,HGG.out.1,HGG.out.2,if_pos ⟨by rw[HA.out];exact h1,by rw[HB.out];exact h2,hlt2⟩]
     ·by_cases hlt3:y.toNat<z.toNat
      ·have gs:IntKind.u8.wrap ((z.toNat:Int)-(y.toNat:Int))=(z.toNat:Int)-(y.toNat:Int):=by rw[IntKind.wrap_u8];omega
       have t2:decide (y.toNat<z.toNat)=true:=by simp;omega
       have t3:decide ((1:Int)<(z.toNat:Int)-(y.toNat:Int))=false:=by simp;omega
       go_wp2
       go_quiet (fail)
       go_wp2
       go_quiet (fail)
       go_wp2
       go_ret
       refine⟨ret_str ?_,⟨rfl,rfl,rfl,Nat.le_refl _,fun _ _=>rfl⟩⟩
       unfold between
       rw[HPK.out,HGG.out.1,HGG.out.2,if_neg (by omega)]
      ·have t2:decide (y.toNat<z.toNat)=false:=by simp;omega
       go_wp2
       go_quiet (fail)
       go_wp2
       go_quiet (fail)
       go_wp2
       go_ret
       refine⟨ret_str ?_,⟨rfl,rfl,rfl,Nat.le_refl _,fun _ _=>rfl⟩⟩
       unfold between
       rw[HPK.out,HGG.out.1,HGG.out.2,if_neg (by omega)]
   ·have hpl:=partAt_le a.data.toList b.data.toList
    rw[HA.out,HB.out] at hpl
    have HPL:=Lib.hid hpl
    clear hpl
    first
     | (have hge:¬k<b.size:=by omega
        go_wp2)
     | (have hge:¬k<a.size:=by omega
        go_wp2)
    go_ret
    refine⟨ret_str ?_,⟨rfl,rfl,rfl,Nat.le_refl _,fun _ _=>rfl⟩⟩
    unfold between
    rw[if_neg (by have:=HPL.out;have:=hp.out;have:=HA.out;have:=HB.out;omega)]
end Go.Proofs.YtchjknbideoieaaGreatDoor
