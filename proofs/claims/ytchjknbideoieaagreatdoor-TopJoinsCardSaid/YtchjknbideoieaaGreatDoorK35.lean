/- What is proved here: a slice's numbers collected and put in order; a number sought among numbers in order, at this seat's numbers. Conditions: the lists' lengths. -/
import Derived.Test.YtchjknbideoieaaGreatDoorK33
import Derived.Sort.OwnSorted
import Derived.Test.YtchjknbideoieaaGreatDoorK31
namespace Go.Proofs.YtchjknbideoieaaGreatDoor
set_option maxRecDepth 100000
set_option maxHeartbeats 8000000
open Go.RowKit Go.Great Go.Proofs Go.Sort
theorem so_ins_nil (p:Option Addr) (cap:Nat) (w:World) :
  Calls Tryz.prog 132 #[.slice p 0 cap,.int .i64 0,.int .i64 0] w fun e w'=>e=.returned (.tuple #[])∧w'=w:=by
 go_enter Tryz.func132,Tryz.ntmps132
 go_wp2
 refine wp_loop_rounds 1 ?_
 rw[rounds_succ]
 go_wp2
 go_end0
 exact⟨rfl,rfl⟩
theorem so_pdq_nil (p:Option Addr) (cap:Nat) (w:World) :
  Calls Tryz.prog 126 #[.slice p 0 cap,.int .i64 0,.int .i64 0,.int .i64 0] w fun e w'=>e=.returned (.tuple #[])∧w'=w:=by
 go_enter Tryz.func126,Tryz.ntmps126
 go_wp2
 refine wp_loop_rounds 1 ?_
 rw[rounds_succ]
 go_wp2_with (first|(go_at_call 132;refine (so_ins_nil p cap _).mono ?_;rintro e w' ⟨rfl,rfl⟩))
 refine bodyPost_ret (results_none rfl _ _ _) rfl ?_
 exact⟨rfl,rfl⟩
theorem so_Sort_nil (p:Option Addr) (cap:Nat) (w:World) :
  Calls Tryz.prog 108 #[.slice p 0 cap] w fun e w'=>e=.returned (.tuple #[])∧w'=w:=by
 have hLen:∀w,Calls Tryz.prog 127 #[.int .u64 0] w fun e w'=>e=.returned (.int .i64 0)∧w'=w:=fun w=>kBitsLen 0 w (by omega) (by omega)
 go_enter Tryz.func108,Tryz.ntmps108
 go_wp2_with (first
  | (go_at_call 127;refine (hLen _).mono ?_;rintro e w' ⟨rfl,rfl⟩)
  | (go_at_call 126;refine (so_pdq_nil p cap _).mono ?_;rintro e w' ⟨rfl,rfl⟩))
 go_end0
 exact⟨rfl,rfl⟩
theorem so_holds {w:World} {g n:Nat} {cur:Array Value} {e:TypeId} {zs:List Int} (hb:w.heap[g]? = some (.cells cur e (0,0))) (hn:n=zs.length) (ht:cur.toList.take n=zs.map encU):Holds encU w g 0 zs.toArray:=by
 subst hn
 intro j hj
 have hj':j<zs.length:=by simpa using hj
 refine⟨?_,by simp[World.frozen?,hb]⟩
 have h1:(cur.toList.take zs.length)[j]? = (zs.map encU)[j]?:=by rw[ht]
 rw[List.getElem?_take_of_lt hj'] at h1
 simp only[World.cell?,hb,Nat.zero_add]
 simp only[Option.isSome_none,Bool.false_eq_true,if_false]
 rw[←Array.getElem?_toList,h1]
 simp[hj']
theorem so_heap {w:World} {g n:Nat} {os:Array Obj} {cur:Array Value} {e:TypeId} {fr:Nat × Nat} (d:Array Int) (hb:w.heap[g]? = some (.cells cur e fr)) :
  (grow (putRow encU (Sort.ahead w n) g 0 d) os).heap[g]? = some (.cells (putCells encU 0 d cur) e fr):=by
 have hg:g<w.heap.size:=(Array.getElem?_eq_some_iff.1 hb).1
 rw[heap_grow_old _ _ (by simpa using hg)]
 simp[putRow,mapBlock,Sort.ahead,Array.getElem?_modify,hb,onCells]
theorem so_grown {w:World} {g n:Nat} {os:Array Obj} (d:Array Int):w.grownBy (grow (putRow encU (Sort.ahead w n) g 0 d) os) (some g):=by
 refine⟨rfl,rfl,rfl,by simp,fun k hk hne=>?_⟩
 rw[heap_grow_old _ _ (by simpa using hk)]
 have:g≠k:=fun e=>hne (by rw[e])
 simp[putRow,mapBlock,Sort.ahead,Array.getElem?_modify,this]
theorem so_take (cur:Array Value) (ts:List Int) (h:ts.length≤cur.size):(putCells encU 0 ts.toArray cur).toList.take ts.length=ts.map encU:=by
 apply List.ext_getElem?
 intro j
 by_cases hj:j<ts.length
 ·rw[List.getElem?_take_of_lt hj,Array.getElem?_toList]
  simp[putCells,hj,show j<cur.size by omega]
 ·rw[List.getElem?_take_eq_none (by omega),List.getElem?_eq_none (by simp;omega)]
theorem flatU (S:List UInt64):S.flatMap u64C=(S.map (fun m=>(m.toNat:Int))).map encU:=by
 induction S with
 | nil=>rfl
 | cons x t ih=>rw[List.flatMap_cons,ih];rfl
def sortU (S:List UInt64):List UInt64:=S.mergeSort (fun x y=>decide (x.toNat≤y.toNat))
theorem sortU_int (S:List UInt64):((S.map (fun m=>(m.toNat:Int))).mergeSort fun x y=>decide (x≤y))=(sortU S).map (fun m=>(m.toNat:Int)):=by
 unfold sortU
 rw[List.map_mergeSort]
 intro a _ b _
 simp
theorem sortU_mem (S:List UInt64) (x:UInt64):x∈sortU S↔x∈S:=List.mem_mergeSort
theorem sortU_le (S:List UInt64):(sortU S).Pairwise (fun x y=>x.toNat≤y.toNat):=by
 have h:=List.pairwise_mergeSort (le:=fun x y:UInt64=>decide (x.toNat≤y.toNat)) (fun a b c h1 h2=>by simp at *;omega) (fun a b=>by simp;omega) S
 exact h.imp (fun h=>by simpa using h)
theorem kCollect_any (v:Value) (S:List UInt64) (Bs:Nat) (w:World) (hS:S.length≤1000000) (hB:w.cell? ⟨Bs,0,none⟩=some v) (hBl:Bs<w.heap.size) (hv:SG u64C 1 w w.heap.size v S) :
  Calls Tryz.prog 107 #[.func (.func 109) #[] #[.pointer (some ⟨Bs,0,none⟩)]] w fun e w'=>∃r,e=.returned r∧OG 23 u64C 1 w' w.heap.size r S∧Below w.heap.size w w':=by
 have HA:=Lib.hid (kAppendSeq_any v S Bs w hS hB hBl hv)
 clear hv hB
 go_enter Tryz.func107,Tryz.ntmps107
 go_wp2_with (go_at_call 125;refine HA.out.mono ?_;rintro _ w2 ⟨r,rfl,ho,hb⟩)
 go_ret
 exact⟨r,rfl,ho,hb⟩
theorem kSorted_any (v:Value) (S:List UInt64) (Bs:Nat) (w:World) (hS:S.length≤1000000) (hB:w.cell? ⟨Bs,0,none⟩=some v) (hBl:Bs<w.heap.size) (hv:SG u64C 1 w w.heap.size v S) :
  Calls Tryz.prog 86 #[.func (.func 109) #[] #[.pointer (some ⟨Bs,0,none⟩)]] w fun e w'=>∃r,e=.returned r∧OG 23 u64C 1 w' w.heap.size r (sortU S)∧Below w.heap.size w w':=by
 have HA:=Lib.hid (kCollect_any v S Bs w hS hB hBl hv)
 clear hv hB
 go_enter Tryz.func86,Tryz.ntmps86
 go_upto_region 2 with (go_at_call 107;refine HA.out.mono ?_;rintro _ w2 ⟨r,rfl,ho,hb⟩)
 have hsl:(sortU S).length=S.length:=by simp[sortU]
 rcases id ho.2 with ⟨rfl,hz⟩|⟨g,cap,cur,rfl,hbase,hgb,r1,r2,r3,r4⟩
 ·have hS0:S=[]:=List.eq_nil_of_length_eq_zero hz
  subst hS0
  go_wp2_with (go_at_call 108;refine (so_Sort_nil none 0 w2).mono ?_;rintro _ w3 ⟨rfl,rfl⟩)
  go_ret
  refine⟨.slice none 0 0,rfl,?_,hb⟩
  rw[show sortU []=[] from by simp[sortU]]
  exact ho
 ·have hH:Holds encU w2 g 0 (S.map (fun m=>(m.toNat:Int))).toArray:=so_holds hgb (n:=S.length) (by simp) (by rw[←flatU];simpa using r4)
  have hc:=so_Sort g 0 cap (S.map (fun m=>(m.toNat:Int))) w2 hH (Array.getElem?_eq_some_iff.1 hgb).1 (by simp;omega)
  rw[List.length_map,sortU_int] at hc
  have HC:=Lib.hid hc
  have HT:=Lib.hid (And.intro hgb (And.intro r1 (And.intro r2 (And.intro r3 (And.intro hbase (And.intro hb (And.intro ho hsl)))))))
  clear hc hgb r1 r2 r3 r4 hH ho hb hsl
  go_wp2_with (go_at_call 108;refine HC.out.mono ?_;rintro _ w3 ⟨rfl,hw⟩;have HW:=Lib.hid hw;clear hw)
  obtain⟨hgb,r1,r2,r3,hbase,hb,ho,hsl⟩:=HT.out
  go_ret
  obtain⟨n,os,rfl⟩:=HW.out
  refine⟨.slice (some ⟨g,0,none⟩) S.length cap,rfl,⟨by rw[flat_length u64C 1 u64C_length],.inr ⟨g,cap,_,by rw[hsl],hbase,so_heap _ hgb,by rw[hsl];exact r1,r2,by simp[putCells,r3],?_⟩⟩,?_⟩
  ·rw[flatU,Nat.mul_one,←so_take cur _ (by rw[List.length_map,hsl,r3];omega),List.length_map]
  ·exact hb.grown (so_grown _) hb.size (fun k e=>by injection e with e;omega)
theorem so_sisNaN (x:Int) (w:World):Calls Tryz.prog 111 #[.int .u64 x] w fun e w'=>e=.returned (.bool false)∧w'=w:=by
 go_enter Tryz.func111,Tryz.ntmps111
 go_wp2
 go_ret
 exact⟨by simp,rfl⟩
def BinOk (S:List UInt64) (t:UInt64) (k:Nat):Prop:=k≤S.length∧(∀j (h:j<S.length),j<k→S[j].toNat<t.toNat)∧(∀j (h:j<S.length),k≤j→t.toNat≤S[j].toNat)
theorem kBin_any (v:Value) (S:List UInt64) (t:UInt64) (w:World) (hv:SG u64C 1 w w.heap.size v S) (hs:S.Pairwise (fun x y=>x.toNat≤y.toNat)) (hl:S.length≤1000000) :
  Calls Tryz.prog 89 #[v,.int .u64 (t.toNat:Int)] w fun e w'=>∃(k:Nat) (f:Bool),e=.returned (.tuple #[.int .i64 (k:Int),.bool f])∧BinOk S t k∧Below w.heap.size w w':=by
 obtain⟨A,c,rfl,hc,hc2⟩:=hv.form
 have HV:=Lib.hid hv
 have HS:=Lib.hid hs
 obtain⟨n,hn⟩:∃n,n=S.length:=⟨_,rfl⟩
 rw[←hn] at HV hc ⊢
 have HN:=Lib.hid hn
 have hl2:n≤1000000:=by omega
 clear hv hs hn hl
 go_enter Tryz.func89,Tryz.ntmps89
 go_wp2_with fail
 go_loopw [7,8] (fun s7 s8 wr=>∃lo hi:Nat,s7=.int .i64 lo∧s8=.int .i64 hi∧lo≤hi∧hi≤n∧Below w.heap.size w wr∧Hid ((∀j (h:j<S.length),j<lo→S[j].toNat<t.toNat)∧(∀j (h:j<S.length),hi≤j→t.toNat≤S[j].toNat))) (fun s7 s8 _=>(intOf s8).toNat-(intOf s7).toNat)
 case atStart=>exact⟨0,n,rfl,rfl,Nat.zero_le _,Nat.le_refl _,bself w,Lib.hid ⟨fun j _ h=>by omega,fun j h h2=>by have:=HN.out;omega⟩⟩
 case round =>
  obtain⟨lo,hi,rfl,rfl,hlh,hin,hbr,I⟩:=hrel
  by_cases hlt:lo<hi
  ·obtain⟨b,o,k',e,hb,_⟩:=HV.out.at_ u64C_length (by have:=HN.out;omega)
   injection e with e1 e2 e3
   subst e1;subst e3
   clear e2
   obtain⟨m,hm⟩:∃m,m=(lo+hi)/2:=⟨_,rfl⟩
   have hmS:m<S.length:=by have:=HN.out;omega
   have cM:=(hbr.cell (p:=⟨b,o+m,none⟩) hb).trans (HV.out.num hmS)
   have gm:((lo:Int)+(hi:Int))/2=(m:Int):=by omega
   have hmn:m<n:=by omega
   have hml:lo≤m∧m<hi:=by omega
   obtain⟨x,hx⟩:∃x,x=S[m]:=⟨_,rfl⟩
   rw[←hx] at cM
   have HX:=Lib.hid hx
   clear hx
   have hxt:=u64_lt x
   have htt:=u64_lt t
   clear hm
   cases hq:ltInt (x.toNat:Int) (t.toNat:Int) with
   | true =>
    have HL:Hid (∀W,Calls Tryz.prog 110 #[.int .u64 (x.toNat:Int),.int .u64 (t.toNat:Int)] W fun e w'=>e=.returned (.bool true)∧w'=W):=Lib.hid (fun W=>by have h:=so_cmp_Less_int (x.toNat:Int) (t.toNat:Int) W;rwa [hq] at h)
    have hlt2:x.toNat<t.toNat:=by unfold ltInt at hq;simpa using hq
    have HQ:=Lib.hid hlt2
    clear hq hlt2
    go_wp2_with (go_at_call 110;refine (HL.out _).mono ?_;rintro _ w2 ⟨rfl,rfl⟩)
    go_roundw
    case rel =>
     refine⟨m+1,hi,by go_num,rfl,by omega,hin,hbr,Lib.hid ⟨fun j hj h2=>?_,I.out.2⟩⟩
     have h3:S[j].toNat≤S[m].toNat:=by
      rcases Nat.lt_or_ge j m with h4|h4
      ·exact List.pairwise_iff_getElem.1 HS.out j m hj hmS h4
      ·have:j=m:=by omega
       subst this;exact Nat.le_refl _
     have h5:=HQ.out
     rw[HX.out] at h5
     omega
    case measure=>simp[intOf];omega
   | false =>
    have HL:Hid (∀W,Calls Tryz.prog 110 #[.int .u64 (x.toNat:Int),.int .u64 (t.toNat:Int)] W fun e w'=>e=.returned (.bool false)∧w'=W):=Lib.hid (fun W=>by have h:=so_cmp_Less_int (x.toNat:Int) (t.toNat:Int) W;rwa [hq] at h)
    have hlt2:¬x.toNat<t.toNat:=by unfold ltInt at hq;simpa using hq
    have HQ:=Lib.hid hlt2
    clear hq hlt2
    go_wp2_with (go_at_call 110;refine (HL.out _).mono ?_;rintro _ w2 ⟨rfl,rfl⟩)
    go_roundw
    case rel =>
     refine⟨lo,m,rfl,rfl,by omega,by omega,hbr,Lib.hid ⟨I.out.1,fun j hj h2=>?_⟩⟩
     have h3:S[m].toNat≤S[j].toNat:=by
      rcases Nat.lt_or_ge m j with h4|h4
      ·exact List.pairwise_iff_getElem.1 HS.out m j hmS hj h4
      ·have:j=m:=by omega
       subst this;exact Nat.le_refl _
     have h5:=HQ.out
     rw[HX.out] at h5
     omega
    case measure=>simp[intOf];omega
  ·obtain rfl:hi=lo:=by omega
   by_cases hkn:hi<n
   ·obtain⟨b,o,k',e,hb,_⟩:=HV.out.at_ u64C_length (by have:=HN.out;omega)
    injection e with e1 e2 e3
    subst e1;subst e3
    clear e2
    have hmS:hi<S.length:=by have:=HN.out;omega
    have cM:=(hbr.cell (p:=⟨b,o+hi,none⟩) hb).trans (HV.out.num hmS)
    obtain⟨x,hx⟩:∃x,x=S[hi]:=⟨_,rfl⟩
    rw[←hx] at cM
    clear hx
    cases he:((x.toNat:Int)==(t.toNat:Int)) with
    | true =>
     go_wp2_with fail
     exact bodyPost_ret (v:=.tuple #[.int .i64 (hi:Int),.bool true]) (by simp[results,Tryz.results89,go_sem]) rfl ⟨hi,_,rfl,⟨by have:=HN.out;omega,I.out⟩,hbr⟩
    | false =>
     go_wp2_with (go_at_call 111;refine (so_sisNaN _ _).mono ?_;rintro _ w2 ⟨rfl,rfl⟩)
     exact bodyPost_ret (v:=.tuple #[.int .i64 (hi:Int),.bool false]) (by simp[results,Tryz.results89,go_sem]) rfl ⟨hi,_,rfl,⟨by have:=HN.out;omega,I.out⟩,hbr⟩
   ·go_wp2_with fail
    exact bodyPost_ret (v:=.tuple #[.int .i64 (hi:Int),.bool false]) (by simp[results,Tryz.results89,go_sem]) rfl ⟨hi,_,rfl,⟨by have:=HN.out;omega,I.out⟩,hbr⟩
end Go.Proofs.YtchjknbideoieaaGreatDoor
