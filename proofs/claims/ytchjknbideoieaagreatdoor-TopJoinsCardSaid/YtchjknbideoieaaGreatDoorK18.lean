/- What is proved here: what the library's sort comes to at uint64, at this seat's numbers (WalkA14; the walk follows the kit's own one at int). what the library's sort comes to at uint64, at this seat's numbers (Walk7a; the walk follows the kit's own one at int). what the library's sort comes to at uint64, at this seat's numbers (Walk7; the walk follows the kit's own one at .. -/
import Derived.Sort.AssemblyPlain
import Derived.Sort.Walk0
import Derived.Sort.Walk11
import Derived.Sort.Walk13
import Derived.Sort.Walk7
import Derived.Sort.Walk7a
import Derived.Sort.WalkA
import Derived.Sort.WalkA14
import Derived.Sort.WalkA6
import Derived.Sort.WalkB12
import Derived.Sort.WalkB2
import Derived.Sort.WalkB3
import Derived.Sort.WalkC
import Derived.Sort.WalkC4
import Derived.Sort.WalkD1
import Derived.Sort.WalkD2
import Derived.Test.YtchjknbideoieaaGreatDoorK06
import Derived.Test.YtchjknbideoieaaGreatDoorK07
import Derived.Test.YtchjknbideoieaaGreatDoorK17
namespace Go.Proofs.YtchjknbideoieaaGreatDoor
set_option maxRecDepth 100000
set_option maxHeartbeats 8000000
open Go.RowKit Go.Sort
def so_pdqW:Prop:=∀(blk off cap a b limit:Nat) (d:Array Int) (w:World),Holds encU w blk off d→blk<w.heap.size→a≤b→b≤d.size→d.size<4611686018427387904→limit<4611686018427387904→Below ltInt a b d →
 Calls Tryz.prog 126 #[.slice (some ⟨blk,off,none⟩) d.size cap,.int .i64 a,.int .i64 b,.int .i64 limit] w fun e w'=>e=.returned (.tuple #[])∧∃n os,w'=grow (putRow encU (Sort.ahead w n) blk off (Sort.pdq ltInt d a b limit true true)) os
theorem so_Sort_int (hpdq:so_pdqW) (blk off cap:Nat) (d:Array Int) (w:World) (hH:Holds encU w blk off d) (hblk:blk<w.heap.size) (hsz:d.size<4611686018427387904) :
  Calls Tryz.prog 108 #[.slice (some ⟨blk,off,none⟩) d.size cap] w fun e w'=>e=.returned (.tuple #[])∧∃n os,w'=grow (putRow encU (Sort.ahead w n) blk off (Sort.sort ltInt d)) os:=by
 have HH:Hid (Holds encU w blk off d):=hH
 clear hH
 have hLen:∀w,Calls Tryz.prog 127 #[.int .u64 (d.size:Int)] w fun e w'=>e=.returned (.int .i64 (bitsLen d.size:Nat))∧w'=w:=fun w=>by
  have h:=kBitsLen (d.size:Int) w (by omega) (by omega)
  rwa [Int.toNat_natCast,bitLen_eq _ (by omega)] at h
 have hk:bitsLen d.size≤62:=(bitsLen_le_iff d.size 62).2 (by omega)
 go_enter Tryz.func108,Tryz.ntmps108
 go_wp2_with (first
  | (go_at_call 127;refine (hLen _).mono ?_;rintro e w' ⟨rfl,rfl⟩)
  | (go_at_call 126;refine (hpdq blk off cap 0 d.size (bitsLen d.size) d _ (by exact HH.out) (by exact hblk) (Nat.zero_le _) (Nat.le_refl _) hsz (by omega) (Or.inl rfl)).mono ?_;rintro e w' ⟨rfl,n,os,rfl⟩))
 go_end0
 exact⟨rfl,n,os,rfl⟩
end Go.Proofs.YtchjknbideoieaaGreatDoor
namespace Go.Proofs.YtchjknbideoieaaGreatDoor
set_option maxRecDepth 100000
set_option maxHeartbeats 8000000
open Go.RowKit Go.Sort
theorem so_xorshift_Next (rb ro X:Nat) (hX:X<18446744073709551616) (w:World) (hc:w.cell? ⟨rb,ro,none⟩=some (.int .u64 X)) (hf:w.frozen? ⟨rb,ro,none⟩=false) :
  Calls Tryz.prog 150 #[.pointer (some ⟨rb,ro,none⟩)] w fun e w'=>e=.returned (.int .u64 (xorNextN X:Nat))∧w'=(w.setCell ⟨rb,ro,none⟩ (.int .u64 (xorNextN X:Nat))).drewN 3:=by
 obtain⟨A,hA⟩:∃A:Nat,A=X ^^^ (X*8192%18446744073709551616):=⟨_,rfl⟩
 obtain⟨B,hB⟩:∃B:Nat,B=A ^^^ (A/128):=⟨_,rfl⟩
 obtain⟨C,hC⟩:∃C:Nat,C=B ^^^ (B*131072%18446744073709551616):=⟨_,rfl⟩
 have lA:A<18446744073709551616:=by rw[hA];exact Nat.xor_lt_two_pow (n:=64) (by omega) (by omega)
 have lB:B<18446744073709551616:=by rw[hB];exact Nat.xor_lt_two_pow (n:=64) (by omega) (by omega)
 have e1:bits .xor .u64 (X:Int) (IntKind.u64.wrap ((X:Int)*8192))=(A:Int):=by
  rw[IntKind.wrap_u64,show ((X:Int)*8192%18446744073709551616)=((X*8192%18446744073709551616:Nat):Int) by omega,bits_xor_u64_nat _ _ hX (by omega),hA]
 have e2:bits .xor .u64 (A:Int) ((A:Int)/128)=(B:Int):=by
  rw[show ((A:Int)/128)=((A/128:Nat):Int) by omega,bits_xor_u64_nat _ _ lA (by omega),hB]
 have e3:bits .xor .u64 (B:Int) (IntKind.u64.wrap ((B:Int)*131072))=(C:Int):=by
  rw[IntKind.wrap_u64,show ((B:Int)*131072%18446744073709551616)=((B*131072%18446744073709551616:Nat):Int) by omega,bits_xor_u64_nat _ _ lB (by omega),hC]
 have hv:xorNextN X=C:=by unfold xorNextN;simp only[];rw[←hA,←hB,←hC]
 rw[hv]
 clear hA hB hC hv
 have hss:∀v v',(w.setCell ⟨rb,ro,none⟩ v).setCell ⟨rb,ro,none⟩ v'=w.setCell ⟨rb,ro,none⟩ v':=setCell_setCell w rb ro
 go_enter Tryz.func150,Tryz.ntmps150
 go_wp2
 go_region
 all_goals go_wp2
 all_goals go_region
 all_goals go_wp2
 all_goals go_region
 all_goals go_wp2
 go_ret
 exact⟨rfl,rfl⟩
theorem so_nextPowerOfTwo (n:Nat) (hn:n<4611686018427387904) (w:World) :
  Calls Tryz.prog 149 #[.int .i64 n] w fun e w'=>e=.returned (.int .u64 ((1 <<< bitsLen n:Nat):Int))∧w'=w:=by
 have hLen:∀w,Calls Tryz.prog 127 #[.int .u64 (n:Int)] w fun e w'=>e=.returned (.int .i64 (bitsLen n:Nat))∧w'=w:=fun w=>by
  have h:=kBitsLen (n:Int) w (by omega) (by omega)
  rwa [Int.toNat_natCast,bitLen_eq _ (by omega)] at h
 have hk:bitsLen n≤62:=(bitsLen_le_iff n 62).2 (by omega)
 have hp:=wrap_two_pow (bitsLen n) hk
 go_enter Tryz.func149,Tryz.ntmps149
 go_wp2_with (first|(go_at_call 127;refine (hLen _).mono ?_;rintro e w' ⟨rfl,rfl⟩))
 go_ret
 exact⟨rfl,rfl⟩
end Go.Proofs.YtchjknbideoieaaGreatDoor
namespace Go.Proofs.YtchjknbideoieaaGreatDoor
set_option maxRecDepth 100000
set_option maxHeartbeats 8000000
open Go.RowKit Go.Sort
theorem so_breakPatterns_int_go (blk off cap a L:Nat) (d:Array Int) (w:World) (hH:Holds encU w blk off d) (hblk:blk<w.heap.size) (hb:a+L≤d.size) (hsz:d.size<4611686018427387904) (h8:8≤L) :
  Calls Tryz.prog 134 #[.slice (some ⟨blk,off,none⟩) d.size cap,.int .i64 a,.int .i64 ((a+L:Nat):Int)] w fun e w' =>
   e=.returned (.tuple #[])∧∃n os,w'=grow (putRow encU (Sort.ahead w n) blk off (breakPatterns d a (a+L))) os:=by
 rw[breakPatterns_eq d a L h8]
 obtain⟨M,hM⟩:∃M:Nat,M=1 <<< bitsLen L:=⟨_,rfl⟩
 have hM1:1≤M:=by rw[hM,Nat.one_shiftLeft];exact Nat.two_pow_pos _
 have hM2:M≤2*L:=by rw[hM,Nat.one_shiftLeft];exact two_pow_bitsLen_le (by omega)
 have hNP:∀w,Calls Tryz.prog 149 #[.int .i64 (L:Int)] w fun e w'=>e=.returned (.int .u64 (M:Int))∧w'=w:=by rw[hM];exact fun w=>so_nextPowerOfTwo L (by omega) w
 rw[←hM]
 clear hM
 have HH:Hid (Holds encU w blk off d):=hH
 have HST:Hid (w.alloc (Obj.cells #[.int .u64 (L:Int)] 236)=grow (putRow encU (Sort.ahead w 0) blk off d) #[Obj.cells #[.int .u64 ((UInt64.ofNat L).toNat:Int)] 236]):=by
  show _=_
  rw[show Sort.ahead w 0=w from rfl,putRow_self _ _ _ _ _ hH,alloc_eq_grow,show (UInt64.ofNat L).toNat=L from by simp;omega]
 clear hH
 go_enter Tryz.func134,Tryz.ntmps134
 go_wp2_with (first|(go_at_call 149;rw[show ((a:Int)+(L:Int)-(a:Int))=(L:Int) by omega];refine (hNP _).mono ?_;rintro e w' ⟨rfl,rfl⟩))
 go_loopw [9] (fun vi wr=>∃(t n:Nat) (r:UInt64) (dk:Array Int),vi=.int .i64 ((a+L/4*2-1+t:Nat):Int)∧t≤3∧dk.size=d.size ∧
   wr=grow (putRow encU (Sort.ahead w n) blk off dk) #[Obj.cells #[.int .u64 (r.toNat:Int)] 236] ∧
   bpRest a L M (a+L/4*2-1) (3-t) t (r,dk)=bpRest a L M (a+L/4*2-1) 3 0 (UInt64.ofNat L,d)) (fun vi _=>a+L/4*2+3-(intOf vi).toNat)
 case atStart=>exact⟨0,0,UInt64.ofNat L,d,by congr 1;omega,by omega,rfl,HST.out,rfl⟩
 case round =>
  obtain⟨t,n,r,dk,rfl,ht,hsk,hw,hR⟩:=hrel
  obtain⟨R,hRr⟩:∃R:Nat,R=r.toNat:=⟨_,rfl⟩
  have lR:R<18446744073709551616:=by rw[hRr];exact r.toNat_lt
  obtain⟨R',hR'⟩:∃R':Nat,R'=xorNextN R:=⟨_,rfl⟩
  have lR':R'<18446744073709551616:=by rw[hR'];exact xorNextN_lt R lR
  obtain⟨O,hO⟩:∃O:Nat,O=R' &&& (M-1):=⟨_,rfl⟩
  have lO:O≤M-1:=by rw[hO];exact Nat.and_le_right
  have eAnd:bits .and .u64 (R':Int) ((M:Int)-1)=(O:Int):=by
   rw[show ((M:Int)-1)=((M-1:Nat):Int) by omega,bits_and_u64_nat _ _ lR' (by omega),hO]
  obtain⟨G,hG⟩:∃G:Nat→Int,∀x,G x=dk[x]!:=⟨fun x=>dk[x]!,fun _=>rfl⟩
  have hz:(putRow encU (Sort.ahead w n) blk off dk).heap.size=w.heap.size:=by simp
  have hcw:∀x,x<d.size→wr.cell? ⟨blk,off+x,none⟩=some (.int .u64 (G x)):=fun x hx=>by
   rw[hw,cell?_grow _ _ _ (by rw[hz];exact hblk),hG];exact cell?_putRow _ _ _ _ d dk (holds_ahead _ _ _ _ _ _ HH.out) hsk x (by omega)
  have hfw:∀x,x<d.size→wr.frozen? ⟨blk,off+x,none⟩=false:=fun x hx=>by
   rw[hw,frozen?_grow _ _ _ (by rw[hz];exact hblk),frozen?_putRow];exact ((holds_ahead _ _ n _ _ _ HH.out) x hx).2
  have hcB:wr.cell? ⟨w.heap.size,0,none⟩=some (.int .u64 (R:Int)):=by rw[hw,hRr,←hz];exact grow_one_cell _ _ _
  have hfB:wr.frozen? ⟨w.heap.size,0,none⟩=false:=by rw[hw,←hz];exact grow_one_frozen _ _ _
  have hNext:Calls Tryz.prog 150 #[.pointer (some ⟨w.heap.size,0,none⟩)] wr fun e w'=>e=.returned (.int .u64 (R':Int))∧w'=(wr.setCell ⟨w.heap.size,0,none⟩ (.int .u64 (R':Int))).drewN 3:=by
   rw[hR'];exact so_xorshift_Next _ _ R lR wr hcB hfB
  have HW:Hid (wr=grow (putRow encU (Sort.ahead w n) blk off dk) #[Obj.cells #[.int .u64 (r.toNat:Int)] 236]):=hw
  have HG:Hid (∀x,G x=dk[x]!):=hG
  have HR:Hid (bpRest a L M (a+L/4*2-1) (3-t) t (r,dk)=bpRest a L M (a+L/4*2-1) 3 0 (UInt64.ofNat L,d)):=hR
  have HN:Hid (R'=(xorNext r).toNat∧O=(xorNext r).toNat &&& (M-1)):=by
   have e:R'=(xorNext r).toNat:=by rw[hR',hRr,xorNext_toNat]
   exact⟨e,by rw[hO,e]⟩
  clear hw hG hR hRr hR' hO
  go_wp2_with (first|(go_at_call 150;refine hNext.mono ?_;rintro e w' ⟨rfl,rfl⟩))
  ·
   have hLO:L≤O:=by omega
   by_cases hEq:a+L/4*2-1+t=a+(O-L)
   all_goals
    go_region
    all_goals go_wp2
    go_roundw
    case rel =>
     refine⟨t+1,n+4,xorNext r,swp dk (a+L/4*2-1+t) (a+(O-L)),by first|rfl|(congr 1 <;> omega),by omega,by rw[size_swp];exact hsk,?_,?_⟩
     ·(try rw[hEq])
      rw[HW.out,HN.out.1]
      simp only[HG.out]
      exact step_world encU w n 4 blk off dk _ _ hblk (by omega) (by omega) _ _ _
     ·rw[←HR.out,bp_step a L M _ t r dk (O-L) (by omega) (by rw[←HN.out.2,if_pos (by omega)])]
    case measure=>simp[intOf];omega
  ·have hLO:¬L≤O:=by omega
   by_cases hEq:a+L/4*2-1+t=a+O
   all_goals
    go_region
    all_goals go_wp2
    go_roundw
    case rel =>
     refine⟨t+1,n+4,xorNext r,swp dk (a+L/4*2-1+t) (a+O),by first|rfl|(congr 1 <;> omega),by omega,by rw[size_swp];exact hsk,?_,?_⟩
     ·(try rw[hEq])
      rw[HW.out,HN.out.1]
      simp only[HG.out]
      exact step_world encU w n 4 blk off dk _ _ hblk (by omega) (by omega) _ _ _
     ·rw[←HR.out,bp_step a L M _ t r dk O (by omega) (by rw[←HN.out.2,if_neg (by omega)])]
    case measure=>simp[intOf];omega
  ·
   obtain rfl:t=3:=by omega
   go_end0
   exact⟨rfl,n,_,by rw[←HR.out,HW.out];rfl⟩
theorem so_breakPatterns_int (blk off cap a b:Nat) (d:Array Int) (w:World) (hH:Holds encU w blk off d) (hblk:blk<w.heap.size) (hab:a≤b) (hb:b≤d.size) (hsz:d.size<4611686018427387904) :
  Calls Tryz.prog 134 #[.slice (some ⟨blk,off,none⟩) d.size cap,.int .i64 a,.int .i64 b] w fun e w' =>
   e=.returned (.tuple #[])∧∃n os,w'=grow (putRow encU (Sort.ahead w n) blk off (breakPatterns d a b)) os:=by
 obtain⟨L,rfl⟩:∃L,b=a+L:=⟨b-a,by omega⟩
 by_cases h8:8≤L
 ·exact so_breakPatterns_int_go blk off cap a L d w hH hblk hb hsz h8
 ·have hv:breakPatterns d a (a+L)=d:=by unfold breakPatterns;simp only[Nat.add_sub_cancel_left];rw[if_neg h8]
  rw[hv]
  have HST:Hid (w=grow (putRow encU (Sort.ahead w 0) blk off d) #[]):=by
   show _=_
   rw[grow_empty,show Sort.ahead w 0=w from rfl,putRow_self _ _ _ _ _ hH]
  clear hH
  go_enter Tryz.func134,Tryz.ntmps134
  go_wp2
  go_end0
  exact⟨rfl,0,#[],HST.out⟩
end Go.Proofs.YtchjknbideoieaaGreatDoor
namespace Go.Proofs.YtchjknbideoieaaGreatDoor
set_option maxRecDepth 100000
set_option maxHeartbeats 8000000
open Go.RowKit Go.Sort
theorem so_plain13:Plain13 where
 swo:=swo_ltInt
 ins:=insertionSort_holds
 par:=partialInsertionSort_holds
 prt:=partition_holds _
 peq:=partitionEqual_holds _
 pdq:=pdq_sorts _
set_option maxRecDepth 1000000 in
theorem so_pdqsort_int:∀(N blk off cap a b limit:Nat) (d:Array Int) (w:World),b-a<N→Holds encU w blk off d→blk<w.heap.size→a≤b→b≤d.size→d.size<4611686018427387904→limit<4611686018427387904→Below ltInt a b d →
  Calls Tryz.prog 126 #[.slice (some ⟨blk,off,none⟩) d.size cap,.int .i64 a,.int .i64 b,.int .i64 limit] w fun e w'=>e=.returned (.tuple #[])∧At encU w blk off (pdq ltInt d a b limit true true) w':=by
 have S:=so_plain13
 intro N
 induction N with
 | zero=>intro _ _ _ _ _ _ _ _ h;exact absurd h (Nat.not_lt_zero _)
 | succ N ih =>
  intro blk off cap a b limit d w hN hH hblk hab hb hsz hlimit hBel0
  go_enter Tryz.func126,Tryz.ntmps126
  go_wp2
  go_loopg [1,2,3,8,9] (b-a) (fun k s1 s2 s3 s8 s9 wr=>∃(a' b' lim:Nat) (wb wp:Bool) (dk:Array Int),s1=.int .i64 a'∧s2=.int .i64 b'∧s3=.int .i64 lim∧s8=.bool wb∧s9=.bool wp ∧
   a'≤b'∧b'≤d.size∧b'-a'≤k∧k≤b-a∧lim≤limit∧dk.size=d.size∧Below ltInt a' b' dk∧At encU w blk off dk wr∧pdq ltInt dk a' b' lim wb wp=pdq ltInt d a b limit true true)
  case atStart=>exact⟨a,b,limit,true,true,d,rfl,rfl,rfl,rfl,rfl,hab,hb,Nat.le_refl _,Nat.le_refl _,Nat.le_refl _,rfl,hBel0,At.refl hH,rfl⟩
  case round =>
   obtain⟨a',b',lim,wb,wp,dk,rfl,rfl,rfl,rfl,rfl,hab',hb',hk,hkN,hlim,hds,hBel,hAt,heq⟩:=hrel
   obtain⟨hHk,hblk'⟩:=hAt.holds hH hds hblk
   have A:Aside (pdq ltInt dk a' b' lim wb wp=pdq ltInt d a b limit true true):=heq
   clear heq
   by_cases h12:b'-a'≤12
   ·
    have h12z:(b':Int)-(a':Int)≤12:=by omega
    have hc:=so_insertionSort_int blk off cap a' b' dk wr hHk hab' (by omega) (by omega)
    rw[hds] at hc
    go_wp2_with (go_at_call 132;refine hc.mono ?_;rintro e w1 ⟨rfl,hw1⟩)
    (try simp only[Exit.inBlock,Exit.then]);refine bodyPost_ret (results_none rfl _ _ _) rfl ?_
    refine⟨rfl,?_⟩
    rw[←A.out,pdq_small h12]
    exact hAt.step hblk (S.ins S.swo dk a' b' hab' (by omega)).1.1 hw1
   ·have h12z:¬((b':Int)-(a':Int)≤12):=by omega
    by_cases hl0:lim=0
    ·
     subst hl0
     have hc:=so_heapSort_int blk off d.size cap dk hds a' b' wr hHk hab' (by omega) (by omega)
     go_wp2_with (go_at_call 133;refine hc.mono ?_;rintro e w1 ⟨rfl,hw1⟩)
     (try simp only[Exit.inBlock,Exit.then]);refine bodyPost_ret (results_none rfl _ _ _) rfl ?_
     refine⟨rfl,?_⟩
     rw[←A.out,pdq_heap h12 rfl]
     exact hAt.step hblk (heapSort_holds S.swo dk a' b' hab' (by omega)).1.1 hw1
    ·have hl0z:¬((lim:Int)=0):=by omega
     obtain⟨s1,B1,hc1,s2,B2,hpv,s3,B3⟩:=rd_facts (limit:=lim) (wb:=wb) (wp:=wp) S.swo S.par reverseRange_holds (show a'<b' by omega) (show b'≤dk.size by omega) hBel
     go_upto_if 35 with fail
     go_cut [3] from 19 (fun s3 wc=>s3=.int .i64 (rd ltInt dk a' b' lim wb wp).lim∧At encU w blk off (rd ltInt dk a' b' lim wb wp).d1 wc)
     case first =>
      cases wb
      ·have hc:=so_breakPatterns_int blk off cap a' b' dk wr hHk hblk' hab' (by omega) (by omega)
       rw[hds] at hc
       go_wp2_with (go_at_call 134;refine hc.mono ?_;rintro e w1 ⟨rfl,hw1⟩)
       go_meet
       case rel =>
        refine⟨?_,hAt.stepG hblk s1 hw1⟩
        show Value.int .i64 ((lim:Int)-1)=Value.int .i64 ((lim-1:Nat):Int)
        congr 1
        omega
      ·go_wp2_with fail
       go_meet
       case rel=>exact⟨rfl,hAt⟩
     case rest =>
      obtain⟨rfl,hAt1⟩:=hcut
      obtain⟨hH1,hblk1⟩:=hAt1.holds hH (s1.trans hds) hblk
      have hc17:Calls Tryz.prog 135 #[.slice (some ⟨blk,off,none⟩) d.size cap,.int .i64 a',.int .i64 b'] wc fun e w'=>e=.returned (.tuple #[.int .i64 (rd ltInt dk a' b' lim wb wp).c.1,.int .i64 (hintCode (rd ltInt dk a' b' lim wb wp).c.2)])∧∃n os,w'=grow (Sort.ahead wc n) os:=by
       have:=so_choosePivot_int blk off cap a' b' (rd ltInt dk a' b' lim wb wp).d1 wc hH1 hblk1 (by omega) (by omega) (by omega)
       rw[s1,hds] at this
       exact this
      go_upto_if 50 with (go_at_call 135;refine hc17.mono ?_;rintro e w2 ⟨rfl,hw2⟩)
      have hAt2:At encU w blk off (rd ltInt dk a' b' lim wb wp).d1 w2:=hAt1.same hH (s1.trans hds) hblk hw2
      obtain⟨hH2,hblk2⟩:=hAt2.holds hH (s1.trans hds) hblk
      go_cut [11,12] from 19 (fun s11 s12 wc=>s11=.int .i64 (rd ltInt dk a' b' lim wb wp).pivot∧s12=.int .i64 (hintCode (rd ltInt dk a' b' lim wb wp).hint)∧At encU w blk off (rd ltInt dk a' b' lim wb wp).d2 wc)
      case first =>
       by_cases hh:(rd ltInt dk a' b' lim wb wp).c.2=.decreasing
       ·have hcode:hintCode (rd ltInt dk a' b' lim wb wp).c.2=2:=by rw[hh];rfl
        obtain⟨e2,epv,eht⟩:=rd_dec hh
        have hc18:=so_reverseRange_int blk off cap (rd ltInt dk a' b' lim wb wp).d1 a' b' w2 hH2 hab' (by omega) (by omega)
        rw[s1,hds] at hc18
        go_wp2_with (go_at_call 136;refine hc18.mono ?_;rintro e w3 ⟨rfl,hw3⟩)
        go_meet
        case rel =>
         refine⟨?_,by rw[eht];rfl,by rw[e2];exact hAt2.step hblk (by rw[←e2,s2,s1]) hw3⟩
         rw[epv]
         congr 1
         omega
       ·have hcode:¬(hintCode (rd ltInt dk a' b' lim wb wp).c.2=2):=fun h=>hh (hintCode_two h)
        obtain⟨e2,epv,eht⟩:=rd_not hh
        go_wp2_with fail
        go_meet
        case rel=>exact⟨by rw[epv],by rw[eht],by rw[e2];exact hAt2⟩
      case rest =>
       obtain⟨rfl,rfl,hAt3⟩:=hcut
       obtain⟨hH3,hblk3⟩:=hAt3.holds hH (s2.trans hds) hblk
       go_upto_region 15 with fail
       go_cut [12,68] from 19 (fun s12 s68 wx=>s12=.int .i64 (hintCode (rd ltInt dk a' b' lim wb wp).hint)∧s68=.bool (wb&&wp&&decide ((rd ltInt dk a' b' lim wb wp).hint=.increasing))∧wx=wc)
       case first =>
        cases wb <;> cases wp <;> cases hh3:(rd ltInt dk a' b' lim _ _).hint <;>
         (have hcode3:=congrArg hintCode hh3
          simp only[hintCode] at hcode3
          go_wp2_with fail
          go_meet
          exact⟨by simp[hh3,hintCode],by simp[hh3,hintCode],rfl⟩)
       case rest =>
        obtain⟨rfl,rfl,rfl⟩:=hcut
        go_upto_if 68 with fail
        go_cut [] from 19 (fun wx=>(rd ltInt dk a' b' lim wb wp).pi.2=false∧At encU w blk off (rd ltInt dk a' b' lim wb wp).pi.1 wx)
        case first =>
         cases h68:(wb&&wp&&decide ((rd ltInt dk a' b' lim wb wp).hint=.increasing))
         ·have epi:=rd_pi_no h68
          go_wp2_with fail
          go_meet
          case rel=>exact⟨by rw[epi],by rw[epi];exact hAt3⟩
         ·have epi:=rd_pi_yes h68
          have hc19:=so_partialInsertionSort_int blk off cap a' b' (rd ltInt dk a' b' lim wb wp).d2 wc hH3 (by omega) (by omega) (by omega)
          rw[s2,hds,←epi] at hc19
          go_wp2_with (go_at_call 137;refine hc19.mono ?_;rintro e w4 ⟨rfl,hw4⟩)
          all_goals first
           | (have hp2:(rd ltInt dk a' b' lim wb wp).pi.2=false:=by rw[epi];assumption
              go_meet
              exact⟨hp2,hAt3.step hblk (by rw[s3,s2]) hw4⟩)
           | (have hp2:(rd ltInt dk a' b' lim wb wp).pi.2=true:=by rw[epi];assumption
              (try simp only[Exit.inBlock,Exit.then]);refine bodyPost_ret (results_none rfl _ _ _) rfl ?_
              refine⟨rfl,?_⟩
              rw[←A.out,pdq_done h12 hl0 hp2]
              exact hAt3.step hblk (by rw[s3,s2]) hw4)
        case rest =>
         obtain⟨hp2,hAt5⟩:=hcut
         obtain⟨hH5,hblk5⟩:=hAt5.holds hH (s3.trans hds) hblk
         have hcw:∀t,t<d.size→wc.cell? ⟨blk,off+t,none⟩=some (.int .u64 (rd ltInt dk a' b' lim wb wp).pi.1[t]!):=fun t ht=>(hH5 t (by omega)).1
         have hfw:∀t,t<d.size→wc.frozen? ⟨blk,off+t,none⟩=false:=fun t ht=>(hH5 t (by omega)).2
         go_upto_region 17 with fail
         go_cut [87] from 19 (fun s87 wx=>s87=.bool (decide (a'>0)&&!ltInt (rd ltInt dk a' b' lim wb wp).pi.1[a'-1]! (rd ltInt dk a' b' lim wb wp).pi.1[(rd ltInt dk a' b' lim wb wp).pivot]!)∧At encU w blk off (rd ltInt dk a' b' lim wb wp).pi.1 wx)
         case first =>
          rcases Nat.eq_zero_or_pos a' with ha0|ha0
          ·have ha0z:decide ((a':Int)>0)=false:=decide_eq_false (by omega)
           go_big_quiet (first|(go_at_call 110;refine Calls.quiet_of_same (so_cmp_Less_int _ _ _)))
           go_wp2_with fail
           go_meet
           case rel=>exact⟨by simp[ha0],hAt5.ahead nq⟩
          ·have ha0z:(a':Int)>0:=by omega
           go_big_quiet (first|(go_at_call 110;refine Calls.quiet_of_same (so_cmp_Less_int _ _ _)))
           go_wp2_with fail
           go_meet
           case rel=>exact⟨by simp[ha0],hAt5.ahead nq⟩
         case rest =>
          obtain⟨rfl,hAt6⟩:=hcut
          obtain⟨hH6,hblk6⟩:=hAt6.holds hH (s3.trans hds) hblk
          clear hcw hfw
          cases h87:(decide (a'>0)&&!ltInt (rd ltInt dk a' b' lim wb wp).pi.1[a'-1]! (rd ltInt dk a' b' lim wb wp).pi.1[(rd ltInt dk a' b' lim wb wp).pivot]!)
          ·
           obtain⟨mid,ap,d4,hx⟩:∃mid ap d4,partition ltInt (rd ltInt dk a' b' lim wb wp).pi.1 a' b' (rd ltInt dk a' b' lim wb wp).pivot=(mid,ap,d4):=⟨(partition ltInt (rd ltInt dk a' b' lim wb wp).pi.1 a' b' (rd ltInt dk a' b' lim wb wp).pivot).1,(partition ltInt (rd ltInt dk a' b' lim wb wp).pi.1 a' b' (rd ltInt dk a' b' lim wb wp).pivot).2.1,(partition ltInt (rd ltInt dk a' b' lim wb wp).pi.1 a' b' (rd ltInt dk a' b' lim wb wp).pivot).2.2,rfl⟩
           obtain⟨r1,r2,r3,r4,r5,r6,r7⟩:=round_part S.swo S.prt hpv.1 hpv.2 (show b'≤(rd ltInt dk a' b' lim wb wp).pi.1.size by omega) B3 hx
           have hc22:=so_partitionOrdered_int blk off cap a' b' (rd ltInt dk a' b' lim wb wp).pivot (rd ltInt dk a' b' lim wb wp).pi.1 wc hH6 hpv.1 hpv.2 (by omega) (by omega)
           rw[s3,hds,hx] at hc22
           have X:Aside (partition ltInt (rd ltInt dk a' b' lim wb wp).pi.1 a' b' (rd ltInt dk a' b' lim wb wp).pivot=(mid,ap,d4)):=hx
           clear hx
           go_upto_if 113 with (go_at_call 139;refine hc22.mono ?_;rintro e w7 ⟨rfl,hw7⟩)
           have hx:=X.out
           have hAt7:At encU w blk off d4 w7:=hAt6.step hblk r3 hw7
           obtain⟨hH7,hblk7⟩:=hAt7.holds hH (r3.trans (s3.trans hds)) hblk
           by_cases h4:mid-a'<b'-mid
           ·have h4z:(mid:Int)-(a':Int)<(b':Int)-(mid:Int):=by omega
            have hih:=ih blk off cap a' mid (rd ltInt dk a' b' lim wb wp).lim d4 w7 (by omega) hH7 hblk7 (by omega) (by omega) (by omega) (Nat.lt_of_le_of_lt (Nat.le_trans rd_lim_le hlim) hlimit) r4
            rw[r3,s3,hds] at hih
            obtain⟨pL,sL⟩:=S.pdq S.swo d4 a' mid (rd ltInt dk a' b' lim wb wp).lim true true (by omega) (by omega) r4
            go_wp2_with (go_at_call 126;refine hih.mono ?_;rintro e w8 ⟨rfl,hw8⟩)
            go_roundg (b'-(mid+1))
            case measure=>omega
            case rel =>
             refine⟨mid+1,b',(rd ltInt dk a' b' lim wb wp).lim,decide (mid-a'≥(b'-a')/8),ap,pdq ltInt d4 a' mid (rd ltInt dk a' b' lim wb wp).lim true true,by simp,rfl,rfl,?_,rfl,by omega,by omega,Nat.le_refl _,by omega,Nat.le_trans rd_lim_le hlim,by rw[pL.1,r3,s3,hds],(r6 _ pL sL).1,hAt7.stepG hblk pL.1 hw8,?_⟩
             ·exact congrArg Value.bool (eighth (by omega) (by omega))
             ·rw[←A.out,pdq_left h12 hl0 hp2 h87 (by rw[hx];exact⟨r1,r2⟩) (by rw[hx];exact h4),hx]
           ·have h4z:¬((mid:Int)-(a':Int)<(b':Int)-(mid:Int)):=by omega
            have hih:=ih blk off cap (mid+1) b' (rd ltInt dk a' b' lim wb wp).lim d4 w7 (by omega) hH7 hblk7 (by omega) (by omega) (by omega) (Nat.lt_of_le_of_lt (Nat.le_trans rd_lim_le hlim) hlimit) r5
            rw[r3,s3,hds] at hih
            obtain⟨pL,sL⟩:=S.pdq S.swo d4 (mid+1) b' (rd ltInt dk a' b' lim wb wp).lim true true (by omega) (by omega) r5
            go_wp2_with (go_at_call 126;refine hih.mono ?_;rintro e w8 ⟨rfl,hw8⟩)
            go_roundg (mid-a')
            case measure=>omega
            case rel =>
             refine⟨a',mid,(rd ltInt dk a' b' lim wb wp).lim,decide (b'-mid≥(b'-a')/8),ap,pdq ltInt d4 (mid+1) b' (rd ltInt dk a' b' lim wb wp).lim true true,rfl,rfl,rfl,?_,rfl,by omega,by omega,Nat.le_refl _,by omega,Nat.le_trans rd_lim_le hlim,by rw[pL.1,r3,s3,hds],(r7 _ pL sL).1,hAt7.stepG hblk pL.1 hw8,?_⟩
             ·exact congrArg Value.bool (eighth (by omega) (by omega))
             ·rw[←A.out,pdq_right h12 hl0 hp2 h87 (by rw[hx];exact⟨r1,r2⟩) (by rw[hx];exact h4),hx]
          ·
           have h87':=h87
           simp only[Bool.and_eq_true,decide_eq_true_eq,Bool.not_eq_true'] at h87'
           obtain⟨mid,d4,hx⟩:∃mid d4,partitionEqual ltInt (rd ltInt dk a' b' lim wb wp).pi.1 a' b' (rd ltInt dk a' b' lim wb wp).pivot=(mid,d4):=⟨(partitionEqual ltInt (rd ltInt dk a' b' lim wb wp).pi.1 a' b' (rd ltInt dk a' b' lim wb wp).pivot).1,(partitionEqual ltInt (rd ltInt dk a' b' lim wb wp).pi.1 a' b' (rd ltInt dk a' b' lim wb wp).pivot).2,rfl⟩
           obtain⟨r1,r2,r3,r4,_⟩:=round_eq S.swo S.peq h87'.1 hpv.1 hpv.2 (show b'≤(rd ltInt dk a' b' lim wb wp).pi.1.size by omega) B3 h87'.2 hx
           have hc21:=so_partitionEqualOrdered_int blk off cap a' b' (rd ltInt dk a' b' lim wb wp).pivot (rd ltInt dk a' b' lim wb wp).pi.1 wc hH6 hpv.1 hpv.2 (by omega) (by omega)
           rw[s3,hds,hx] at hc21
           have X:Aside (partitionEqual ltInt (rd ltInt dk a' b' lim wb wp).pi.1 a' b' (rd ltInt dk a' b' lim wb wp).pivot=(mid,d4)):=hx
           clear hx
           go_wp2_with (go_at_call 138;refine hc21.mono ?_;rintro e w7 ⟨rfl,hw7⟩)
           go_roundg (b'-mid)
           case measure=>omega
           case rel =>
            have hx:=X.out
            exact⟨mid,b',(rd ltInt dk a' b' lim wb wp).lim,wb,wp,d4,rfl,rfl,rfl,rfl,rfl,r2,hb',Nat.le_refl _,by omega,Nat.le_trans rd_lim_le hlim,by rw[r3,s3,hds],r4,hAt6.step hblk r3 hw7,by rw[←A.out,pdq_eq h12 hl0 hp2 h87 (by rw[hx];exact⟨r1,r2⟩),hx]⟩
end Go.Proofs.YtchjknbideoieaaGreatDoor
namespace Go.Proofs.YtchjknbideoieaaGreatDoor
set_option maxRecDepth 100000
set_option maxHeartbeats 8000000
open Go.RowKit Go.Sort
theorem so_pdqW_ok:so_pdqW:=fun blk off cap a b limit d w hH hb hab hbd hsz hl hB =>
 so_pdqsort_int (b-a+1) blk off cap a b limit d w (by omega) hH hb hab hbd hsz hl hB
theorem so_Sort (blk off cap:Nat) (zs:List Int) (w:World) (hH:Holds encU w blk off zs.toArray) (hblk:blk<w.heap.size) (hsz:zs.length<4611686018427387904) :
  Calls Tryz.prog 108 #[.slice (some ⟨blk,off,none⟩) zs.length cap] w fun e w' =>
   e=.returned (.tuple #[])∧∃n os,w'=grow (putRow encU (Sort.ahead w n) blk off (zs.mergeSort fun x y=>decide (x≤y)).toArray) os:=by
 have h:=so_Sort_int so_pdqW_ok blk off cap zs.toArray w hH hblk (by simpa using hsz)
 rw[show Sort.sort ltInt zs.toArray=(zs.mergeSort fun x y=>decide (x≤y)).toArray by rw[←sortInt zs]] at h
 simpa using h
end Go.Proofs.YtchjknbideoieaaGreatDoor
