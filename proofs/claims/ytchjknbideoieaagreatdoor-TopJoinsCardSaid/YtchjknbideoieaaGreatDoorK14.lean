/- What is proved here: what check sums come to, at this seat's numbers. Condition: the texts' lengths. what set of package bloom comes to, at this seat's numbers. Condition: the bytes' number. what May of package bloom comes to, at this seat's numbers. Conditions: a filter as Make makes it; the bytes' number. -/
import Derived.Test.YtchjknbideoieaaGreatDoorK06
import Derived.Test.YtchjknbideoieaaGreatDoorK03
import Derived.Test.YtchjknbideoieaaGreatDoorK10
import Derived.Deep.DeepCutAuto
namespace Go.Proofs.YtchjknbideoieaaGreatDoor
set_option maxRecDepth 100000
set_option maxHeartbeats 8000000
open Go.RowKit
theorem w_neg (z:UInt32):-(z.toNat:Int)%4294967296=((0-z).toNat:Int):=by
 have h:=z.toNat_lt
 rw[UInt32.toNat_sub]
 show _=(((4294967296-z.toNat+0)%4294967296:Nat):Int)
 omega
theorem nib_int (y:UInt32):bits .xor .u32 ((y.toNat:Int)/2) (bits .and .u32 2197175160 (-bits .and .u32 (y.toNat:Int) 1%4294967296))=((nibS y).toNat:Int):=by
 have e1:bits .and .u32 (y.toNat:Int) 1=((y &&& 1).toNat:Int):=w_and y 1
 have e2:bits .and .u32 2197175160 ((0-(y &&& 1)).toNat:Int)=((0x82f63b78 &&& (0-(y &&& 1))).toNat:Int):=w_and 0x82f63b78 _
 rw[e1,w_neg,e2,w_shr y 1 (by omega) 2 rfl,w_xor]
 rfl
def nibI:Nat→UInt32→UInt32
 | 0,x=>x
 | k+1,x=>nibS (nibI k x)
theorem kNibble_any (x:UInt32) (w:World):Calls Tryz.prog 122 #[.int .u32 (x.toNat:Int)] w fun e w'=>e=.returned (.int .u32 ((nibW x).toNat:Int))∧w'=w:=by
 go_enter Tryz.func122,Tryz.ntmps122
 go_wp2
 go_loopw [0,3] (fun v i wr=>∃k:Nat,i=.int .i64 k∧k≤4∧v=.int .u32 ((nibI k x).toNat:Int)∧wr=w) (fun _ i _=>4-(intOf i).toNat)
 case atStart=>exact⟨0,rfl,Nat.zero_le _,rfl,rfl⟩
 case round =>
  obtain⟨k,rfl,hk,rfl,rfl⟩:=hrel
  by_cases hlt:k<4
  ·obtain⟨y,hy⟩:∃y,y=nibI k x:=⟨_,rfl⟩
   rw[←hy]
   have HY:=Lib.hid hy
   have hyl:=y.toNat_lt
   clear hy
   go_wp2_with fail
   go_roundw
   case rel =>
    refine⟨k+1,by go_num,by omega,?_,by first|rfl|trivial⟩
    rw[nib_int,nibI,←HY.out]
   case measure=>simp[intOf];omega
  ·have hk4:k=4:=by omega
   subst hk4
   go_wp2_with fail
   go_ret
   exact⟨rfl,rfl⟩
theorem w_not (x:UInt32):bits .xor .u32 IntKind.u32.max (x.toNat:Int)=((~~~x).toNat:Int):=by
 have h:bits .xor .u32 IntKind.u32.max (x.toNat:Int)=((0xffffffff ^^^ x).toNat:Int):=w_xor 0xffffffff x
 rw[h,show (0xffffffff:UInt32)=-1 from rfl,UInt32.neg_one_xor]
theorem kMore_any (s:UInt32) (v:Value) (l:List UInt8) (w:World) (hv:SB w w.heap.size v l) :
  Calls Tryz.prog 103 #[.int .u32 (s.toNat:Int),v] w fun e w'=>e=.returned (.int .u32 ((crcMore s l).toNat:Int))∧w'=w:=by
 obtain⟨A,c,rfl,hc,hm,hr⟩:=hv
 have hm':c≤9223372036854775807:=by unfold maxLen at hm;omega
 have hs:=s.toNat_lt
 have HN:=Lib.hid (fun x=>kNibble_any x w)
 go_enter Tryz.func103,Tryz.ntmps103
 go_wp2
 go_loopw [5,12] (fun x i wr=>∃k:Nat,i=.int .i64 k∧k≤l.length∧x=.int .u32 (((l.take k).foldl crcStep (~~~s)).toNat:Int)∧wr=w) (fun _ i _=>l.length-(intOf i).toNat)
 case atStart =>
  refine⟨0,rfl,Nat.zero_le _,?_,rfl⟩
  rw[List.take_zero,List.foldl_nil,←w_not]
 case round =>
  obtain⟨k,rfl,hk,rfl,rfl⟩:=hrel
  by_cases hlt:k<l.length
  ·obtain⟨b,o,rfl,hb,hcell⟩:=hr.at_ (by omega)
   have c0:=hcell k _ (bv_get l k hlt)
   have hst:(l.take (k+1)).foldl crcStep (~~~s)=crcStep ((l.take k).foldl crcStep (~~~s)) l[k]:=by rw[List.take_succ_eq_append_getElem hlt,List.foldl_append];rfl
   obtain⟨x,hx⟩:∃x,x=l[k]:=⟨_,rfl⟩
   obtain⟨y,hy⟩:∃y,y=(l.take k).foldl crcStep (~~~s):=⟨_,rfl⟩
   rw[←hx] at c0 hst
   rw[←hy] at hst ⊢
   have HS:=Lib.hid hst
   clear hx hy hst hcell
   obtain⟨z,hz⟩:∃z,z=y ^^^ x.toUInt32:=⟨_,rfl⟩
   have gx:bits .xor .u32 (y.toNat:Int) (x.toNat:Int)=(z.toNat:Int):=by rw[hz];exact w_xor y x.toUInt32
   have HZ:=Lib.hid hz
   have gx0:(x.toNat:Int)%4294967296=(x.toNat:Int):=by have:=u8_lt x;omega
   have hyl:=y.toNat_lt
   have hzl:=z.toNat_lt
   clear hz
   go_upto_region 5 with fail
   go_wp2_with fail
   refine (HN.out z).mono ?_
   rintro _ w1 ⟨rfl,rfl⟩
   go_wp2_with fail
   refine (HN.out (nibW z)).mono ?_
   rintro _ w2 ⟨rfl,rfl⟩
   go_wp2_with fail
   go_roundw
   case rel=>exact⟨k+1,by go_num,by omega,by rw[HS.out,crcStep,←HZ.out],by first|rfl|trivial⟩
   case measure=>simp[intOf];omega
  ·have hkl:k=l.length:=by omega
   subst hkl
   go_wp2_with fail
   go_ret
   exact⟨ret_w (by rw[w_not];rfl),by first|rfl|trivial⟩
theorem kCrc_one (g:Nat) (u:Value) (l:List UInt8) (w:World) (hu:SB w w.heap.size u l) (hg:w.cell? ⟨g,0,none⟩=some u) :
  Calls Tryz.prog 81 #[.slice (some ⟨g,0,none⟩) 1 1] w fun e w'=>e=.returned (.int .u32 ((crcMore 0 l).toNat:Int))∧w'=w:=by
 have HM:Hid (Calls Tryz.prog 103 #[.int .u32 0,u] w fun e w'=>e=.returned (.int .u32 ((crcMore 0 l).toNat:Int))∧w'=w):=Lib.hid (kMore_any 0 u l w hu)
 obtain⟨y,hy⟩:∃y,y=crcMore 0 l:=⟨_,rfl⟩
 rw[←hy] at HM ⊢
 have hyl:=y.toNat_lt
 obtain⟨A,c,rfl,_,_,_⟩:=hu
 clear hy
 go_enter Tryz.func81,Tryz.ntmps81
 go_wp2
 go_loopw [3,8] (fun x i wr=>∃k:Nat,i=.int .i64 k∧k≤1∧x=.int .u32 (if k=0 then 0 else (y.toNat:Int))∧wr=w) (fun _ i _=>1-(intOf i).toNat)
 case atStart=>exact⟨0,rfl,Nat.zero_le _,rfl,rfl⟩
 case round =>
  obtain⟨k,rfl,hk,rfl,rfl⟩:=hrel
  by_cases hk0:k=0
  ·subst hk0
   rw[if_pos rfl]
   go_upto_region 5 with fail
   go_wp2_with fail
   refine HM.out.mono ?_
   rintro _ w1 ⟨rfl,rfl⟩
   go_wp2_with fail
   go_roundw
   case rel=>exact⟨1,by go_num,by omega,by rw[if_neg (by omega)],by first|rfl|trivial⟩
   case measure=>simp[intOf]
  ·have hk1:k=1:=by omega
   subst hk1
   rw[if_neg (by omega)]
   go_wp2_with fail
   go_ret
   exact⟨rfl,by first|rfl|trivial⟩
theorem kRotL15 (x:UInt32) (w:World):Calls Tryz.prog 82 #[.int .u32 (x.toNat:Int),.int .i64 15] w (fun e w'=>e=.returned (.int .u32 ((rot15 x).toNat:Int))∧w'=w):=by
 have hx:=x.toNat_lt
 have hb:bits .and .u64 15 31=15:=by decide +kernel
 go_enter Tryz.func82,Tryz.ntmps82
 go_wp2_with fail
 go_ret
 refine⟨ret_w ?_,rfl⟩
 rw[w_shr x 17 (by omega) 131072 rfl,w_shl x 15 (by omega) 32768 rfl,w_or]
 rfl
end Go.Proofs.YtchjknbideoieaaGreatDoor
namespace Go.Proofs.YtchjknbideoieaaGreatDoor
set_option maxRecDepth 100000
set_option maxHeartbeats 8000000
open Go.RowKit
abbrev rowQ (l:List UInt8):Obj:=.cells (bv l).toArray 5 (0,0)
theorem bq_cell {w:World} {D:Nat} {l:List UInt8} (h:w.heap[D]? = some (rowQ l)) {k:Nat} (hk:k<l.length) :
  w.cell? ⟨D,k,none⟩=some (u8v l[k])∧w.frozen? ⟨D,k,none⟩=false∧∀b:UInt8,(w.setCell ⟨D,k,none⟩ (u8v b)).heap[D]? = some (rowQ (l.set k b)):=by
 refine⟨?_,by simp[World.frozen?,h],fun b=>?_⟩
 ·rw[cell_of_row _ _ k _ _ _ h]
  have:=bv_get l k hk
  simpa using this
 ·simp only[World.setCell,Array.getElem?_modify,h]
  simp[bv,List.map_set]
theorem bitSet_pad (L pad:List UInt8) (p:Nat) (h:p/8<L.length):(L++pad).set (p/8) ((L.getD (p/8) 0) ||| (1 <<< UInt8.ofNat (p%8)))=bitSet L p++pad:=by
 unfold bitSet
 rw[List.set_append_left _ _ h]
theorem and7 (p:UInt32):bits .and .u32 (p.toNat:Int) 7=((p.toNat%8:Nat):Int):=by
 have h:bits .and .u32 (p.toNat:Int) 7=((p &&& 7).toNat:Int):=w_and p 7
 rw[h,UInt32.toNat_and,show (7:UInt32).toNat=2 ^ 3-1 from rfl,Nat.and_two_pow_sub_one_eq_mod]
theorem or_bit:∀n,n<256→∀k,k<8→(UInt8.ofNat n ||| (1 <<< UInt8.ofNat k)).toNat=n ||| 2 ^ k:=by decide +kernel
theorem or_byte (x:UInt8) (r:Nat) (hr:r<8):bits .or .u8 (x.toNat:Int) (2 ^ r%256)=((x ||| (1 <<< UInt8.ofNat r)).toNat:Int):=by
 have hx:=u8_lt x
 have h1:=or_bit x.toNat hx r hr
 rw[u8_ofNat] at h1
 have h2:(2 ^ r:Nat)<256:=by
  have:=Nat.pow_lt_pow_right (a:=2) (by omega) hr
  omega
 have h3:((2:Int) ^ r%256)=((2 ^ r:Nat):Int):=by
  have:((2:Int) ^ r)=((2 ^ r:Nat):Int):=by simp
  rw[this]
  exact Int.emod_eq_of_lt (Int.natCast_nonneg _) (Int.ofNat_lt.2 h2)
 rw[h1,h3]
 exact u8_or_nat _ _ hx h2
theorem kSet_any (D m cap:Nat) (L pad:List UInt8) (key:ByteArray) (probes:Nat) (w:World) (h:w.heap[D]? = some (rowQ (L++pad))) (hL:L.length=m) (hm0:0<m) (hm:m≤1048576) (_hcap:m≤cap) (_hcap2:cap≤140737488355328) (hp:probes≤30) (hk:key.size≤140737488355328) :
  Calls Tryz.prog 95 #[.slice (some ⟨D,0,none⟩) m cap,.string key,.int .i64 (probes:Int)] w fun e w'=>e=.returned (.tuple #[])∧w'.heap[D]? = some (rowQ (setKey probes L key.data.toList++pad))∧w.grownBy w' (some D):=by
 have hDlt:D<w.heap.size:=(Array.getElem?_eq_some_iff.1 h).1
 unfold setKey
 obtain⟨h0,hh0⟩:∃h0,h0=crcMore 0 key.data.toList:=⟨_,rfl⟩
 rw[←hh0]
 obtain⟨d,hd⟩:∃d,d=rot15 h0:=⟨_,rfl⟩
 rw[←hd]
 have HH0:=Lib.hid hh0
 have HD:=Lib.hid hd
 clear hh0 hd
 go_enter Tryz.func95,Tryz.ntmps95
 go_wp2_with (refine wl_s2b (o:=⟨some 10,_,_,_,_,_⟩) rfl (.tmp 9) rfl key rfl (by simp only[maxLen];omega) ?_;intro v1 w1 hs1 ho1 hb1 hz1;clear ho1 hz1;obtain⟨A1,c1,rfl,hc1,hm1,hr1⟩:=id hs1)
 rw[toList_size] at hs1
 have hcr:=kCrc_one w1.heap.size _ key.data.toList (w1.alloc (.cells #[.slice A1 key.size c1] 56)) (hs1.on (balloc (bself w1) _)) (cell_of_row _ _ 0 _ _ _ (heap_alloc_new w1 _))
 obtain⟨W1,hW1⟩:∃W1,W1=w1.alloc (.cells #[.slice A1 key.size c1] 56):=⟨_,rfl⟩
 rw[←hW1] at hcr ⊢
 have b1:Below w.heap.size w W1:=by rw[hW1];exact hb1.trans ((balloc (bself w1) _).mono hb1.size)
 rw[←HH0.out] at hcr
 clear HH0 hW1 hb1 hs1 hr1
 refine hcr.mono ?_
 rintro _ w2 ⟨rfl,rfl⟩
 go_wp2_with fail
 refine (kRotL15 h0 w2).mono ?_
 rintro _ w3 ⟨rfl,rfl⟩
 rw[←HD.out]
 have hdl:=d.toNat_lt
 have hhl:=h0.toNat_lt
 have hrow:=(b1.block _ hDlt).trans h
 clear hcr HD
 go_wp2_with fail
 go_loopw [6,16] (fun hv i wr=>∃(k:Nat) (hh:UInt32) (Lk:List UInt8),i=.int .i64 k∧k≤probes∧hv=.int .u32 (hh.toNat:Int)∧Lk.length=m∧wr.heap[D]? = some (rowQ (Lk++pad))∧w.grownBy wr (some D)∧Hid (probeSet (8*L.length) d probes h0 L=probeSet (8*L.length) d (probes-k) hh Lk)) (fun _ i _=>probes-(intOf i).toNat)
 case atStart=>exact⟨0,h0,L,rfl,Nat.zero_le _,rfl,hL,hrow,⟨b1.os,b1.tape,b1.output,b1.size,fun x hx _=>b1.block x hx⟩,Lib.hid rfl⟩
 case round =>
  obtain⟨k,hh,Lk,rfl,hkp,rfl,hLk,hrk,hg,HP⟩:=hrel
  by_cases hlt:k<probes
  ·have hhl2:=hh.toNat_lt
   have g1:IntKind.i64.wrap (8*(m:Int))=((8*m:Nat):Int):=by rw[IntKind.wrap_i64];omega
   have g2:IntKind.u32.wrap ((8*m:Nat):Int)=((8*m:Nat):Int):=by rw[IntKind.wrap_u32'];omega
   obtain⟨p,hpn⟩:∃p:UInt32,p.toNat=hh.toNat%(8*m):=⟨UInt32.ofNat (hh.toNat%(8*m)),by
    have h1:=Nat.mod_le hh.toNat (8*m)
    rw[UInt32.toNat_ofNat_of_lt' (by show _<4294967296;omega)]⟩
   have gp:(hh.toNat:Int)%(8*(m:Int))=(p.toNat:Int):=by rw[hpn];simp
   have hpl:p.toNat<8*m:=by rw[hpn];exact Nat.mod_lt _ (by omega)
   have hpl2:=p.toNat_lt
   obtain⟨j,hj⟩:∃j,j=p.toNat/8:=⟨_,rfl⟩
   obtain⟨r,hr⟩:∃r,r=p.toNat%8:=⟨_,rfl⟩
   have gj:(p.toNat:Int)/8=(j:Int):=by omega
   have gr:bits .and .u32 (p.toNat:Int) 7=(r:Int):=by rw[and7,hr]
   have hjm:j<m:=by omega
   have hr8:r<8:=by omega
   have hjl:j<(Lk++pad).length:=by rw[List.length_append];omega
   obtain⟨c0,f0,hset⟩:=bq_cell hrk hjl
   obtain⟨x,hx⟩:∃x,x=(Lk++pad)[j]:=⟨_,rfl⟩
   rw[←hx] at c0
   obtain⟨z,hz⟩:∃z,z=x ||| (1 <<< UInt8.ofNat r):=⟨_,rfl⟩
   have gz:bits .or .u8 (x.toNat:Int) (2 ^ r%256)=(z.toNat:Int):=by rw[hz];exact or_byte x r hr8
   obtain⟨h2,hh2⟩:∃h2,h2=hh+d:=⟨_,rfl⟩
   have ga:((hh.toNat:Int)+(d.toNat:Int))%4294967296=(h2.toNat:Int):=by rw[hh2];exact w_add hh d
   have HX:=Lib.hid (And.intro hx (And.intro hpn (And.intro hj (And.intro hr (And.intro hz hh2)))))
   have HSET:=Lib.hid hset
   clear hx hpn hj hr hset hz hh2
   go_upto_region 5 with fail
   go_wp2_with fail
   go_roundw
   case rel =>
    obtain⟨q1,q2,q3,q4,q5,q6⟩:=HX.out
    refine⟨k+1,h2,bitSet Lk p.toNat,by go_num,by omega,by rw[ga],by rw[bitSet_length];exact hLk,?_,hg.trans (grown_set (p:=⟨D,j,none⟩) wr rfl _),Lib.hid ?_⟩
    ·have e:=HSET.out z
     rw[←bitSet_pad Lk pad p.toNat (by omega),←q3,←q4]
     have ex:Lk.getD j 0=x:=by rw[q1,List.getD_eq_getElem?_getD,List.getElem_append_left (by omega),List.getElem?_eq_getElem (by omega)];rfl
     rw[ex,←q5]
     exact e
    ·rw[HP.out,show probes-k=(probes-(k+1))+1 from by omega,probeSet,←q6,hL,←q2]
   case measure=>simp[intOf];omega
  ·have hkl:k=probes:=by omega
   subst hkl
   have HE:Hid (probeSet (8*L.length) d k h0 L=Lk):=Lib.hid (by rw[HP.out,Nat.sub_self,probeSet])
   go_wp2_with fail
   go_end0
   exact⟨rfl,by rw[HE.out];exact hrk,hg⟩
end Go.Proofs.YtchjknbideoieaaGreatDoor
namespace Go.Proofs.YtchjknbideoieaaGreatDoor
set_option maxRecDepth 100000
set_option maxHeartbeats 8000000
open Go.RowKit
theorem bit_val:∀n,n<256→∀r,r<8→((UInt8.ofNat n >>> UInt8.ofNat r) &&& 1 !=0)=decide (n/2 ^ r%2=1):=by decide +kernel
theorem bit_and (y:Nat) (hy:y<256):bits .and .u8 (y:Int) 1=((y%2:Nat):Int):=by
 have h:=u8_and_nat y 1 hy (by omega)
 rw[show ((1:Nat):Int)=1 from rfl] at h
 rw[h,Nat.and_one_is_mod]
theorem kMay_any (v:Value) (L:List UInt8) (pb:UInt8) (key:ByteArray) (w:World) (hv:SB w w.heap.size v (L++[pb])) (hm0:0<L.length) (hm:L.length≤1048576) (hp1:1≤pb.toNat) (hp2:pb.toNat≤30) (hk:key.size≤140737488355328) :
  Calls Tryz.prog 36 #[v,.string key] w fun e w'=>e=.returned (.bool (mayKey pb.toNat L key.data.toList))∧Below w.heap.size w w':=by
 obtain⟨m,hLm⟩:∃m,m=L.length:=⟨_,rfl⟩
 obtain⟨A,c,rfl,hc,hmx,hr⟩:=hv
 have hll:(L++[pb]).length=m+1:=by rw[List.length_append,hLm];rfl
 rw[hll] at hr hc ⊢
 have hc':c≤9223372036854775807:=by unfold maxLen at hmx;omega
 obtain⟨b,o,rfl,hb,hcell⟩:=hr.at_ (by omega)
 have cp:=hcell m _ (bv_get (L++[pb]) m (by omega))
 have epb:(L++[pb])[m]'(by omega)=pb:=by
  subst hLm
  simp
 rw[epb] at cp
 have HC:Hid (∀W,Below w.heap.size w W→∀j (hj:j<L.length),W.cell? ⟨b,o+j,none⟩=some (u8v L[j])):=Lib.hid (fun W hW j hj=>by
  have h1:=hcell j _ (bv_get (L++[pb]) j (by rw[List.length_append];omega))
  rw[List.getElem_append_left hj] at h1
  exact (hW.cell (p:=⟨b,o+j,none⟩) hb).trans h1)
 have HM:Hid (mayKey pb.toNat L key.data.toList=probeAll (8*L.length) (rot15 (crcMore 0 key.data.toList)) pb.toNat (crcMore 0 key.data.toList) L):=Lib.hid rfl
 obtain⟨ans,hans⟩:∃ans,ans=mayKey pb.toNat L key.data.toList:=⟨_,rfl⟩
 rw[←hans] at HM ⊢
 obtain⟨h0,hh0⟩:∃h0,h0=crcMore 0 key.data.toList:=⟨_,rfl⟩
 rw[←hh0] at HM
 obtain⟨d,hd⟩:∃d,d=rot15 h0:=⟨_,rfl⟩
 rw[←hd] at HM
 have HH0:=Lib.hid hh0
 have HD:=Lib.hid hd
 have HLm:=Lib.hid hLm
 have hm1:0<m:=by omega
 have hm2:m≤1048576:=by omega
 have gm:IntKind.i64.wrap (((m+1:Nat):Int)-1)=(m:Int):=by rw[IntKind.wrap_i64];omega
 have gp0:((pb.toNat:Int)==0)=false:=by rw[beq_eq_false_iff_ne];omega
 have gp1:decide ((30:Int)<(pb.toNat:Int))=false:=by simp;omega
 clear hans hh0 hd hLm hcell epb hll hr
 go_enter Tryz.func36,Tryz.ntmps36
 go_upto_region 3 with fail
 go_quiet (fail)
 have b0:Below w.heap.size w (w.drewN nq):=brefl _ _
 generalize World.drewN w nq=w0 at b0 ⊢
 go_wp2_with (refine wl_s2b (o:=⟨some 43,_,_,_,_,_⟩) rfl (.tmp 42) rfl key rfl (by simp only[maxLen];omega) ?_;intro v1 w1 hs1 ho1 hb1 hz1;clear ho1 hz1;obtain⟨A1,c1,rfl,hc1,hm1x,hr1⟩:=id hs1)
 rw[toList_size] at hs1
 have hcr:=kCrc_one w1.heap.size _ key.data.toList (w1.alloc (.cells #[.slice A1 key.size c1] 56)) (hs1.on (balloc (bself w1) _)) (cell_of_row _ _ 0 _ _ _ (heap_alloc_new w1 _))
 obtain⟨W1,hW1⟩:∃W1,W1=w1.alloc (.cells #[.slice A1 key.size c1] 56):=⟨_,rfl⟩
 rw[←hW1] at hcr ⊢
 have b1:Below w.heap.size w W1:=by rw[hW1];exact bstep (bstep b0 hb1) (balloc (bself w1) _)
 rw[←HH0.out] at hcr
 clear HH0 hW1 hb1 hs1 hr1 cp b0 gm
 refine hcr.mono ?_
 rintro _ w2 ⟨rfl,rfl⟩
 go_wp2_with fail
 refine (kRotL15 h0 w2).mono ?_
 rintro _ w3 ⟨rfl,rfl⟩
 rw[←HD.out]
 have hdl:=d.toNat_lt
 have hhl:=h0.toNat_lt
 clear hcr HD
 go_wp2_with fail
 go_loopw [7,49] (fun hv i wr=>∃(k:Nat) (hh:UInt32),i=.int .u8 (k:Int)∧k≤pb.toNat∧hv=.int .u32 (hh.toNat:Int)∧Below w.heap.size w wr∧Hid (ans=probeAll (8*L.length) d (pb.toNat-k) hh L)) (fun _ i _=>pb.toNat-(intOf i).toNat)
 case atStart=>exact⟨0,h0,rfl,Nat.zero_le _,rfl,b1,HM⟩
 case round =>
  obtain⟨k,hh,rfl,hkp,rfl,hbw,HP⟩:=hrel
  by_cases hlt:k<pb.toNat
  ·have hhl2:=hh.toNat_lt
   have g1:IntKind.i64.wrap (8*(m:Int))=((8*m:Nat):Int):=by rw[IntKind.wrap_i64];omega
   have g2:IntKind.u32.wrap ((8*m:Nat):Int)=((8*m:Nat):Int):=by rw[IntKind.wrap_u32'];omega
   obtain⟨p,hpn⟩:∃p:UInt32,p.toNat=hh.toNat%(8*m):=⟨UInt32.ofNat (hh.toNat%(8*m)),by
    have h1:=Nat.mod_le hh.toNat (8*m)
    rw[UInt32.toNat_ofNat_of_lt' (by show _<4294967296;omega)]⟩
   have gp:(hh.toNat:Int)%(8*(m:Int))=(p.toNat:Int):=by rw[hpn];simp
   have hpl:p.toNat<8*m:=by rw[hpn];exact Nat.mod_lt _ (by omega)
   have hpl2:=p.toNat_lt
   obtain⟨j,hj⟩:∃j,j=p.toNat/8:=⟨_,rfl⟩
   obtain⟨r,hr⟩:∃r,r=p.toNat%8:=⟨_,rfl⟩
   have gj:(p.toNat:Int)/8=(j:Int):=by omega
   have gr:bits .and .u32 (p.toNat:Int) 7=(r:Int):=by rw[and7,hr]
   have hjm:j<m:=by omega
   have hr8:r<8:=by omega
   have hjl:j<L.length:=by rw[←HLm.out];exact hjm
   have c0:=HC.out wr hbw j hjl
   obtain⟨x,hx⟩:∃x,x=L[j]:=⟨_,rfl⟩
   rw[←hx] at c0
   have hx8:=u8_lt x
   have hbit:bitAt L p.toNat=decide (x.toNat/2 ^ r%2=1):=by
    unfold bitAt
    have e:L.getD (p.toNat/8) 0=x:=by rw[←hj,hx,List.getD_eq_getElem?_getD,List.getElem?_eq_getElem hjl];rfl
    have h:=bit_val x.toNat hx8 r hr8
    rw[u8_ofNat] at h
    rw[e,←hr]
    exact h
   obtain⟨y,hy⟩:∃y,y=x.toNat/2 ^ r:=⟨_,rfl⟩
   have hy8:y<256:=by rw[hy];exact Nat.lt_of_le_of_lt (Nat.div_le_self _ _) hx8
   have gy:(x.toNat:Int)/2 ^ r=(y:Int):=by rw[hy];simp
   have gand:=bit_and y hy8
   obtain⟨h2,hh2⟩:∃h2,h2=hh+d:=⟨_,rfl⟩
   have ga:((hh.toNat:Int)+(d.toNat:Int))%4294967296=(h2.toNat:Int):=by rw[hh2];exact w_add hh d
   rw[←hy] at hbit
   have HQ:Hid (ans=(bitAt L p.toNat&&probeAll (8*L.length) d (pb.toNat-(k+1)) h2 L)):=Lib.hid (by
    rw[HP.out,show pb.toNat-k=(pb.toNat-(k+1))+1 from by omega,probeAll,hh2,hpn,HLm.out])
   have hgk:((k:Int)+1)%256=(k:Int)+1:=by omega
   clear hx hpn hj hr hy hh2
   cases hbt:bitAt L p.toNat with
   | true =>
    rw[hbt] at hbit HQ
    have hy2:y%2=1:=of_decide_eq_true hbit.symm
    rw[hy2] at gand
    have HQ2:Hid (ans=probeAll (8*L.length) d (pb.toNat-(k+1)) h2 L):=Lib.hid (by rw[HQ.out,Bool.true_and])
    clear hbit hbt hy2 HQ
    go_wp2_with fail
    go_roundw
    case rel=>exact⟨k+1,h2,by first|go_num|rw[hgk],by omega,by rw[ga],hbw,HQ2⟩
    case measure=>simp[intOf];omega
   | false =>
    rw[hbt] at hbit HQ
    have hy2:y%2=0:=by
     have:=of_decide_eq_false hbit.symm
     omega
    rw[hy2] at gand
    have HQ2:Hid (ans=false):=Lib.hid (by rw[HQ.out,Bool.false_and])
    clear hbit hbt hy2 HQ
    go_wp2_with fail
    go_ret
    exact⟨by rw[HQ2.out];rfl,hbw⟩
  ·have hkl:k=pb.toNat:=by omega
   subst hkl
   have HE:Hid (ans=true):=Lib.hid (by rw[HP.out,Nat.sub_self,probeAll])
   go_wp2_with fail
   go_ret
   exact⟨by rw[HE.out];rfl,hbw⟩
end Go.Proofs.YtchjknbideoieaaGreatDoor
