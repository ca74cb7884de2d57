/- What is proved here: what Cross of package stream comes to, at this seat's numbers. Condition: the number of bytes. -/
import Derived.Test.YtchjknbideoieaaGreatDoorK41
import Derived.Test.YtchjknbideoieaaGreatDoorK03
import Derived.Lib.MinMax
import Derived.Test.YtchjknbideoieaaGreatDoorK08
namespace Go.Proofs.YtchjknbideoieaaGreatDoor
set_option maxRecDepth 100000
set_option maxHeartbeats 8000000
open Go.RowKit
abbrev rowX (L:List UInt8) (pad:List Value):Obj:=.cells (bv L++pad).toArray 5 (0,0)
theorem rowX_cell {w:World} {D:Nat} {L:List UInt8} {pad:List Value} (h:w.heap[D]? = some (rowX L pad)) {k:Nat} (hk:k<L.length) :
  w.cell? ⟨D,k,none⟩=some (u8v L[k])∧w.frozen? ⟨D,k,none⟩=false∧∀b:UInt8,(w.setCell ⟨D,k,none⟩ (u8v b)).heap[D]? = some (rowX (L.set k b) pad):=by
 refine⟨?_,by simp[World.frozen?,h],fun b=>?_⟩
 ·rw[cell_of_row _ _ k _ _ _ h]
  rw[List.getElem?_toArray,List.getElem?_append_left (by rw[bv_length];exact hk)]
  exact bv_get L k hk
 ·simp only[World.setCell,Array.getElem?_modify,h]
  simp[bv,List.map_set,List.set_append_left _ _ (show k<(List.map u8v L).length by simpa using hk)]
theorem OB.row {w:World} {base g n cap:Nat} {l:List UInt8} (h:OB w base (.slice (some ⟨g,0,none⟩) n cap) l):n=l.length∧n≤cap∧cap≤maxLen∧base≤g∧g<w.heap.size∧∃pad:List Value,w.heap[g]? = some (rowX l pad)∧l.length+pad.length=cap:=by
 obtain⟨h1,h2⟩:=h
 rcases h2 with ⟨hv,_⟩|⟨g',cap',cur,hv,hb,hg,hn,hm,hs,ht⟩
 ·cases hv
 ·injection hv with e1 e2 e3
  injection e1 with e1
  injection e1 with e1
  subst e1;subst e2;subst e3
  refine⟨rfl,hn,hm,hb,(Array.getElem?_eq_some_iff.1 hg).1,cur.toList.drop l.length,?_,?_⟩
  ·rw[Nat.mul_one] at ht
   show w.heap[g]? = some (.cells (bv l++cur.toList.drop l.length).toArray 5 (0,0))
   rw[←ht,List.take_append_drop]
   exact hg
  ·have h5:cur.toList.length=cur.size:=Array.length_toList
   rw[List.length_drop];omega
theorem OB.ofP {w:World} {g n cap base:Nat} {L:List UInt8} {pad:List Value} (h:w.heap[g]? = some (rowX L pad)) (hn:n=L.length) (hc:L.length+pad.length=cap) (hcm:cap≤maxLen) (hb:base≤g):OB w base (.slice (some ⟨g,0,none⟩) n cap) L:=by
 subst hn
 refine⟨by rw[bv_length,Nat.mul_one],.inr ⟨g,cap,_,rfl,hb,h,by omega,hcm,?_,?_⟩⟩
 ·simp[bv_length];omega
 ·rw[Nat.mul_one,←bv_length L]
  simp
theorem crossF_nil (blk:UInt32→List UInt8) (f:Nat) (c:UInt32):crossF blk f c []=[]:=by cases f <;> rfl
theorem x_xor8 (a b:UInt8):bits .xor .u8 (a.toNat:Int) (b.toNat:Int)=((a ^^^ b).toNat:Int):=by rw[u8_xor_nat _ _ a.toNat_lt b.toNat_lt,UInt8.toNat_xor]
def xUp (R B:List UInt8) (i:Nat):List UInt8:=List.zipWith (· ^^^ ·) (R.take i) B++R.drop i
theorem xUp_0 (R B:List UInt8):xUp R B 0=R:=by simp[xUp]
theorem xUp_len (R B:List UInt8) (i:Nat) (hi:i≤R.length) (hB:i≤B.length):(xUp R B i).length=R.length:=by
 unfold xUp
 rw[List.length_append,List.length_zipWith,List.length_take,List.length_drop]
 omega
theorem xUp_get (R B:List UInt8) (i:Nat) (hi:i<R.length) (hB:i<B.length):(xUp R B i)[i]? = some R[i]:=by
 unfold xUp
 have h:(List.zipWith (· ^^^ ·) (R.take i) B).length=i:=by rw[List.length_zipWith,List.length_take];omega
 rw[List.getElem?_append_right (by omega),h,Nat.sub_self,List.getElem?_drop,List.getElem?_eq_getElem (by omega)]
 rfl
theorem xUp_step (R B:List UInt8) (i:Nat) (hi:i<R.length) (hB:i<B.length):(xUp R B i).set i (R[i] ^^^ B[i])=xUp R B (i+1):=by
 unfold xUp
 have h:(List.zipWith (· ^^^ ·) (R.take i) B).length=i:=by rw[List.length_zipWith,List.length_take];omega
 have ht:List.zipWith (· ^^^ ·) (R.take (i+1)) B=List.zipWith (· ^^^ ·) (R.take i) B++[R[i] ^^^ B[i]]:=by
  apply List.ext_getElem?
  intro j
  rw[List.getElem?_zipWith,List.getElem?_take]
  rcases Nat.lt_trichotomy j i with h1|h1|h1
  ·rw[List.getElem?_append_left (by omega),List.getElem?_zipWith,List.getElem?_take,if_pos (by omega),if_pos h1]
  ·subst h1
   rw[List.getElem?_append_right (by omega),h,if_pos (by omega),List.getElem?_eq_getElem hi,List.getElem?_eq_getElem hB]
   simp
  ·rw[List.getElem?_append_right (by omega),h,if_neg (by omega)]
   rw[show j-i=(j-i-1)+1 by omega]
   simp
 rw[ht,List.drop_eq_getElem_cons hi,List.append_assoc,List.set_append_right _ _ (by omega),h,Nat.sub_self]
 rfl
theorem grown_new {w a:World} {row:Option Nat} (h:w.grownBy a row) (o:Obj) (c:Array Value):w.grownBy ((a.alloc o).setRow a.heap.size c) row :=
 ⟨h.os,h.tape,h.output,by simp;have:=h.size;omega,fun x hx hne=>(setRow_other _ _ _ _ (by have:=h.size;omega)).trans ((heap_alloc_old _ _ (by have:=h.size;omega)).trans (h.block x hx hne))⟩
theorem take_min64 (R:List UInt8) (m:Nat) (h:m=min R.length 64):R.take m=R.take 64∧R.drop m=R.drop 64:=by
 rcases Nat.lt_or_ge R.length 64 with h1|h1
 ·have e:m=R.length:=by omega
  subst e
  rw[List.take_of_length_le (Nat.le_refl _),List.take_of_length_le (by omega),List.drop_of_length_le (Nat.le_refl _),List.drop_of_length_le (by omega)]
  exact⟨rfl,rfl⟩
 ·have e:m=64:=by omega
  subst e
  exact⟨rfl,rfl⟩
theorem kCross_any (key nonce:List UInt8) (hk:key.length=32) (hn:nonce.length=12) (ck cn:Array Value) (hck:dgA key=ck) (hcn:dgA nonce=cn) (count:UInt32) (v:Value) (l:List UInt8) (w:World) (hv:SB w w.heap.size v l) (hl:l.length≤1099511627776) :
  Calls Tryz.prog 116 #[.agg ck,.agg cn,.int .u32 (count.toNat:Int),v] w fun e w'=>∃r,e=.returned r∧OB w' w.heap.size r (crossF (strmB key nonce) l.length count l)∧Below w.heap.size w w':=by
 have HCK:=Lib.hid (And.intro hk (And.intro hn (And.intro hck hcn)))
 have sck:ck.size=32:=by rw[←hck,dgA_size,hk]
 have scn:cn.size=12:=by rw[←hcn,dgA_size,hn]
 clear hck hcn hk hn
 have h0:SB (((w.alloc (.cells ck 52)).alloc (.cells cn 172)).alloc (.cells #[] 5)) w.heap.size v l:=SB.alloc (SB.alloc (SB.alloc hv (Nat.le_refl _) _) (by simp) _) (by simp;omega) _
 have own0:OB (((w.alloc (.cells ck 52)).alloc (.cells cn 172)).alloc (.cells #[] 5)) (w.heap.size+1+1) (.slice (some ⟨w.heap.size+1+1,0,none⟩) 0 0) []:=by
  have h:=OB.lit0 (base:=w.heap.size+1+1) ((w.alloc (.cells ck 52)).alloc (.cells cn 172)) (by simp)
  simpa using h
 have hlen:([]:List UInt8).length+l.length≤140737488355328:=by simp only[List.length_nil];omega
 have hbz:w.heap.size+1+1≤(((w.alloc (.cells ck 52)).alloc (.cells cn 172)).alloc (.cells #[] 5)).heap.size:=by simp
 have rK0:(((w.alloc (.cells ck 52)).alloc (.cells cn 172)).alloc (.cells #[] 5)).heap[w.heap.size]? = some (rowT 52 ck):=(heap_alloc_old _ _ (by simp;omega)).trans (heap_alloc2_old w _ _)
 have rN0:(((w.alloc (.cells ck 52)).alloc (.cells cn 172)).alloc (.cells #[] 5)).heap[w.heap.size+1]? = some (rowT 172 cn):=(heap_alloc_old _ _ (by simp)).trans (heap_alloc2_new w _ _)
 have HB:Hid (∀w1,Below (w.heap.size+1+1) (((w.alloc (.cells ck 52)).alloc (.cells cn 172)).alloc (.cells #[] 5)) w1→Below w.heap.size w w1∧w1.heap[w.heap.size]? = some (rowT 52 ck)∧w1.heap[w.heap.size+1]? = some (rowT 172 cn)):=Lib.hid (fun w1 h=>⟨(balloc (balloc (balloc (bself w) _) _) _).trans (h.mono (by omega)),(h.block _ (by omega)).trans rK0,(h.block _ (by omega)).trans rN0⟩)
 clear rK0 rN0
 obtain⟨A0,c0,rfl,_,_,_⟩:=id hv
 go_enter Tryz.func116,Tryz.ntmps116
 go_upto_region 2 with (at_builtin;go_loud (refine wl_appB rfl (.tmp 14) (.tmp 15) rfl (w.heap.size+1+1) _ [] rfl own0 w.heap.size _ l rfl h0 hlen hbz ?_);intro v9 w1 hown1 hg1 ho1 hb1;rw[List.nil_append] at hown1)
 have hB1:=HB.out w1 hb1
 have z1:w.heap.size+1+1≤w1.heap.size:=Nat.le_trans hbz hb1.size
 clear HB hb1 ho1 hg1 own0 h0 hbz hlen hv
 rcases id hown1.2 with ⟨rfl,h0⟩|⟨g,cap,cur,rfl,_⟩
 ·have e:l=[]:=List.eq_nil_of_length_eq_zero h0
  subst e
  go_wp2_with fail
  go_loopw [2,10] (fun i rv wr=>i=.int .u32 (count.toNat:Int)∧rv=.slice none 0 0∧wr=w1) (fun _ _ _=>0)
  case atStart=>exact⟨rfl,rfl,rfl⟩
  case round =>
   obtain⟨rfl,rfl,rfl⟩:=hrel
   go_wp2_with fail
   go_ret
   exact⟨_,rfl,OB.nil_ _ _,hB1.1⟩
 ·obtain⟨_,hncap,hcapm,hbg,hgs,pad,hrow,hpad⟩:=OB.row hown1
  have hcap':cap≤9223372036854775807:=by unfold maxLen at hcapm;omega
  obtain⟨hb1,rK1,rN1⟩:=hB1
  clear hown1
  go_wp2_with fail
  go_loopw [2,10] (fun cv rv wr=>∃(k f:Nat) (c:UInt32) (A:Option Addr) (D R:List UInt8),cv=.int .u32 (c.toNat:Int)∧rv=.slice A R.length (cap-k)∧D.length=k∧k+R.length=l.length∧(0<R.length→A=some ⟨g,k,none⟩)∧R.length≤f∧Hid (crossF (strmB key nonce) l.length count l=D++crossF (strmB key nonce) f c R)∧wr.heap[g]? = some (rowX (D++R) pad)∧w1.grownBy wr (some g)) (fun _ rv _=>match rv with | .slice _ n _=>n|_=>0)
  case atStart=>exact⟨0,l.length,count,some ⟨g,0,none⟩,[],l,rfl,rfl,rfl,by omega,fun _=>rfl,Nat.le_refl _,Lib.hid rfl,hrow,⟨rfl,rfl,rfl,Nat.le_refl _,fun _ _ _=>rfl⟩⟩
  case round =>
   obtain⟨k,f,c,A,D,R,rfl,rfl,hDk,hkl,hA,hRf,HX,hrw,hgw⟩:=hrel
   by_cases hR:0<R.length
   ·have hA':=hA hR
    subst hA'
    clear hA
    obtain⟨f,rfl⟩:∃f',f=f'+1:=⟨f-1,by omega⟩
    obtain⟨B,hB⟩:∃B,B=strmB key nonce c:=⟨_,rfl⟩
    have hBl:B.length=64:=by rw[hB];exact strmB_length _ _ _
    obtain⟨co,hco⟩:∃co,dgA B=co:=⟨_,rfl⟩
    have HK:Hid (∀W,Calls Tryz.prog 129 #[.agg ck,.agg cn,.int .u32 (c.toNat:Int)] W fun e w'=>e=.returned (.agg co)∧Below W.heap.size W w'):=Lib.hid (fun W=>kStrm_any key nonce c HCK.out.1 HCK.out.2.1 ck cn co HCK.out.2.2.1 HCK.out.2.2.2 (by rw[←hB];exact hco) W)
    obtain⟨m,hm⟩:∃m,m=min R.length 64:=⟨_,rfl⟩
    have gm:min (R.length:Int) 64=(m:Int):=by omega
    obtain⟨htk,hdk⟩:=take_min64 R m hm
    have HX2:Hid (crossF (strmB key nonce) l.length count l=(D++List.zipWith (· ^^^ ·) (R.take m) B)++crossF (strmB key nonce) f (c+1) (R.drop m)):=Lib.hid (by
     have hne:¬R.isEmpty=true:=by
      intro h
      rw[List.isEmpty_iff.1 h] at hR
      exact absurd hR (by simp)
     rw[HX.out,crossF,if_neg hne,htk,hdk,hB,List.append_assoc])
    have hcs:co.size=64:=by rw[←hco,dgA_size,hBl]
    have hc1:∀v∈co.toList,v.oneCell'=true:=by rw[←hco];exact dgA_one B
    have HCO:=Lib.hid hco
    have rK2:wr.heap[w.heap.size]? = some (rowT 52 ck):=(hgw.block _ (by omega) (fun e=>by injection e with e;omega)).trans rK1
    have rN2:wr.heap[w.heap.size+1]? = some (rowT 172 cn):=(hgw.block _ (by omega) (fun e=>by injection e with e;omega)).trans rN1
    have hgs2:g<wr.heap.size:=(Array.getElem?_eq_some_iff.1 hrw).1
    have hz2:=hgw.size
    have HM:=Lib.hid hm
    clear htk hdk hco hB hm HX
    go_upto_region 6 with (first|(go_at_call 129;refine (HK.out _).mono ?_;rintro _ w5 ⟨rfl,hb5⟩)|(refine wl_loadT 52 (n:=32) Tryz.underlying52 (by kernel_rfl) rfl (.tmp 4) rfl _ rfl ck rK2 sck ?_)|(refine wl_loadT 172 (n:=12) Tryz.underlying172 (by kernel_rfl) rfl (.tmp 5) rfl _ rfl cn rN2 scn ?_)|(refine wl_storeT 215 (n:=64) (by kernel_rfl) rfl (.tmp 11) (.tmp 26) rfl _ rfl _ co rfl (heap_alloc_new _ (rowT 215 (dgA (List.replicate 64 0)))) (by rw[dgA_size];rfl) hcs hc1 ?_))
    have z5:=hb5.size
    have hg5:=grown_below hgw hb5 hz2
    generalize hW6:World.setRow _ _ _=w6
    have rB6:w6.heap[w5.heap.size]? = some (rowT 215 (dgA B)):=by rw[←hW6,HCO.out];exact setRow_heap _ _ _ _ _ _ (heap_alloc_new _ (rowT 215 (dgA (List.replicate 64 0))))
    have hg6:w1.grownBy w6 (some g):=by rw[←hW6];exact grown_new hg5 _ _
    have hrw6:w6.heap[g]? = some (rowX (D++R) pad):=by rw[←hW6];exact (setRow_other _ _ _ _ (by omega)).trans ((heap_alloc_old _ _ (by omega)).trans ((hb5.block _ (by omega)).trans hrw))
    have z6:w5.heap.size<w6.heap.size:=(Array.getElem?_eq_some_iff.1 rB6).1
    clear hW6 hrw rK2 rN2 HK hb5 hg5 hcs hc1 HCO hgw
    have hm1:m≤R.length:=by have:=HM.out;omega
    have hm2:m≤64:=by have:=HM.out;omega
    have hm0:0<m:=by have:=HM.out;omega
    go_wp2_with fail
    clear gm
    go_loopw [31] (fun i wz=>∃i':Nat,i=.int .i64 i'∧i'≤m∧wz.heap[g]? = some (rowX (D++xUp R B i') pad)∧w6.grownBy wz (some g)) (fun i _=>m-(intOf i).toNat)
    case atStart=>exact⟨0,rfl,Nat.zero_le _,by rw[xUp_0];exact hrw6,⟨rfl,rfl,rfl,Nat.le_refl _,fun _ _ _=>rfl⟩⟩
    case round =>
     obtain⟨i,rfl,him,hri,hgi⟩:=hrel
     by_cases hlt:i<m
     ·have hiR:i<R.length:=by omega
      have hiB:i<B.length:=by omega
      have i1:(i:Int)<(R.length:Int):=by omega
      have i2:(i:Int)<64:=by omega
      have i3:(i:Int)<(m:Int):=by omega
      have hxl:(xUp R B i).length=R.length:=xUp_len R B i (by omega) (by omega)
      obtain⟨c1,f1,s1⟩:=rowX_cell hri (k:=k+i) (by rw[List.length_append,hxl];omega)
      have ex:(D++xUp R B i)[k+i]'(by rw[List.length_append,hxl];omega)=R[i]:=by
       have h1:(D++xUp R B i)[k+i]? = some R[i]:=by
        rw[List.getElem?_append_right (by omega),hDk,Nat.add_sub_cancel_left]
        exact xUp_get R B i hiR hiB
       rw[List.getElem?_eq_getElem (by rw[List.length_append,hxl];omega)] at h1
       injection h1
      rw[ex] at c1
      have rBz:wr.heap[w5.heap.size]? = some (rowT 215 (dgA B)):=(hgi.block _ z6 (fun e=>by injection e with e;omega)).trans rB6
      obtain⟨c2,_,_⟩:=rowT_cell rBz (k:=i) hiB
      obtain⟨x,hx⟩:∃x,x=R[i]:=⟨_,rfl⟩
      obtain⟨y,hy⟩:∃y,y=B[i]:=⟨_,rfl⟩
      have hst:=xUp_step R B i hiR hiB
      rw[←hx] at c1 hst
      rw[←hy] at c2 hst
      obtain⟨z,hz⟩:∃z,z=x ^^^ y:=⟨_,rfl⟩
      have gz:bits .xor .u8 (x.toNat:Int) (y.toNat:Int)=(z.toNat:Int):=by rw[hz];exact x_xor8 x y
      rw[←hz] at hst
      have H2:=s1 z
      rw[List.set_append_right _ _ (by omega),hDk,Nat.add_sub_cancel_left,hst] at H2
      have HS:=Lib.hid H2
      have hne:(⟨g,k+i,none⟩:Addr)≠⟨w5.heap.size,i,none⟩:=fun e=>by injection e with e;omega
      have c3:∀u,(wr.setCell ⟨g,k+i,none⟩ u).cell? ⟨w5.heap.size,i,none⟩=some (u8v y):=fun u=>(World.cell?_setCell_other _ _ _ _ hne).trans c2
      clear s1 ex hst H2 hx hy hz rBz hri hxl hne
      go_upto_region 10 with fail
      refine wp_region_noPanic ?_
      refine wp_region_held_drew (S:=fun w'=>True∧w'.cell? ⟨w5.heap.size,i,none⟩=some (u8v y)) (by kernel_rfl) ⟨trivial,c2⟩ (fun hHeld=>?_)
      refine rtk 0 ?_
      refine rtk 1 ?_
      refine rtk 2 ?_
      refine rtk 4 ?_
      refine rtk 5 ?_
      refine rtk 6 ?_
      refine ro 3 (fun K hK=>?_)
      (go_simp)
      refine hK.out _ _ ?_ (fun hHeld=>?_)
      ·exact⟨trivial,c2⟩
      clear hK K
      try simp only[Act.put,q1,q2,q3]
      refine rtk 7 ?_
      refine rtk 8 ?_
      refine ro 9 (fun K hK=>?_)
      (go_simp)
      refine hK.out _ _ ?_ (fun hHeld=>?_)
      ·exact⟨trivial,c3 _⟩
      clear hK K
      try simp only[Act.put,q1,q2,q3]
      refine rdn ?_
      go_wp2_with fail
      go_roundw
      case rel =>
       have hgg:=hgi.trans (grown_set (p:=⟨g,k+i,none⟩) wr rfl (u8v z))
       exact⟨i+1,by go_num,by omega,HS.out,⟨hgg.os,hgg.tape,hgg.output,hgg.size,hgg.block⟩⟩
      case measure=>first|(simp[intOf];done)|(simp[intOf];omega)
     ·have him':i=m:=by omega
      subst him'
      have hDD:(D++List.zipWith (· ^^^ ·) (R.take i) B).length=k+i:=by rw[List.length_append,List.length_zipWith,List.length_take];omega
      have hRR:(R.drop i).length=R.length-i:=by rw[List.length_drop]
      have hrr:wr.heap[g]? = some (rowX ((D++List.zipWith (· ^^^ ·) (R.take i) B)++R.drop i) pad):=by rw[List.append_assoc];exact hri
      obtain⟨A',hA'⟩:∃A',A'=(if cap-k=i then (some ⟨g,k,none⟩:Option Addr) else (some ⟨g,k,none⟩:Option Addr).map (·.add i)):=⟨_,rfl⟩
      have hcut:∀W,(Instr.sliceAt 56 (.slice (some ⟨g,k,none⟩) R.length (cap-k)) (some (.int .i64 (i:Int))) none none).run Tryz.prog W=.ok (.slice A' (R.length-i) (cap-k-i)) W:=fun W=>by rw[hA'];exact run_cutB W _ _ _ i .i64 (by omega)
      have HA:Hid (0<(R.drop i).length→A'=some ⟨g,k+i,none⟩):=Lib.hid (fun h=>by rw[hA',if_neg (by omega),Option.map_some,add_lit0])
      have hgo:w1.grownBy wr (some g):=hg6.trans hgi
      have gc:((c.toNat:Int)+1)%4294967296=((c+1).toNat:Int):=w_add c 1
      have gcw:IntKind.u32.wrap ((c.toNat:Int)+1)=((c+1).toNat:Int):=by rw[IntKind.wrap_u32'];exact gc
      obtain⟨c',hc'⟩:∃c',c'=c+1:=⟨_,rfl⟩
      rw[←hc'] at gc gcw HX2
      clear hA' hri hgi hrw6 hg6 rB6 hc' HM
      go_wp2_with fail
      go_roundw
      case rel=>exact⟨k+i,f,c',A',_,R.drop i,rfl,by rw[hRR,show cap-(k+i)=cap-k-i by omega],hDD,by omega,HA.out,by omega,HX2,hrr,hgo⟩
      case measure=>first|(simp;done)|(simp;omega)
   ·have hR0:R=[]:=List.length_eq_zero_iff.1 (by omega)
    subst hR0
    have hcr:Hid (crossF (strmB key nonce) l.length count l=D):=Lib.hid (by rw[HX.out,crossF_nil,List.append_nil])
    rw[List.append_nil] at hrw
    have hown:OB wr w.heap.size (.slice (some ⟨g,0,none⟩) l.length cap) D:=OB.ofP hrw (by simp at hkl;omega) (by simp at hkl;omega) hcapm (by omega)
    have hbw:Below w.heap.size w wr:=below_grown hb1 hgw (by omega) (fun x e=>by injection e with e;omega)
    clear HX hrw hA
    go_wp2_with fail
    go_ret
    exact⟨_,rfl,by rw[hcr.out];exact hown,hbw⟩
end Go.Proofs.YtchjknbideoieaaGreatDoor
