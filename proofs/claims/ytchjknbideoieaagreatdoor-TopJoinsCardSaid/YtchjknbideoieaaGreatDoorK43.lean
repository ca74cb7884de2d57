/- What is proved here: what Tag of package seal comes to, at this seat's numbers. Conditions: the lengths; the table of constants. what Seal and Open of package seal come to, at this seat's numbers: what was sealed is opened. Conditions: the lengths; the table of constants. what Open of package seal comes to at what Seal has made, at this seat's numbers. Conditions: the .. -/
import Derived.Test.YtchjknbideoieaaGreatDoorK42
import Derived.Test.YtchjknbideoieaaGreatDoorK15
import Derived.Test.YtchjknbideoieaaGreatDoorK06
import Derived.Laws.Cover3
namespace Go.Proofs.YtchjknbideoieaaGreatDoor
set_option maxRecDepth 100000
set_option maxHeartbeats 8000000
open Go.RowKit
def tagB (km nonce ad x:List UInt8):List UInt8:=(macOf km (fix ad.length 8++(ad++(nonce++x)))).take 16
theorem tagB_length (km nonce ad x:List UInt8):(tagB km nonce ad x).length=16:=by unfold tagB;rw[List.length_take,macOf_length];rfl
theorem SB.part {w:World} {g B n:Nat} {a b:List UInt8} {t:TypeId} {fr:Nat × Nat} {c:Array Value} (h:w.heap[g]? = some (.cells c t fr)) (hc:dgA (a++b)=c) {o:Nat} (ho:o=a.length) (hn:n=b.length) (hB:g<B) (hl:b.length≤maxLen):SB w B (.slice (some ⟨g,o,none⟩) n n) b:=by
 subst hn
 subst hc
 subst ho
 refine⟨_,_,rfl,Nat.le_refl _,hl,⟨by rw[bv_length,Nat.mul_one],⟨fun e=>(by cases e),fun ad e _=>?_⟩⟩⟩
 injection e with e
 subst e
 refine⟨rfl,hB,fun j u hu=>?_⟩
 show w.cell? ⟨g,a.length+j,none⟩=some u
 rw[cell_of_row _ _ (a.length+j) _ _ _ h,←hu]
 show (bv (a++b)).toArray[a.length+j]? = _
 rw[List.getElem?_toArray,bv_append,List.getElem?_append_right (by rw[bv_length];omega),bv_length,Nat.add_sub_cancel_left]
theorem LL4 {w:World} {x y z u:Value} {a b c d:List UInt8} {g:Nat} (t:TypeId) (hg:g=w.heap.size) (hx:SB w w.heap.size x a) (hy:SB w w.heap.size y b) (hz:SB w w.heap.size z c) (hu:SB w w.heap.size u d):LL (w.alloc (.cells #[x,y,z,u] t)) (w.alloc (.cells #[x,y,z,u] t)).heap.size (.slice (some ⟨g,0,none⟩) 4 4) [a,b,c,d] :=
 LL.new [x,y,z,u] [a,b,c,d] t hg rfl rfl (by simp[maxLen]) (fun i u l h1 h2=>by
  rcases i with _|_|_|_|i
  ·simp at h1 h2;subst h1;subst h2;exact hx
  ·simp at h1 h2;subst h1;subst h2;exact hy
  ·simp at h1 h2;subst h1;subst h2;exact hz
  ·simp at h1 h2;subst h1;subst h2;exact hu
  ·simp at h1)
theorem LL.on' {w w':World} {v:Value} {ls:List (List UInt8)} (h:LL w w.heap.size v ls) (hb:Below w.heap.size w w'):LL w' w'.heap.size v ls:=by
 obtain⟨vs,h1,h2,h3⟩:=h
 exact⟨vs,(h1.below hb).more hb.size,h2,fun i u l hu hl=>(h3 i u l hu hl).on hb⟩
theorem flat4 (a b c d:List UInt8):[a,b,c,d].flatten=a++(b++(c++d)):=by simp
theorem res_16 {fn:Func} {p:Tmp} (h:fn.results=#[.cell p 199]) (tmps:Array Value) (w:World) (g:Nat) (cs:Array Value) (hp:tmps.getD p undef=.pointer (some ⟨g,0,none⟩)) (hg:w.heap[g]? = some (rowT 199 cs)) (hn:cs.size=16) :
  (results fn tmps).run Tryz.prog w=.ok (.agg cs) w :=
 results_cell_row h tmps w g _ cs (0,0) _ hp hg Tryz.underlying199 rfl (by rw[hn];kernel_rfl)
theorem kTag_any (ke km nonce ad x:List UInt8) (he:ke.length=32) (hm:km.length=32) (hn:nonce.length=12) (kk cn ct:Array Value) (hkk:dgA (ke++km)=kk) (hcn:dgA nonce=cn) (hct:dgA (tagB km nonce ad x)=ct) (va vx:Value) (w:World)
  (hva:SB w w.heap.size va ad) (hvx:SB w w.heap.size vx x) (hla:ad.length≤1099511627776) (hlx:x.length≤1099511627776) (hk:KTab w 0) (h1:0<w.heap.size) :
  Calls Tryz.prog 117 #[.agg kk,.agg cn,va,vx] w fun e w'=>e=.returned (.agg ct)∧Below w.heap.size w w':=by
 obtain⟨Aa,ca,rfl,hca,hcam,_⟩:=id hva
 have hca':ca≤9223372036854775807:=by unfold maxLen at hcam;omega
 obtain⟨Ax,cx,rfl,_,_,_⟩:=id hvx
 have HK:=Lib.hid (And.intro he (And.intro hm (And.intro hn (And.intro hkk (And.intro hcn hct)))))
 clear he hm hn hkk hcn hct hcam
 go_enter Tryz.func117,Tryz.ntmps117
 go_upto_region 1 with fail
 generalize hWA:World.alloc _ _=wA
 have rT:wA.heap[w.heap.size+1+1]? = some (rowT 199 (dgA (List.replicate 16 0))):=by
  rw[←hWA]
  have h:=heap_alloc_new ((w.alloc (.cells kk 93)).alloc (.cells cn 173)) (rowT 199 (dgA (List.replicate 16 0)))
  simp only[World.size_alloc] at h
  exact h
 have rN:wA.heap[w.heap.size+1]? = some (rowT 173 cn):=by
  rw[←hWA]
  exact (heap_alloc_old _ _ (by simp)).trans (heap_alloc2_new w _ _)
 have rK:wA.heap[w.heap.size]? = some (rowT 93 kk):=by
  rw[←hWA]
  exact (heap_alloc_old _ _ (by simp;omega)).trans (heap_alloc2_old w _ _)
 have bA:Below w.heap.size w wA:=by rw[←hWA];exact balloc (balloc (balloc (bself w) _) _) _
 have zA:wA.heap.size=w.heap.size+1+1+1:=by rw[←hWA];simp
 clear hWA
 obtain⟨he,hm,hn,hkk,hcn,hct⟩:=HK.out
 obtain⟨fx,hfx⟩:∃fx,fx=fix ad.length 8:=⟨_,rfl⟩
 obtain⟨tg,htg⟩:∃tg,tg=tagB km nonce ad x:=⟨_,rfl⟩
 obtain⟨mc,hmc⟩:∃mc,mc=macOf km (fx++(ad++(nonce++x))):=⟨_,rfl⟩
 have htm:tg=mc.take 16:=by rw[htg,hmc,hfx];rfl
 have hml:mc.length=32:=by rw[hmc,macOf_length]
 obtain⟨d,hd⟩:∃d,dgA mc=d:=⟨_,rfl⟩
 have hdn:d.size=32:=by rw[←hd,dgA_size,hml]
 have hd1:∀v∈d.toList,v.oneCell'=true:=by rw[←hd];exact dgA_one mc
 have HF:Hid (∀W,Below wA.heap.size wA W→Calls Tryz.prog 60 #[.slice none 0 0,.int .u64 (ad.length:Int),.int .i64 8] W fun e w'=>∃r,e=.returned r∧OB w' W.heap.size r fx∧Below W.heap.size W w'):=Lib.hid (fun W _=>(cFix_any _ [] ad.length 8 W (SB.nil_ _ _) (by simp) (by omega) (by omega) (by omega)).mono (by
  rintro e w' ⟨r,rfl,ho,hb⟩
  rw[fixN8,List.nil_append,←hfx] at ho
  exact⟨r,rfl,ho,hb⟩))
 have HL:Hid (∀W r,Below wA.heap.size wA W→SB W W.heap.size r fx→LL (W.alloc (.cells #[r,.slice Aa ad.length ca,.slice (some ⟨w.heap.size+1,0,none⟩) 12 12,.slice Ax x.length cx] 56)) (W.alloc (.cells #[r,.slice Aa ad.length ca,.slice (some ⟨w.heap.size+1,0,none⟩) 12 12,.slice Ax x.length cx] 56)).heap.size (.slice (some ⟨W.heap.size,0,none⟩) 4 4) [fx,ad,nonce,x]):=Lib.hid (fun W r hb hr=>by
  have bw:=bA.trans (hb.mono (by omega))
  have zW:=hb.size
  exact LL4 56 rfl hr (hva.on bw) (SB.ofRow (t:=173) (fr:=(0,0)) ((hb.block (w.heap.size+1) (by omega)).trans rN) hcn hn.symm (by omega) (by rw[hn];simp[maxLen])) (hvx.on bw))
 have HM:Hid (∀W u,Below wA.heap.size wA W→LL W W.heap.size u [fx,ad,nonce,x]→Calls Tryz.prog 128 #[.slice (some ⟨w.heap.size,32,none⟩) 32 32,u] W fun e w'=>e=.returned (.agg d)∧Below W.heap.size W w'):=Lib.hid (fun W u hb hL=>by
  have bw:=bA.trans (hb.mono (by omega))
  have zW:=hb.size
  exact kMacC km [fx,ad,nonce,x] d (by rw[flat4,←hmc];exact hd) _ _ W (SB.part (t:=93) (fr:=(0,0)) ((hb.block w.heap.size (by omega)).trans rK) hkk he.symm hm.symm (by omega) (by rw[hm];simp[maxLen])) hL (by omega) (by rw[flat4,hfx];simp only[List.length_append,fix_length];omega) (hk.on bw h1) (by omega))
 have HK2:Hid (tg.length=16∧ct.size=16∧(∀v∈ct.toList,v.oneCell'=true)∧(bv tg).toArray=ct):=Lib.hid ⟨by rw[htg];exact tagB_length _ _ _ _,by rw[←hct,dgA_size,tagB_length],by rw[←hct];exact dgA_one _,by rw[htg];exact hct⟩
 have HG:Hid (∀W D,Below wA.heap.size wA W→W.heap[D]? = some (rowO d)→w.heap.size+1+1<D→W.rangeAt D 0 (bv tg)∧W.heap[w.heap.size+1+1]? = some (rowT 199 (dgA (List.replicate 16 0)))∧(W.setRow (w.heap.size+1+1) ct).heap[w.heap.size+1+1]? = some (rowT 199 ct)∧Below w.heap.size w (W.setRow (w.heap.size+1+1) ct)):=Lib.hid (fun W D hb hD hDz=>by
  have h5:=(hb.block (w.heap.size+1+1) (by omega)).trans rT
  refine⟨fun j v hv=>?_,h5,setRow_heap _ _ _ _ _ _ h5,below_setRow (bA.trans (hb.mono (by omega))) (by omega) _⟩
  rw[cell_of_row _ _ (0+j) _ _ _ hD,Nat.zero_add,←hd]
  rw[htm] at hv
  have hj:=(List.getElem?_eq_some_iff.1 hv).1
  rw[bv_take,List.getElem?_take] at hv
  split at hv
  ·simpa using hv
  ·cases hv)
 have HZ:Hid ((dgA (List.replicate 32 0)).size=32):=Lib.hid (by rw[dgA_size];rfl)
 have HN:Hid (d.size=32∧∀v∈d.toList,v.oneCell'=true):=Lib.hid ⟨hdn,hd1⟩
 clear he hm hn hkk hcn hct hfx htg hmc htm hd hdn hd1 hml rT rN rK HK hva hvx
 have hat:∀g W,(Instr.arrayAt 199 (.slice (some ⟨g,0,none⟩) 16 32)).run Tryz.prog W=.ok (.pointer (some ⟨g,0,none⟩)) W:=fun g W=>run_arrayAt W 199 _ 16 _ 16 32 Tryz.underlying199 (by omega)
 have gw:IntKind.u64.wrap (ad.length:Int)=(ad.length:Int):=by rw[IntKind.wrap_u64];omega
 refine wp_region_noPanic ?_
 refine wp_region_held_drew (S:=fun w'=>True∧True) (by kernel_rfl) ⟨trivial,trivial⟩ (fun hHeld=>?_)
 have b0:Below wA.heap.size wA wA.drew:=bdrew (bself wA)
 obtain⟨w0,hw0⟩:∃w0,w0=wA.drew:=⟨_,rfl⟩
 rw[←hw0] at b0 ⊢
 clear hw0 hHeld
 have hHeld:True∧True:=⟨trivial,trivial⟩
 refine rtk 0 ?_
 refine rtk 1 ?_
 refine rtk 2 ?_
 refine rtk 3 ?_
 refine rtk 4 ?_
 refine rtk 6 ?_
 refine rtk 7 ?_
 refine rtk 8 ?_
 refine reg_pair 5 11 (by rfl) (by rfl) (by kernel_rfl) (by rfl) (by rfl) (fun K hK=>?_) (fun K hK=>?_)
 ·skip
  (go_simp;go_at_call 60;refine (HF.out _ b0).mono ?_;rintro _ w5 ⟨r5,rfl,ho5,hb5⟩;obtain⟨A5,c5,rfl,_,_,_⟩:=id ho5.sb;have b5:=bstep b0 hb5;go_wp2_with fail)
  refine hK.out _ _ ?_ (fun hHeld=>?_)
  ·exact⟨trivial,trivial⟩
  clear hK K
  try simp only[Act.put,q1,q2,q3]
  refine reg_pair 9 11 (by rfl) (by rfl) (by kernel_rfl) (by rfl) (by rfl) (fun K hK=>?_) (fun K hK=>?_)
  ·skip
   (go_simp)
   refine hK.out _ _ ?_ (fun hHeld=>?_)
   ·exact⟨trivial,trivial⟩
   clear hK K
   try simp only[Act.put,q1,q2,q3]
   generalize hW9:World.alloc _ _=w9
   have L9:LL w9 w9.heap.size (.slice (some ⟨w5.heap.size,0,none⟩) 4 4) [fx,ad,nonce,x]:=by rw[←hW9];exact HL.out _ _ b5 ho5.sb
   have b9:Below wA.heap.size wA w9:=by rw[←hW9];exact balloc b5 _
   have c9:Below w5.heap.size w5 w9:=by rw[←hW9];exact balloc (bself _) _
   clear hW9
   refine reg_pair 10 11 (by rfl) (by rfl) (by kernel_rfl) (by rfl) (by rfl) (fun K hK=>?_) (fun K hK=>?_)
   ·skip
    (go_simp;go_at_call 128;refine (HM.out _ _ b9 L9).mono ?_;rintro _ w10 ⟨rfl,hb10⟩;have b10:=bstep b9 hb10;go_wp2_with fail)
    refine hK.out _ _ ?_ (fun hHeld=>?_)
    ·exact⟨trivial,trivial⟩
    clear hK K
    try simp only[Act.put,q1,q2,q3]
    refine ro 11 (fun K hK=>?_)
    (go_simp)
    refine hK.out _ _ ?_ (fun hHeld=>?_)
    ·exact⟨trivial,trivial⟩
    clear hK K
    try simp only[Act.put,q1,q2,q3]
    generalize hWD:World.alloc _ _=wD
    have rD:wD.heap[w10.heap.size]? = some (rowO (dgA (List.replicate 32 0))):=by rw[←hWD];exact heap_alloc_new _ (rowO (dgA (List.replicate 32 0)))
    have bD:Below wA.heap.size wA wD:=by rw[←hWD];exact balloc b10 _
    have cD:Below w10.heap.size w10 wD:=by rw[←hWD];exact balloc (bself _) _
    have zD:w10.heap.size<wD.heap.size:=(Array.getElem?_eq_some_iff.1 rD).1
    clear hWD
    refine ro 12 (fun K hK=>?_)
    (refine wp_storeR 53 (.tmp 9) (.tmp 20) rfl _ rfl _ d rfl rD (by rw[HN.out.1];kernel_rfl) (by rw[HN.out.1,HZ.out]) (Array.all_eq_true_iff_forall_mem.2 (fun v hv=>HN.out.2 v (by simpa using hv))) ?_)
    refine hK.out _ _ ?_ (fun hHeld=>?_)
    ·exact⟨trivial,trivial⟩
    clear hK K
    try simp only[Act.put]
    generalize hWE:World.setRow _ _ _=wE
    have hD:wE.heap[w10.heap.size]? = some (rowO d):=by rw[←hWE];exact setRow_heap _ _ _ _ _ _ rD
    have hb:Below wA.heap.size wA wE:=by rw[←hWE];exact below_setRow bD b10.size _
    have HT:=Lib.hid (HG.out _ _ hb hD (by have:=b10.size;omega))
    clear hWE
    refine rdn ?_
    go_wp2_with (first|(refine wpList_load_mid rfl 199 _ rfl w10.heap.size 0 rfl (bv tg) _ HT.out.1 Tryz.underlying199 rfl (by rw[bv_length,HK2.out.1];kernel_rfl) ?_;rw[HK2.out.2.2.2])|(refine wl_storeT 199 (n:=16) (by kernel_rfl) rfl (.tmp 8) (.tmp 23) rfl _ rfl _ ct rfl HT.out.2.1 (by rw[dgA_size];rfl) HK2.out.2.1 HK2.out.2.2.1 ?_))
    exact bodyPost_ret (v:=.agg ct) (res_16 Tryz.results117 _ _ _ ct rfl HT.out.2.2.1 HK2.out.2.1) rfl ⟨rfl,HT.out.2.2.2⟩
   ·skip
    (go_simp)
    refine hK.out _ _ ?_ (fun hHeld=>?_)
    ·exact⟨trivial,trivial⟩
    clear hK K
    try simp only[Act.put,q1,q2,q3]
    generalize hWD:World.alloc _ _=wD
    have rD:wD.heap[w9.heap.size]? = some (rowO (dgA (List.replicate 32 0))):=by rw[←hWD];exact heap_alloc_new _ (rowO (dgA (List.replicate 32 0)))
    have bD:Below wA.heap.size wA wD:=by rw[←hWD];exact balloc b9 _
    have cD:Below w9.heap.size w9 wD:=by rw[←hWD];exact balloc (bself _) _
    have zD:w9.heap.size<wD.heap.size:=(Array.getElem?_eq_some_iff.1 rD).1
    clear hWD
    have L9':=L9.on' cD
    refine ro 10 (fun K hK=>?_)
    (go_simp;go_at_call 128;refine (HM.out _ _ bD L9').mono ?_;rintro _ w10 ⟨rfl,hb10⟩;have b10:=bstep bD hb10;go_wp2_with fail)
    refine hK.out _ _ ?_ (fun hHeld=>?_)
    ·exact⟨trivial,trivial⟩
    clear hK K
    try simp only[Act.put,q1,q2,q3]
    have rD':=(hb10.block _ zD).trans rD
    refine ro 12 (fun K hK=>?_)
    (refine wp_storeR 53 (.tmp 9) (.tmp 20) rfl _ rfl _ d rfl rD' (by rw[HN.out.1];kernel_rfl) (by rw[HN.out.1,HZ.out]) (Array.all_eq_true_iff_forall_mem.2 (fun v hv=>HN.out.2 v (by simpa using hv))) ?_)
    refine hK.out _ _ ?_ (fun hHeld=>?_)
    ·exact⟨trivial,trivial⟩
    clear hK K
    try simp only[Act.put]
    generalize hWE:World.setRow _ _ _=wE
    have hD:wE.heap[w9.heap.size]? = some (rowO d):=by rw[←hWE];exact setRow_heap _ _ _ _ _ _ rD'
    have hb:Below wA.heap.size wA wE:=by rw[←hWE];exact below_setRow b10 b9.size _
    have HT:=Lib.hid (HG.out _ _ hb hD (by have:=b9.size;omega))
    clear hWE
    refine rdn ?_
    go_wp2_with (first|(refine wpList_load_mid rfl 199 _ rfl w9.heap.size 0 rfl (bv tg) _ HT.out.1 Tryz.underlying199 rfl (by rw[bv_length,HK2.out.1];kernel_rfl) ?_;rw[HK2.out.2.2.2])|(refine wl_storeT 199 (n:=16) (by kernel_rfl) rfl (.tmp 8) (.tmp 23) rfl _ rfl _ ct rfl HT.out.2.1 (by rw[dgA_size];rfl) HK2.out.2.1 HK2.out.2.2.1 ?_))
    exact bodyPost_ret (v:=.agg ct) (res_16 Tryz.results117 _ _ _ ct rfl HT.out.2.2.1 HK2.out.2.1) rfl ⟨rfl,HT.out.2.2.2⟩
  ·skip
   (go_simp)
   refine hK.out _ _ ?_ (fun hHeld=>?_)
   ·exact⟨trivial,trivial⟩
   clear hK K
   try simp only[Act.put,q1,q2,q3]
   generalize hWD:World.alloc _ _=wD
   have rD:wD.heap[w5.heap.size]? = some (rowO (dgA (List.replicate 32 0))):=by rw[←hWD];exact heap_alloc_new _ (rowO (dgA (List.replicate 32 0)))
   have bD:Below wA.heap.size wA wD:=by rw[←hWD];exact balloc b5 _
   have cD:Below w5.heap.size w5 wD:=by rw[←hWD];exact balloc (bself _) _
   have zD:w5.heap.size<wD.heap.size:=(Array.getElem?_eq_some_iff.1 rD).1
   clear hWD
   have hs5:=ho5.sb.on cD
   refine ro 9 (fun K hK=>?_)
   (go_simp)
   refine hK.out _ _ ?_ (fun hHeld=>?_)
   ·exact⟨trivial,trivial⟩
   clear hK K
   try simp only[Act.put,q1,q2,q3]
   generalize hW9:World.alloc _ _=w9
   have L9:LL w9 w9.heap.size (.slice (some ⟨wD.heap.size,0,none⟩) 4 4) [fx,ad,nonce,x]:=by rw[←hW9];exact HL.out _ _ bD hs5
   have b9:Below wA.heap.size wA w9:=by rw[←hW9];exact balloc bD _
   have c9:Below wD.heap.size wD w9:=by rw[←hW9];exact balloc (bself _) _
   clear hW9
   refine ro 10 (fun K hK=>?_)
   (go_simp;go_at_call 128;refine (HM.out _ _ b9 L9).mono ?_;rintro _ w10 ⟨rfl,hb10⟩;have b10:=bstep b9 hb10;go_wp2_with fail)
   refine hK.out _ _ ?_ (fun hHeld=>?_)
   ·exact⟨trivial,trivial⟩
   clear hK K
   try simp only[Act.put,q1,q2,q3]
   have rD':=(hb10.block _ (Nat.lt_of_lt_of_le zD c9.size)).trans ((c9.block _ zD).trans rD)
   refine ro 12 (fun K hK=>?_)
   (refine wp_storeR 53 (.tmp 9) (.tmp 20) rfl _ rfl _ d rfl rD' (by rw[HN.out.1];kernel_rfl) (by rw[HN.out.1,HZ.out]) (Array.all_eq_true_iff_forall_mem.2 (fun v hv=>HN.out.2 v (by simpa using hv))) ?_)
   refine hK.out _ _ ?_ (fun hHeld=>?_)
   ·exact⟨trivial,trivial⟩
   clear hK K
   try simp only[Act.put]
   generalize hWE:World.setRow _ _ _=wE
   have hD:wE.heap[w5.heap.size]? = some (rowO d):=by rw[←hWE];exact setRow_heap _ _ _ _ _ _ rD'
   have hb:Below wA.heap.size wA wE:=by rw[←hWE];exact below_setRow b10 b5.size _
   have HT:=Lib.hid (HG.out _ _ hb hD (by have:=b5.size;omega))
   clear hWE
   refine rdn ?_
   go_wp2_with (first|(refine wpList_load_mid rfl 199 _ rfl w5.heap.size 0 rfl (bv tg) _ HT.out.1 Tryz.underlying199 rfl (by rw[bv_length,HK2.out.1];kernel_rfl) ?_;rw[HK2.out.2.2.2])|(refine wl_storeT 199 (n:=16) (by kernel_rfl) rfl (.tmp 8) (.tmp 23) rfl _ rfl _ ct rfl HT.out.2.1 (by rw[dgA_size];rfl) HK2.out.2.1 HK2.out.2.2.1 ?_))
   exact bodyPost_ret (v:=.agg ct) (res_16 Tryz.results117 _ _ _ ct rfl HT.out.2.2.1 HK2.out.2.1) rfl ⟨rfl,HT.out.2.2.2⟩
 ·skip
  (go_simp)
  refine hK.out _ _ ?_ (fun hHeld=>?_)
  ·exact⟨trivial,trivial⟩
  clear hK K
  try simp only[Act.put,q1,q2,q3]
  generalize hWD:World.alloc _ _=wD
  have rD:wD.heap[w0.heap.size]? = some (rowO (dgA (List.replicate 32 0))):=by rw[←hWD];exact heap_alloc_new _ (rowO (dgA (List.replicate 32 0)))
  have bD:Below wA.heap.size wA wD:=by rw[←hWD];exact balloc b0 _
  have cD:Below w0.heap.size w0 wD:=by rw[←hWD];exact balloc (bself _) _
  have zD:w0.heap.size<wD.heap.size:=(Array.getElem?_eq_some_iff.1 rD).1
  clear hWD
  refine ro 5 (fun K hK=>?_)
  (go_simp;go_at_call 60;refine (HF.out _ bD).mono ?_;rintro _ w5 ⟨r5,rfl,ho5,hb5⟩;obtain⟨A5,c5,rfl,_,_,_⟩:=id ho5.sb;have b5:=bstep bD hb5;go_wp2_with fail)
  refine hK.out _ _ ?_ (fun hHeld=>?_)
  ·exact⟨trivial,trivial⟩
  clear hK K
  try simp only[Act.put,q1,q2,q3]
  refine ro 9 (fun K hK=>?_)
  (go_simp)
  refine hK.out _ _ ?_ (fun hHeld=>?_)
  ·exact⟨trivial,trivial⟩
  clear hK K
  try simp only[Act.put,q1,q2,q3]
  generalize hW9:World.alloc _ _=w9
  have L9:LL w9 w9.heap.size (.slice (some ⟨w5.heap.size,0,none⟩) 4 4) [fx,ad,nonce,x]:=by rw[←hW9];exact HL.out _ _ b5 ho5.sb
  have b9:Below wA.heap.size wA w9:=by rw[←hW9];exact balloc b5 _
  have c9:Below w5.heap.size w5 w9:=by rw[←hW9];exact balloc (bself _) _
  clear hW9
  refine ro 10 (fun K hK=>?_)
  (go_simp;go_at_call 128;refine (HM.out _ _ b9 L9).mono ?_;rintro _ w10 ⟨rfl,hb10⟩;have b10:=bstep b9 hb10;go_wp2_with fail)
  refine hK.out _ _ ?_ (fun hHeld=>?_)
  ·exact⟨trivial,trivial⟩
  clear hK K
  try simp only[Act.put,q1,q2,q3]
  have zD5:=Nat.lt_of_lt_of_le zD hb5.size
  have rD':=(hb10.block _ (Nat.lt_of_lt_of_le zD5 c9.size)).trans ((c9.block _ zD5).trans ((hb5.block _ zD).trans rD))
  refine ro 12 (fun K hK=>?_)
  (refine wp_storeR 53 (.tmp 9) (.tmp 20) rfl _ rfl _ d rfl rD' (by rw[HN.out.1];kernel_rfl) (by rw[HN.out.1,HZ.out]) (Array.all_eq_true_iff_forall_mem.2 (fun v hv=>HN.out.2 v (by simpa using hv))) ?_)
  refine hK.out _ _ ?_ (fun hHeld=>?_)
  ·exact⟨trivial,trivial⟩
  clear hK K
  try simp only[Act.put]
  generalize hWE:World.setRow _ _ _=wE
  have hD:wE.heap[w0.heap.size]? = some (rowO d):=by rw[←hWE];exact setRow_heap _ _ _ _ _ _ rD'
  have hb:Below wA.heap.size wA wE:=by rw[←hWE];exact below_setRow b10 b0.size _
  have HT:=Lib.hid (HG.out _ _ hb hD (by have:=b0.size;omega))
  clear hWE
  refine rdn ?_
  go_wp2_with (first|(refine wpList_load_mid rfl 199 _ rfl w0.heap.size 0 rfl (bv tg) _ HT.out.1 Tryz.underlying199 rfl (by rw[bv_length,HK2.out.1];kernel_rfl) ?_;rw[HK2.out.2.2.2])|(refine wl_storeT 199 (n:=16) (by kernel_rfl) rfl (.tmp 8) (.tmp 23) rfl _ rfl _ ct rfl HT.out.2.1 (by rw[dgA_size];rfl) HK2.out.2.1 HK2.out.2.2.1 ?_))
  exact bodyPost_ret (v:=.agg ct) (res_16 Tryz.results117 _ _ _ ct rfl HT.out.2.2.1 HK2.out.2.1) rfl ⟨rfl,HT.out.2.2.2⟩
end Go.Proofs.YtchjknbideoieaaGreatDoor
namespace Go.Proofs.YtchjknbideoieaaGreatDoor
set_option maxRecDepth 100000
set_option maxHeartbeats 8000000
open Go.RowKit
section
variable {ops:Array Oper} {rest:List Oper} {o:Oper} {a:Act} {Q:Exit→Act→World→Prop} {w:World}
theorem wl_loadKey (hgd:o.guard=none) (x:Operand) (ho:o.op=.load 93 x) (g:Nat) (hx:a.eval x=.pointer (some ⟨g,0,none⟩)) (cs:Array Value) (hg:w.heap[g]? = some (rowT 93 cs)) (hn:cs.size=64)
  (h:wpList Tryz.prog ops Q rest (a.put o.dst (.agg cs)) w):wpList Tryz.prog ops Q (o::rest) a w :=
 wpList_load_row hgd 93 x ho g hx _ cs (0,0) _ hg Tryz.underlying93 rfl (by rw[hn];kernel_rfl) h
end
theorem range_half {w:World} {g:Nat} {a b:List UInt8} {t:TypeId} {fr:Nat × Nat} {c:Array Value} (h:w.heap[g]? = some (.cells c t fr)) (hc:dgA (a++b)=c):w.rangeAt g 0 (bv a):=by
 subst hc
 intro j v hv
 rw[cell_of_row _ _ (0+j) _ _ _ h,Nat.zero_add,←hv]
 show (bv (a++b)).toArray[j]? = _
 have hj:=(List.getElem?_eq_some_iff.1 hv).1
 rw[List.getElem?_toArray,bv_append,List.getElem?_append_left hj]
theorem kSeal_any (ke km nonce ad x:List UInt8) (he:ke.length=32) (hm:km.length=32) (hn:nonce.length=12) (kk cn:Array Value) (hkk:dgA (ke++km)=kk) (hcn:dgA nonce=cn) (va vx:Value) (w:World)
  (hva:SB w w.heap.size va ad) (hvx:SB w w.heap.size vx x) (hla:ad.length≤1099511627776) (hlx:x.length≤1099511627776) (hk:KTab w 0) (h1:0<w.heap.size) :
  Calls Tryz.prog 93 #[.agg kk,.agg cn,va,vx] w fun e w'=>∃r,e=.returned r∧OB w' w.heap.size r (sealB (strmB ke nonce) (tagB km nonce ad) x)∧Below w.heap.size w w':=by
 obtain⟨Aa,ca,rfl,_,_,_⟩:=id hva
 obtain⟨Ax,cx,rfl,_,_,_⟩:=id hvx
 have hks:kk.size=64:=by rw[←hkk,dgA_size,List.length_append];omega
 have hns:cn.size=12:=by rw[←hcn,dgA_size,hn]
 obtain⟨ck,hck⟩:∃ck,dgA ke=ck:=⟨_,rfl⟩
 obtain⟨X,hX⟩:∃X,X=crossF (strmB ke nonce) x.length 1 x:=⟨_,rfl⟩
 have hXl:X.length=x.length:=by rw[hX];exact crossF_length _ (strmB_length ke nonce) _ _ _ (Nat.le_refl _)
 obtain⟨tg,htg⟩:∃tg,tg=tagB km nonce ad X:=⟨_,rfl⟩
 have htl:tg.length=16:=by rw[htg];exact tagB_length _ _ _ _
 obtain⟨ct,hct⟩:∃ct,dgA tg=ct:=⟨_,rfl⟩
 have HCT:Hid (ct.size=16∧∀v∈ct.toList,v.oneCell'=true):=Lib.hid ⟨by rw[←hct,dgA_size,htl],by rw[←hct];exact dgA_one _⟩
 have HRES:Hid (X++tg=sealB (strmB ke nonce) (tagB km nonce ad) x):=Lib.hid (by rw[htg,hX];rfl)
 have rK:((w.alloc (.cells kk 93)).alloc (.cells cn 173)).heap[w.heap.size]? = some (rowT 93 kk):=heap_alloc2_old w _ _
 have rN:((w.alloc (.cells kk 93)).alloc (.cells cn 173)).heap[w.heap.size+1]? = some (rowT 173 cn):=heap_alloc2_new w _ _
 have bA:Below w.heap.size w ((w.alloc (.cells kk 93)).alloc (.cells cn 173)):=balloc (balloc (bself w) _) _
 have zA:((w.alloc (.cells kk 93)).alloc (.cells cn 173)).heap.size=w.heap.size+1+1:=by simp
 have HH:=Lib.hid (And.intro rK (And.intro rN (And.intro bA zA)))
 clear rK rN bA zA
 go_enter Tryz.func93,Tryz.ntmps93
 go_upto_region 1 with fail
 obtain⟨rK,rN,bA,zA⟩:=HH.out
 generalize World.alloc _ _=wA at rK rN bA zA ⊢
 clear HH
 have HC:Hid (Calls Tryz.prog 116 #[.agg ck,.agg cn,.int .u32 ((1:UInt32).toNat:Int),.slice Ax x.length cx] wA fun e w'=>∃r,e=.returned r∧OB w' wA.heap.size r X∧Below wA.heap.size wA w'):=Lib.hid ((kCross_any ke nonce he hn ck cn hck hcn 1 _ x wA (hvx.on bA) (by omega)).mono (by rw[←hX];exact fun _ _ h=>h))
 have hr0:=range_half (t:=93) (fr:=(0,0)) rK hkk
 go_upto_region 2 with (first|(go_at_call 116;refine HC.out.mono ?_;rintro _ w1 ⟨r9,rfl,ho9,hb1⟩)|(refine wpList_load_mid rfl 52 _ rfl w.heap.size 0 rfl (bv ke) _ hr0 Tryz.underlying52 rfl (by rw[bv_length,he];kernel_rfl) ?_;rw[show (bv ke).toArray=ck from hck])|(refine wl_loadT 173 (n:=12) Tryz.underlying173 (by kernel_rfl) rfl (.tmp 5) rfl _ rfl cn rN hns ?_))
 have b1:Below w.heap.size w w1:=bA.trans (hb1.mono (by omega))
 have z1:=hb1.size
 have rK1:w1.heap[w.heap.size]? = some (rowT 93 kk):=(hb1.block _ (by omega)).trans rK
 have rN1:w1.heap[w.heap.size+1]? = some (rowT 173 cn):=(hb1.block _ (by omega)).trans rN
 have HT:Hid (Calls Tryz.prog 117 #[.agg kk,.agg cn,.slice Aa ad.length ca,r9] w1 fun e w'=>e=.returned (.agg ct)∧Below w1.heap.size w1 w'):=Lib.hid (kTag_any ke km nonce ad X he hm hn kk cn ct hkk hcn (by rw[←htg];exact hct) _ _ w1 (hva.on b1) ho9.sb hla (by omega) (hk.on b1 h1) (by omega))
 clear HC hr0 rK rN
 go_upto_region 3 with (first|(go_at_call 117;refine HT.out.mono ?_;rintro _ w2 ⟨rfl,hb2⟩)|(refine wl_loadKey rfl (.tmp 4) rfl _ rfl kk rK1 hks ?_)|(refine wl_loadT 173 (n:=12) Tryz.underlying173 (by kernel_rfl) rfl (.tmp 5) rfl _ rfl cn rN1 hns ?_)|(refine wl_storeT 199 (n:=16) (by kernel_rfl) rfl (.tmp 10) (.tmp 20) rfl _ rfl _ ct rfl (heap_alloc_new _ (rowT 199 (dgA (List.replicate 16 0)))) (by rw[dgA_size];rfl) HCT.out.1 HCT.out.2 ?_))
 generalize hW3:World.setRow _ _ _=w3
 have hr3:w3.heap[w2.heap.size]? = some (rowT 199 ct):=by rw[←hW3];exact setRow_heap _ _ _ _ _ _ (heap_alloc_new _ (rowT 199 (dgA (List.replicate 16 0))))
 have b3:Below w1.heap.size w1 w3:=by rw[←hW3];exact below_setRow (balloc hb2 _) hb2.size _
 have ho3:OB w3 wA.heap.size r9 X:=ho9.below b3 (Nat.le_refl _)
 have z2:=hb2.size
 have z3:w2.heap.size<w3.heap.size:=(Array.getElem?_eq_some_iff.1 hr3).1
 have hs3:SB w3 w3.heap.size (.slice (some ⟨w2.heap.size,0,none⟩) 16 16) tg:=SB.ofRow hr3 hct htl.symm z3 (by rw[htl];simp[maxLen])
 have bw3:Below w.heap.size w w3:=b1.trans (b3.mono (by omega))
 have hln:X.length+tg.length≤140737488355328:=by omega
 have hbz:wA.heap.size≤w3.heap.size:=by omega
 clear hW3 HT rK1 rN1 hr3
 go_wp2_with (at_builtin;go_loud (refine wl_appB rfl (.tmp 21) (.tmp 22) rfl wA.heap.size _ X rfl ho3 w3.heap.size _ tg rfl hs3 hln hbz ?_);intro v4 w4 hown4 hg4 ho4 hb4)
 go_ret
 refine⟨_,rfl,?_,bw3.trans (hb4.mono (by omega))⟩
 rw[←HRES.out]
 exact hown4.rebase (by omega)
end Go.Proofs.YtchjknbideoieaaGreatDoor
namespace Go.Proofs.YtchjknbideoieaaGreatDoor
set_option maxRecDepth 100000
set_option maxHeartbeats 8000000
open Go.RowKit
theorem run_eqItemsG (w:World) (d n:Nat) (l m:List UInt8) (hl:l.length=n) (hm:m.length=n):∀is:List Nat,(∀i∈is,i<n) →
  ∃r:Bool,(Op.eqItems (d+1) 5 1 (dgA l) (dgA m) is).run Tryz.prog w=.ok r w∧(r=true↔∀i∈is,l[i]? = m[i]?)
 | [],_=>⟨true,by simp[Op.eqItems],by simp⟩
 | i::is,h=>by
  have hi:=h i (by simp)
  obtain⟨r,hr,hiff⟩:=run_eqItemsG w d n l m hl hm is (fun j hj=>h j (by simp[hj]))
  have he:Tryz.prog.plainKey 5=true:=by kernel_rfl
  have p1:(Go.part 5 (dgA l) (i*1)).run Tryz.prog w=.ok (u8v (l[i]'(by omega))) w:=run_part_plain w he (by rw[Nat.mul_one];simpa using bv_get l i (by omega))
  have p2:(Go.part 5 (dgA m) (i*1)).run Tryz.prog w=.ok (u8v (m[i]'(by omega))) w:=run_part_plain w he (by rw[Nat.mul_one];simpa using bv_get m i (by omega))
  simp only[Op.eqItems,Sem.run_bind,p1,p2,Result.andThen_ok,run_equalIn_int w d 5 .u8 .u8 _ _ Tryz.underlying5]
  by_cases e:l[i]'(by omega)=m[i]'(by omega)
  ·refine⟨r,by simp[e,hr],?_⟩
   rw[hiff]
   simp[List.getElem?_eq_getElem (show i<l.length by omega),List.getElem?_eq_getElem (show i<m.length by omega),e]
  ·have e2:¬((l[i]'(by omega)).toNat:Int)=((m[i]'(by omega)).toNat:Int):=fun h2=>e (UInt8.toNat_inj.1 (by omega))
   refine⟨false,by simp[e2],?_⟩
   simp[List.getElem?_eq_getElem (show i<l.length by omega),List.getElem?_eq_getElem (show i<m.length by omega),e]
theorem run_eq16 (w:World) (l:List UInt8) (c:Array Value) (hl:l.length=16) (hc:dgA l=c):(Op.equalIn 10000 199 (.agg c) (.agg c)).run Tryz.prog w=.ok true w:=by
 subst hc
 obtain⟨i0,hi0,_⟩:=info_parts infoB
 rw[show (10000:Nat)=9999+1 from rfl,run_equalIn_array w 9999 (dgA l) (dgA l) Tryz.underlying199 hi0]
 obtain⟨r,hr,hiff⟩:=run_eqItemsG w 9998 16 l l hl hl (List.range 16) (fun i hi=>List.mem_range.1 hi)
 have hc:Tryz.prog.cellsOf 5=1:=by kernel_rfl
 rw[hc,show (9999:Nat)=9998+1 from rfl,hr]
 have e:r=true:=by rw[hiff];intro i _;rfl
 rw[e]
section
variable {o:Oper} {a:Act} {w:World}
theorem exec_loadKey (x:Operand) (ho:o.op=.load 93 x) (g:Nat) (hx:a.eval x=.pointer (some ⟨g,0,none⟩)) (cs:Array Value) (hg:w.heap[g]? = some (rowT 93 cs)) (hn:cs.size=64) :
  (execOp a.eval o).run Tryz.prog w=.ok (.value (.agg cs)) w:=by
 unfold execOp
 simp only[ho,hx,Instr.loadAt,Instr.sureAddr,Sem.run_bind,Sem.run_pure,Result.andThen_ok,run_loadVar_row w g 93 93 cs (0,0) _ hg Tryz.underlying93 rfl (by rw[hn];kernel_rfl)]
theorem exec_loadNon (x:Operand) (ho:o.op=.load 173 x) (g:Nat) (hx:a.eval x=.pointer (some ⟨g,0,none⟩)) (cs:Array Value) (hg:w.heap[g]? = some (rowT 173 cs)) (hn:cs.size=12) :
  (execOp a.eval o).run Tryz.prog w=.ok (.value (.agg cs)) w:=by
 unfold execOp
 simp only[ho,hx,Instr.loadAt,Instr.sureAddr,Sem.run_bind,Sem.run_pure,Result.andThen_ok,run_loadVar_row w g 173 173 cs (0,0) _ hg Tryz.underlying173 rfl (by rw[hn];kernel_rfl)]
theorem exec_load16 (x:Operand) (ho:o.op=.load 199 x) (b off:Nat) (hx:a.eval x=.pointer (some ⟨b,off,none⟩)) (l:List UInt8) (hl:l.length=16) (hc:w.rangeAt b off (bv l)) :
  (execOp a.eval o).run Tryz.prog w=.ok (.value (.agg (bv l).toArray)) w:=by
 unfold execOp
 simp only[ho,hx,Sem.run_bind,Sem.run_pure,Result.andThen_ok,run_loadAt_mid w b off 199 (bv l) _ hc Tryz.underlying199 rfl (by rw[bv_length,hl];kernel_rfl)]
end
theorem kOpen_any (ke km nonce ad x y:List UInt8) (he:ke.length=32) (hm:km.length=32) (hn:nonce.length=12) (kk cn:Array Value) (hkk:dgA (ke++km)=kk) (hcn:dgA nonce=cn) (hy:y=sealB (strmB ke nonce) (tagB km nonce ad) x) (va vy:Value) (w:World)
  (hva:SB w w.heap.size va ad) (hvy:SB w w.heap.size vy y) (hla:ad.length≤1099511627776) (hlx:x.length≤1099511627776) (hk:KTab w 0) (h1:0<w.heap.size) :
  Calls Tryz.prog 100 #[.agg kk,.agg cn,va,vy] w fun e w'=>∃r,e=.returned (.tuple #[r,.int .i64 0])∧OB w' w.heap.size r x∧Below w.heap.size w w':=by
 obtain⟨Aa,ca,rfl,_,_,_⟩:=id hva
 obtain⟨Ay,cy,rfl,hcy,hcym,hry⟩:=id hvy
 have hcy':cy≤9223372036854775807:=by unfold maxLen at hcym;omega
 obtain⟨X,hX⟩:∃X,X=crossB (strmB ke nonce) x:=⟨_,rfl⟩
 have hXl:X.length=x.length:=by rw[hX];exact crossB_length _ (strmB_length ke nonce) _
 obtain⟨tg,htg⟩:∃tg,tg=tagB km nonce ad X:=⟨_,rfl⟩
 have htl:tg.length=16:=by rw[htg];exact tagB_length _ _ _ _
 have hyX:y=X++tg:=by rw[hy,htg,hX];rfl
 have hXX:crossF (strmB ke nonce) X.length 1 X=x:=by
  have h:=crossB_twice (strmB ke nonce) (strmB_length ke nonce) x
  rw[hX]
  exact h
 obtain⟨n,hnn⟩:∃n,n=x.length:=⟨_,rfl⟩
 have hyl:y.length=n+16:=by rw[hyX,List.length_append,htl];omega
 rw[hyl] at hry hcy ⊢
 obtain⟨b,o,rfl,hb,hcell⟩:=hry.at_ (by omega)
 obtain⟨ct,hct⟩:∃ct,dgA tg=ct:=⟨_,rfl⟩
 have hks:kk.size=64:=by rw[←hkk,dgA_size,List.length_append];omega
 have hns:cn.size=12:=by rw[←hcn,dgA_size,hn]
 obtain⟨ck,hck⟩:∃ck,dgA ke=ck:=⟨_,rfl⟩
 have HRG:Hid (w.rangeAt b (o+n) (bv tg)):=Lib.hid (fun j v hv=>by
  have hj:=(List.getElem?_eq_some_iff.1 hv).1
  rw[bv_length] at hj
  rw[Nat.add_assoc]
  refine hcell (n+j) v ?_
  rw[hyX,bv_append,List.getElem?_append_right (by rw[bv_length];omega),bv_length,←hv]
  congr 1
  omega)
 have HSX:Hid (SB w w.heap.size (.slice (some ⟨b,o,none⟩) n cy) X):=Lib.hid (by
  have h:=Sl.take hvy (k:=n) (by omega) rfl
  unfold SB
  rw[show X.length=n by omega]
  rw[hyX,Nat.mul_one,←bv_take,List.take_left' (by omega)] at h
  exact h)
 have hcut:∀W,(Instr.sliceAt 56 (.slice (some ⟨b,o,none⟩) (n+16) cy) (some (.int .i64 (n:Int))) none none).run Tryz.prog W=.ok (.slice (some ⟨b,o+n,none⟩) 16 (cy-n)) W:=fun W=>by
  have h:=run_cutB W (some ⟨b,o,none⟩) (n+16) cy n .i64 (by omega)
  rw[if_neg (by omega),Option.map_some,add_lit0,Nat.add_sub_cancel_left] at h
  exact h
 have hat:∀W,(Instr.arrayAt 199 (.slice (some ⟨b,o+n,none⟩) 16 (cy-n))).run Tryz.prog W=.ok (.pointer (some ⟨b,o+n,none⟩)) W:=fun W=>run_arrayAt W 199 _ 16 _ 16 _ Tryz.underlying199 (by omega)
 have hEq:∀w',(Op.equalIn 10000 199 (.agg ct) (.agg ct)).run Tryz.prog w'=.ok true w':=fun w'=>run_eq16 w' tg ct htl hct
 have gn:((n:Nat):Int)+16-16=(n:Int):=by omega
 have rK:((w.alloc (.cells kk 93)).alloc (.cells cn 173)).heap[w.heap.size]? = some (rowT 93 kk):=heap_alloc2_old w _ _
 have rN:((w.alloc (.cells kk 93)).alloc (.cells cn 173)).heap[w.heap.size+1]? = some (rowT 173 cn):=heap_alloc2_new w _ _
 have bA:Below w.heap.size w ((w.alloc (.cells kk 93)).alloc (.cells cn 173)):=balloc (balloc (bself w) _) _
 have zA:((w.alloc (.cells kk 93)).alloc (.cells cn 173)).heap.size=w.heap.size+1+1:=by simp
 have HH:=Lib.hid (And.intro rK (And.intro rN (And.intro bA zA)))
 have HAL:=Lib.hid (And.intro he (And.intro hm (And.intro hn (And.intro hkk (And.intro hcn (And.intro hck (And.intro hXl (And.intro hnn (And.intro hct (And.intro htg (And.intro hXX htl)))))))))))
 clear rK rN bA zA hX htg hyX hXX hyl hcell hry hcym hct hck hkk hcn hy hnn hXl he hm hn hvy
 have hnx:n≤1099511627776:=by have:=HAL.out;omega
 clear hlx
 go_enter Tryz.func100,Tryz.ntmps100
 go_upto_region 1 with fail
 obtain⟨rK,rN,bA,zA⟩:=HH.out
 generalize World.alloc _ _=wA at rK rN bA zA ⊢
 clear HH
 go_upto_region 5 with fail
 have r16:wA.rangeAt b (o+n) (bv tg):=fun j v hv=>(bA.cell (p:=⟨b,o+n+j,none⟩) hb).trans (HRG.out j v hv)
 have HS1:Hid (∀W,Below wA.heap.size wA W→SB W W.heap.size (.slice (some ⟨b,o,none⟩) n cy) X):=Lib.hid (fun W hW=>HSX.out.on (bA.trans (hW.mono (by omega))))
 have hXn:X.length=n:=by have:=HAL.out;omega
 have HT:Hid (∀W,Below wA.heap.size wA W→Calls Tryz.prog 117 #[.agg kk,.agg cn,.slice Aa ad.length ca,.slice (some ⟨b,o,none⟩) n cy] W fun e w'=>e=.returned (.agg ct)∧Below W.heap.size W w'):=Lib.hid (fun W hW=>by
  obtain⟨he,hm,hn,hkk,hcn,hck,hXl,hnn,hct,htg,hXX,_⟩:=HAL.out
  have bw:=bA.trans (hW.mono (by omega))
  have zW:=hW.size
  exact kTag_any ke km nonce ad X he hm hn kk cn ct hkk hcn (by rw[←htg];exact hct) _ _ W (hva.on bw) (HS1.out W hW) hla (by omega) (hk.on bw h1) (by omega))
 have KS:Hid (∀w',Below wA.heap.size wA w'→w'.heap[w.heap.size]? = some (rowT 93 kk)∧w'.heap[w.heap.size+1]? = some (rowT 173 cn)∧w'.rangeAt b (o+n) (bv tg)):=Lib.hid (fun w' h=>⟨(h.block _ (by omega)).trans rK,(h.block _ (by omega)).trans rN,fun j v hv=>(h.cell (p:=⟨b,o+n+j,none⟩) (by show b<_;omega)).trans (r16 j v hv)⟩)
 have h16:=HAL.out.2.2.2.2.2.2.2.2.2.2.2
 have hctE:(bv tg).toArray=ct:=HAL.out.2.2.2.2.2.2.2.2.1
 refine wp_region_noPanic ?_
 refine wp_region_held_drew (S:=fun w'=>True∧(w'.heap[w.heap.size]? = some (rowT 93 kk)∧w'.heap[w.heap.size+1]? = some (rowT 173 cn)∧w'.rangeAt b (o+n) (bv tg))) (by kernel_rfl) ⟨trivial,KS.out _ (bdrew (bself wA))⟩ (fun hHeld=>?_)
 refine reg_take 0 (v:=.agg kk) (by rfl) (by kernel_rfl) (by kernel_rfl) (by kernel_rfl) (fun _ _ _ h=>h) (by rfl) ?_ (by assumption) ?_
 ·(intro wq hSq;exact exec_loadKey (.tmp 4) rfl _ rfl kk hSq.2.1 hks)
 try simp only[Act.put,q1,q2,q3]
 refine reg_take 1 (v:=.agg cn) (by rfl) (by kernel_rfl) (by kernel_rfl) (by kernel_rfl) (fun _ _ _ h=>h) (by rfl) ?_ (by assumption) ?_
 ·(intro wq hSq;exact exec_loadNon (.tmp 5) rfl _ rfl cn hSq.2.2.1 hns)
 try simp only[Act.put,q1,q2,q3]
 refine rtk 2 ?_
 refine rtk 3 ?_
 refine rtk 5 ?_
 refine rtk 6 ?_
 refine rtk 7 ?_
 refine rtk 8 ?_
 refine reg_take 9 (v:=.agg (bv tg).toArray) (by rfl) (by kernel_rfl) (by kernel_rfl) (by kernel_rfl) (fun _ _ _ h=>h) (by rfl) ?_ (by assumption) ?_
 ·(intro wq hSq;exact exec_load16 (.tmp 28) rfl b (o+n) rfl tg h16 hSq.2.2.2)
 try simp only[Act.put,q1,q2,q3]
 rw[hctE]
 refine ro 4 (fun K hK=>?_)
 (go_simp;go_at_call 117;refine (HT.out _ (bdrew (bself wA))).mono ?_;rintro _ w2 ⟨rfl,hb2⟩;have b2:=bstep (bdrew (bself wA)) hb2;go_wp2_with fail)
 refine hK.out _ _ ?_ (fun hHeld=>?_)
 ·exact⟨trivial,KS.out _ b2⟩
 clear hK K
 try simp only[Act.put,q1,q2,q3]
 refine rtk 10 ?_
 refine rdn ?_
 have KS2:=KS.out _ b2
 have bw2:Below w.heap.size w w2:=bA.trans (b2.mono (by omega))
 have z2:=b2.size
 have hr0:=range_half (t:=93) (fr:=(0,0)) KS2.1 HAL.out.2.2.2.1
 have HC:Hid (Calls Tryz.prog 116 #[.agg ck,.agg cn,.int .u32 ((1:UInt32).toNat:Int),.slice (some ⟨b,o,none⟩) n cy] w2 fun e w'=>∃r,e=.returned r∧OB w' w2.heap.size r x∧Below w2.heap.size w2 w'):=Lib.hid (by
  obtain⟨he,hm,hn,hkk,hcn,hck,hXl,hnn,hct,htg,hXX,_⟩:=HAL.out
  exact (kCross_any ke nonce he hn ck cn hck hcn 1 _ X w2 (HS1.out w2 b2) (by omega)).mono (by rw[hXX];exact fun _ _ h=>h))
 have hkel:=HAL.out.1
 have hckE:(bv ke).toArray=ck:=HAL.out.2.2.2.2.2.1
 have rN2:=KS2.2.1
 clear HT KS HS1 rK rN r16 hcut hat hEq KS2 HAL
 go_wp2_with (first|(go_at_call 116;refine HC.out.mono ?_;rintro _ w3 ⟨r3,rfl,ho3,hb3⟩)|(refine wpList_load_mid rfl 52 _ rfl w.heap.size 0 rfl (bv ke) _ hr0 Tryz.underlying52 rfl (by rw[bv_length,hkel];kernel_rfl) ?_;rw[hckE])|(refine wl_loadT 173 (n:=12) Tryz.underlying173 (by kernel_rfl) rfl (.tmp 5) rfl _ rfl cn rN2 hns ?_))
 exact bodyPost_ret (v:=.tuple #[r3,.int .i64 0]) (by simp[results,Tryz.results100,go_sem]) rfl ⟨r3,rfl,ho3.rebase (by omega),bw2.trans (hb3.mono (by omega))⟩
end Go.Proofs.YtchjknbideoieaaGreatDoor
