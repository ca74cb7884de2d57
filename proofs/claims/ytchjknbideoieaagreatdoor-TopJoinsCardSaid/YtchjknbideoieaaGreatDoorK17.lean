/- What is proved here: what bits.Len, merkle's split and the reference's part come to (the walk of bits.Len64 is the shelf's), at this seat's numbers. Condition: the number's size. what join and Leaf of package merkle and the reference's Join, Leaf and part come to, at this seat's numbers. Conditions: the lengths; the tables of constants. what Root of package merkle comes to, .. -/
import Derived.Test.YtchjknbideoieaaGreatDoorK01
import Derived.Test.YtchjknbideoieaaGreatDoorK16
import Derived.Lib.Strings
import Derived.Lib.Slices
import Derived.Lib.Small
import Derived.Lib.Walk
import Derived.Lib.BitFns
import Derived.Test.YtchjknbideoieaaGreatDoorK13
namespace Go.Proofs.YtchjknbideoieaaGreatDoor
set_option maxRecDepth 100000
set_option maxHeartbeats 8000000
open Go.RowKit
theorem wrapM (b:Nat) (hb:b≤8):wrap64 (wrap64 (b:Int))=(b:Int):=by
 unfold wrap64
 omega
theorem wrapL (c b:Nat) (hc:c≤56) (hb:b≤8):wrap64 ((c:Int)+wrap64 (b:Int))=((c+b:Nat):Int):=by
 unfold wrap64
 omega
theorem l8tab (n:Nat) (h:n<Lib.len8tab.size):(((Lib.len8tab[n]'h).toNat:Nat):Int)=(Lib.bitLen n:Int):=by
 have h1:n<256:=by rw[Lib.len8tab_size] at h;exact h
 have h2:=Lib.len8_eq ⟨n,h1⟩
 unfold Lib.len8 at h2
 rw[←h2]
 simp[h]
theorem kBitsLen64 (x:Int) (w:World) (h0:0≤x) (h1:x≤18446744073709551615) :
  Calls Tryz.prog 141 #[.int .u64 x] w fun e w'=>e=.returned (.int .i64 (Lib.bitLen x.toNat))∧w'=w:=by
 go_enter Tryz.func141,Tryz.ntmps141
 go_wp2
 all_goals first
  | (exfalso;rename_i hh;exact hh (by rw[Lib.len8tab_size];omega))
  | (rename_i hh;rw[Lib.len8tab_size] at hh;go_ret;refine⟨congrArg Ending.returned (congrArg (Value.int IntKind.i64) ?_),rfl⟩;rw[l8tab])
 all_goals first
  | (show wrap64 (56+wrap64 ((Lib.bitLen (x/4294967296/65536/256).toNat:Nat):Int))=_
     have e:(x/4294967296/65536/256).toNat=x.toNat/72057594037927936:=by omega
     have l:=Lib.bitLen_le8' (x/4294967296/65536/256) (by omega) (by omega)
     have s:=Lib.bitLen_shift56 x.toNat (by omega) (by omega)
     rw[e] at l ⊢
     rw[s]
     exact wrapL 56 _ (by decide) l)
  | (show wrap64 (48+wrap64 ((Lib.bitLen (x/4294967296/65536).toNat:Nat):Int))=_
     have e:(x/4294967296/65536).toNat=x.toNat/281474976710656:=by omega
     have l:=Lib.bitLen_le8' (x/4294967296/65536) (by omega) (by omega)
     have s:=Lib.bitLen_shift48 x.toNat (by omega) (by omega)
     rw[e] at l ⊢
     rw[s]
     exact wrapL 48 _ (by decide) l)
  | (show wrap64 (40+wrap64 ((Lib.bitLen (x/4294967296/256).toNat:Nat):Int))=_
     have e:(x/4294967296/256).toNat=x.toNat/1099511627776:=by omega
     have l:=Lib.bitLen_le8' (x/4294967296/256) (by omega) (by omega)
     have s:=Lib.bitLen_shift40 x.toNat (by omega) (by omega)
     rw[e] at l ⊢
     rw[s]
     exact wrapL 40 _ (by decide) l)
  | (show wrap64 (32+wrap64 ((Lib.bitLen (x/4294967296).toNat:Nat):Int))=_
     have e:(x/4294967296).toNat=x.toNat/4294967296:=by omega
     have l:=Lib.bitLen_le8' (x/4294967296) (by omega) (by omega)
     have s:=Lib.bitLen_shift32 x.toNat (by omega) (by omega)
     rw[e] at l ⊢
     rw[s]
     exact wrapL 32 _ (by decide) l)
  | (show wrap64 (24+wrap64 ((Lib.bitLen (x/65536/256).toNat:Nat):Int))=_
     have e:(x/65536/256).toNat=x.toNat/16777216:=by omega
     have l:=Lib.bitLen_le8' (x/65536/256) (by omega) (by omega)
     have s:=Lib.bitLen_shift24 x.toNat (by omega) (by omega)
     rw[e] at l ⊢
     rw[s]
     exact wrapL 24 _ (by decide) l)
  | (show wrap64 (16+wrap64 ((Lib.bitLen (x/65536).toNat:Nat):Int))=_
     have e:(x/65536).toNat=x.toNat/65536:=by omega
     have l:=Lib.bitLen_le8' (x/65536) (by omega) (by omega)
     have s:=Lib.bitLen_shift16 x.toNat (by omega) (by omega)
     rw[e] at l ⊢
     rw[s]
     exact wrapL 16 _ (by decide) l)
  | (show wrap64 (8+wrap64 ((Lib.bitLen (x/256).toNat:Nat):Int))=_
     have e:(x/256).toNat=x.toNat/256:=by omega
     have l:=Lib.bitLen_le8' (x/256) (by omega) (by omega)
     have s:=Lib.bitLen_shift8 x.toNat (by omega) (by omega)
     rw[e] at l ⊢
     rw[s]
     exact wrapL 8 _ (by decide) l)
  | (have l:=Lib.bitLen_le8' x (by omega) (by omega)
     exact wrapM _ l)
theorem kBitsLen (x:Int) (w:World) (h0:0≤x) (h1:x≤18446744073709551615) :
  Calls Tryz.prog 127 #[.int .u64 x] w fun e w'=>e=.returned (.int .i64 (Lib.bitLen x.toNat))∧w'=w:=by
 go_enter Tryz.func127,Tryz.ntmps127
 go_wp2_with fail
 refine (kBitsLen64 x _ h0 h1).mono ?_
 rintro e w' ⟨rfl,rfl⟩
 go_wp2_with fail
 go_ret
 exact⟨rfl,rfl⟩
end Go.Proofs.YtchjknbideoieaaGreatDoor
namespace Go.Proofs.YtchjknbideoieaaGreatDoor
set_option maxRecDepth 100000
set_option maxHeartbeats 8000000
open Go.RowKit
def jnD (a b:Dg):Dg:=⟨shaOf (1::(a.1++b.1)),shaOf_length _⟩
def leafD (b:List UInt8):Dg:=⟨shaOf (0::b),shaOf_length _⟩
def zD:Dg:=⟨shaOf [2],shaOf_length _⟩
theorem alloc3 (w:World) (x y z:Obj):((((w.alloc x).alloc y).alloc z).heap[w.heap.size]? = some x∧(((w.alloc x).alloc y).alloc z).heap[w.heap.size+1]? = some y∧(((w.alloc x).alloc y).alloc z).heap[w.heap.size+2]? = some z)∧(((w.alloc x).alloc y).alloc z).heap.size=w.heap.size+3:=by
 refine⟨⟨?_,?_,?_⟩,by simp⟩
 ·rw[Below.heap_alloc _ _ _ (by simp only[World.size_alloc];omega),heap_alloc2_old]
 ·rw[Below.heap_alloc _ _ _ (by simp),heap_alloc2_new]
 ·have:=heap_alloc_new ((w.alloc x).alloc y) z
  simp only[World.size_alloc] at this
  exact this
theorem LLthree {w:World} {x y z:Value} {a b c:List UInt8} {g:Nat} (t:TypeId) (hg:g=w.heap.size) (hx:SB w w.heap.size x a) (hy:SB w w.heap.size y b) (hz:SB w w.heap.size z c):LL (w.alloc (.cells #[x,y,z] t)) (w.alloc (.cells #[x,y,z] t)).heap.size (.slice (some ⟨g,0,none⟩) 3 3) [a,b,c] :=
 LL.new [x,y,z] [a,b,c] t hg rfl rfl (by simp[maxLen]) (fun i u l h1 h2=>by
  rcases i with _|_|_|i
  ·simp at h1 h2;subst h1;subst h2;exact hx
  ·simp at h1 h2;subst h1;subst h2;exact hy
  ·simp at h1 h2;subst h1;subst h2;exact hz
  ·simp at h1)
theorem LLtwo {w:World} {x y:Value} {a b:List UInt8} {g:Nat} (t:TypeId) (hg:g=w.heap.size) (hx:SB w w.heap.size x a) (hy:SB w w.heap.size y b):LL (w.alloc (.cells #[x,y] t)) (w.alloc (.cells #[x,y] t)).heap.size (.slice (some ⟨g,0,none⟩) 2 2) [a,b] :=
 LL.new [x,y] [a,b] t hg rfl rfl (by simp[maxLen]) (fun i u l h1 h2=>by
  rcases i with _|_|i
  ·simp at h1 h2;subst h1;subst h2;exact hx
  ·simp at h1 h2;subst h1;subst h2;exact hy
  ·simp at h1)
theorem kJoin_any (a b:Dg) (ca cb c:Array Value) (ha:dgA a.1=ca) (hb:dgA b.1=cb) (hc:dgA (jnD a b).1=c) (w:World) (hk:KTab w 0) (h1:0<w.heap.size) :
  Calls Tryz.prog 97 #[.agg ca,.agg cb] w fun e w'=>e=.returned (.agg c)∧Below w.heap.size w w':=by
 have hna:ca.size=32:=by rw[←ha];exact dgA_n a
 have hnb:cb.size=32:=by rw[←hb];exact dgA_n b
 have HN:Hid (c.size=32∧∀v∈c.toList,v.oneCell'=true):=Lib.hid (by rw[←hc];exact⟨dgA_n _,dgA_one _⟩)
 have HA:=Lib.hid (And.intro ha (And.intro hb hc))
 clear ha hb hc
 go_enter Tryz.func97,Tryz.ntmps97
 go_upto_region 1 with fail
 clear hna hnb
 generalize hWA:World.alloc _ _=wA
 have rA:wA.heap[w.heap.size]? = some (rowO ca):=by rw[←hWA];exact (alloc3 w _ _ _).1.1
 have rB:wA.heap[w.heap.size+1]? = some (rowO cb):=by rw[←hWA];exact (alloc3 w _ _ _).1.2.1
 have rR:wA.heap[w.heap.size+2]? = some (rowO (dgA (List.replicate 32 0))):=by rw[←hWA];exact ((alloc3 w _ _ _).1.2.2).trans (by kernel_rfl)
 have bA:Below w.heap.size w wA:=by rw[←hWA];exact balloc (balloc (balloc (bself w) _) _) _
 have zA:w.heap.size+2<wA.heap.size:=by rw[←hWA,(alloc3 w _ _ _).2];omega
 clear hWA
 obtain⟨w1,hw1⟩:∃w1,w1=wA.drew.alloc (.cells #[.int .u8 1] 5):=⟨_,rfl⟩
 have z1:w1.heap.size=wA.heap.size+1:=by rw[hw1];exact World.size_alloc _ _
 have bA1:Below wA.heap.size wA w1:=by rw[hw1];exact balloc (bdrew (bself wA)) _
 have s1:SB w1 w1.heap.size (.slice (some ⟨wA.heap.size,0,none⟩) 1 1) [1]:=by
  have:=SB.new1 wA.drew 1
  rw[←show w1=wA.drew.alloc (.cells #[u8v 1] 5) from hw1] at this
  exact this.more (by rw[z1];exact Nat.le_refl _)
 have s2:SB w1 w1.heap.size (.slice (some ⟨w.heap.size,0,none⟩) 32 32) a.1:=SB.ofRow ((bA1.block w.heap.size (by omega)).trans rA) HA.out.1 a.2.symm (by omega) (by rw[a.2];simp[maxLen])
 have s3:SB w1 w1.heap.size (.slice (some ⟨w.heap.size+1,0,none⟩) 32 32) b.1:=SB.ofRow ((bA1.block (w.heap.size+1) (by omega)).trans rB) HA.out.2.1 b.2.symm (by omega) (by rw[b.2];simp[maxLen])
 have hL:=LLthree (g:=wA.heap.size+1) 56 z1.symm s1 s2 s3
 have bw1:Below w.heap.size w w1:=bA.trans (bA1.mono bA.size)
 have bw2:=balloc bw1 (.cells #[.slice (some ⟨wA.heap.size,0,none⟩) 1 1,.slice (some ⟨w.heap.size,0,none⟩) 32 32,.slice (some ⟨w.heap.size+1,0,none⟩) 32 32] 56)
 have bA2:Below wA.heap.size wA _:=balloc bA1 (.cells #[.slice (some ⟨wA.heap.size,0,none⟩) 1 1,.slice (some ⟨w.heap.size,0,none⟩) 32 32,.slice (some ⟨w.heap.size+1,0,none⟩) 32 32] 56)
 have ef:[[1],a.1,b.1].flatten=1::(a.1++b.1):=by simp
 have HCALL:=Lib.hid (kSumC [[1],a.1,b.1] c (by rw[ef];exact HA.out.2.2) _ _ hL (by rw[ef,List.length_cons,List.length_append,a.2,b.2];omega) (hk.on bw2 h1) (by have:=bw2.size;omega))
 have HRL:Hid (∀w',Below (w1.alloc (.cells #[.slice (some ⟨wA.heap.size,0,none⟩) 1 1,.slice (some ⟨w.heap.size,0,none⟩) 32 32,.slice (some ⟨w.heap.size+1,0,none⟩) 32 32] 56)).heap.size (w1.alloc (.cells #[.slice (some ⟨wA.heap.size,0,none⟩) 1 1,.slice (some ⟨w.heap.size,0,none⟩) 32 32,.slice (some ⟨w.heap.size+1,0,none⟩) 32 32] 56)) w'→w'.heap[w.heap.size+2]? = some (rowO (dgA (List.replicate 32 0)))∧(w'.setRow (w.heap.size+2) c).heap[w.heap.size+2]? = some (rowO c)∧Below w.heap.size w (w'.setRow (w.heap.size+2) c)):=Lib.hid (fun w' h=>by
  have h2:=((bstep bA2 h).block (w.heap.size+2) (by omega)).trans rR
  exact⟨h2,setRow_heap _ _ _ _ _ _ h2,below_setRow (bstep bw2 h) (by omega) _⟩)
 rw[hw1] at HCALL HRL
 clear hL s1 s2 s3 bw1 bw2 bA2 rA rB rR bA1 z1 hw1 ef
 refine wp_region_noPanic ?_
 refine wp_region_held_drew (S:=fun _=>True) (by kernel_rfl) trivial (fun hHeld=>?_)
 refine rtk 1 ?_
 refine rtk 2 ?_
 refine ro 0 (fun K hK=>?_)
 (go_simp)
 refine hK.out _ _ ?_ (fun hHeld=>?_)
 ·trivial
 clear hK K
 try simp only[Act.put,q1,q2,q3]
 refine ro 3 (fun K hK=>?_)
 (go_simp)
 refine hK.out _ _ ?_ (fun hHeld=>?_)
 ·trivial
 clear hK K
 try simp only[Act.put,q1,q2,q3]
 refine ro 4 (fun K hK=>?_)
 (go_simp;go_at_call 96;refine HCALL.out.mono ?_;rintro e w11 ⟨rfl,hb11⟩;obtain⟨r11,r12,b11⟩:=HRL.out w11 hb11;go_wp2_with fail)
 refine hK.out _ _ ?_ (fun hHeld=>?_)
 ·trivial
 clear hK K
 try simp only[Act.put,q1,q2,q3]
 refine ro 5 (fun K hK=>?_)
 (refine wp_storeR 53 (.tmp 4) (.tmp 9) rfl _ rfl _ c rfl r11 (by rw[HN.out.1];kernel_rfl) (by rw[HN.out.1,dgA_size];rfl) (Array.all_eq_true_iff_forall_mem.2 (fun v hv=>HN.out.2 v (by simpa using hv))) ?_)
 refine hK.out _ _ ?_ (fun hHeld=>?_)
 ·trivial
 clear hK K
 try simp only[Act.put]
 refine rdn ?_
 go_wp2_with fail
 exact bodyPost_ret (v:=.agg c) (res_dig Tryz.results97 _ _ _ c rfl r12 HN.out.1) rfl ⟨rfl,b11⟩
theorem kLeaf_any (b:List UInt8) (c:Array Value) (hc:dgA (leafD b).1=c) (u:Value) (w:World) (hu:SB w w.heap.size u b) (hl2:b.length≤1152921504606845000) (hk:KTab w 0) (h1:0<w.heap.size) :
  Calls Tryz.prog 80 #[u] w fun e w'=>e=.returned (.agg c)∧Below w.heap.size w w':=by
 have HN:Hid (c.size=32∧∀v∈c.toList,v.oneCell'=true):=Lib.hid (by rw[←hc];exact⟨dgA_n _,dgA_one _⟩)
 have HD:=Lib.hid hc
 clear hc
 obtain⟨A2,c2,rfl,_,_,_⟩:=id hu
 go_enter Tryz.func80,Tryz.ntmps80
 go_upto_region 1 with fail
 generalize hWA:w.alloc _=wA
 have rR:wA.heap[w.heap.size]? = some (rowO (dgA (List.replicate 32 0))):=by rw[←hWA];exact (heap_alloc_new w _).trans (by kernel_rfl)
 have bA:Below w.heap.size w wA:=by rw[←hWA];exact balloc (bself w) _
 have zA:w.heap.size<wA.heap.size:=by rw[←hWA];simp
 clear hWA
 have b1:=balloc bA (.cells #[.int .u8 0] 5)
 have z1:(wA.alloc (.cells #[.int .u8 0] 5)).heap.size=wA.heap.size+1:=World.size_alloc _ _
 have hL:=LLtwo 56 z1.symm ((SB.new1 wA 0).more (by exact Nat.le_of_eq z1.symm)) ((hu.below b1).more (by omega))
 have bB:=balloc b1 (.cells #[.slice (some ⟨wA.heap.size,0,none⟩) 1 1,.slice A2 b.length c2] 56)
 have ef:[[0],b].flatten=0::b:=by simp
 have HM:=Lib.hid (kSumC [[0],b] c (by rw[ef];exact HD.out) _ _ hL (by rw[ef,List.length_cons];omega) (hk.on bB h1) (by have:=bB.size;omega))
 have HR:Hid (∀w',Below ((wA.alloc (.cells #[.int .u8 0] 5)).alloc (.cells #[.slice (some ⟨wA.heap.size,0,none⟩) 1 1,.slice A2 b.length c2] 56)).heap.size ((wA.alloc (.cells #[.int .u8 0] 5)).alloc (.cells #[.slice (some ⟨wA.heap.size,0,none⟩) 1 1,.slice A2 b.length c2] 56)) w'→w'.heap[w.heap.size]? = some (rowO (dgA (List.replicate 32 0)))∧(w'.setRow w.heap.size c).heap[w.heap.size]? = some (rowO c)∧Below w.heap.size w (w'.setRow w.heap.size c)):=Lib.hid (fun w' h=>by
  have h2:Below wA.heap.size wA w':=bstep (balloc (balloc (bself wA) _) _) h
  have h3:=(h2.block w.heap.size (by omega)).trans rR
  exact⟨h3,setRow_heap _ _ _ _ _ _ h3,below_setRow (bA.trans (h2.mono bA.size)) (Nat.le_refl _) _⟩)
 have HZ:Hid ((dgA (List.replicate 32 0)).size=32):=Lib.hid (by rw[dgA_size];rfl)
 clear hL bB b1 z1 rR bA hu ef
 go_wp2_with fail
 refine HM.out.mono ?_
 rintro e w7 ⟨rfl,hb7⟩
 have h7:=Lib.hid (HR.out w7 hb7)
 clear HM HR hb7
 go_wp2_with (refine wl_storeD rfl (.tmp 2) (.tmp 6) rfl _ rfl _ c rfl h7.out.1 HZ.out HN.out.1 HN.out.2 ?_)
 exact bodyPost_ret (v:=.agg c) (res_dig Tryz.results80 _ _ _ c rfl h7.out.2.1 HN.out.1) rfl ⟨rfl,h7.out.2.2⟩
end Go.Proofs.YtchjknbideoieaaGreatDoor
namespace Go.Proofs.YtchjknbideoieaaGreatDoor
set_option maxRecDepth 100000
set_option maxHeartbeats 8000000
open Go.RowKit
theorem i64_and1 (n:Nat) (hn:n<4611686018427387904):bits .and .i64 (n:Int) 1=((n%2:Nat):Int):=by
 show IntKind.i64.wrap ((BitVec.ofInt 64 (n:Int) &&& BitVec.ofInt 64 (1:Int)).toNat:Int)=_
 have e:(BitVec.ofInt 64 (n:Int)).toNat=n:=by
  rw[BitVec.toNat_ofInt]
  omega
 have e1:(BitVec.ofInt 64 (1:Int)).toNat=1:=by decide
 rw[BitVec.toNat_and,e,e1,Nat.and_one_is_mod,IntKind.wrap_i64]
 omega
theorem wp_exec {P:Program} {o:Oper} {a:Act} {w:World} {K:Act→World→Prop} {Q:Exit→Act→World→Prop} {v:Value} (h:(execOp a.eval o).run P w=.ok (.value v) w) (hk:K (a.put o.dst v) w):o.wp P a w K Q:=by
 unfold Oper.wp
 simp only[h]
 exact hk
theorem range_setRowD {w:World} {g o k:Nat} {l:List Value} {cs:Array Value} (h:w.rangeAt g o l) (hne:g≠k):(w.setRow k cs).rangeAt g o l:=fun j v hv=>(World.cell?_of_block (a:=⟨g,o+j,none⟩) (setRow_other w k g cs hne)).trans (h j v hv)
theorem OD.setRow {w:World} {base:Nat} {v:Value} {l:List Dg} {k:Nat} {cs:Array Value} (h:OD w base v l) (hne:v.ownBlock≠some k):OD (w.setRow k cs) base v l :=
 World.ownsRow.kept h (row:=some k) ⟨rfl,rfl,rfl,by simp,fun j _ hj=>setRow_other w k j _ (fun e=>hj (by rw[e]))⟩ (Or.inr hne)
theorem kRoot_any (l:List Dg) (hl:l.length≤2000) (v:Value) (c:Array Value) (hc:dgA (rootR jnD zD l).1=c) (w:World) (hv:SD w w.heap.size v l) (hk:KTab w 0) (h1:0<w.heap.size) :
  Calls Tryz.prog 61 #[v] w fun e w'=>e=.returned (.agg c)∧Below w.heap.size w w':=by
 have HN:Hid (c.size=32∧∀v∈c.toList,v.oneCell'=true):=Lib.hid (by rw[←hc];exact⟨dgA_n _,dgA_one _⟩)
 have HZ:Hid ((dgA (List.replicate 32 0)).size=32):=Lib.hid (by rw[dgA_size];rfl)
 have HC:=Lib.hid hc
 clear hc
 obtain⟨A,c0,rfl,hlc,hcm⟩:=hv.form
 go_enter Tryz.func61,Tryz.ntmps61
 go_upto_region 1 with fail
 generalize hWA:w.alloc _=wA
 have rR:wA.heap[w.heap.size]? = some (rowO (dgA (List.replicate 32 0))):=by rw[←hWA];exact (heap_alloc_new w _).trans (by kernel_rfl)
 have bA:Below w.heap.size w wA:=by rw[←hWA];exact balloc (bself w) _
 have zA:w.heap.size<wA.heap.size:=by rw[←hWA];simp
 clear hWA
 have HEND:Hid (∀w',Below wA.heap.size wA w'→w'.heap[w.heap.size]? = some (rowO (dgA (List.replicate 32 0)))∧(w'.setRow w.heap.size c).heap[w.heap.size]? = some (rowO c)∧Below w.heap.size w (w'.setRow w.heap.size c)):=Lib.hid (fun w' h=>by
  have h3:=(h.block w.heap.size (by omega)).trans rR
  exact⟨h3,setRow_heap _ _ _ _ _ _ h3,below_setRow (bA.trans (h.mono bA.size)) (Nat.le_refl _) _⟩)
 have HK:Hid (∀w',Below wA.heap.size wA w'→KTab w' 0∧0<w'.heap.size):=Lib.hid (fun w' h=>⟨hk.on (bA.trans (h.mono bA.size)) h1,by have:=h.size;omega⟩)
 have hv2:SD wA wA.heap.size (.slice A l.length c0) l:=(hv.below bA).more (by omega)
 clear hv rR
 by_cases h0:l.length=0
 ·have hln:l=[]:=List.eq_nil_of_length_eq_zero h0
  subst hln
  have b1:=balloc (bself wA) (.cells #[.int .u8 2] 5)
  have b2:=balloc b1 (.cells #[.slice (some ⟨wA.heap.size,0,none⟩) 1 1] 56)
  have z1:(wA.alloc (.cells #[.int .u8 2] 5)).heap.size=wA.heap.size+1:=World.size_alloc _ _
  have hL:=LL.one 56 z1.symm ((SB.new1 wA 2).more (Nat.le_of_eq z1.symm))
  have HM:=Lib.hid (kSumC [[2]] c (by rw[flat1,←HC.out,rootR_nil];rfl) _ _ hL (by rw[flat1];decide) (HK.out _ b2).1 (HK.out _ b2).2)
  have HB:=Lib.hid b2
  clear hL b1 b2 z1 h0
  go_wp2_with fail
  refine HM.out.mono ?_
  rintro e w7 ⟨rfl,hb7⟩
  have h7:=Lib.hid (HEND.out w7 (bstep HB.out hb7))
  clear HM HB hb7
  go_wp2_with (refine wl_storeD rfl (.tmp 2) (.tmp 14) rfl _ rfl _ c rfl h7.out.1 HZ.out HN.out.1 HN.out.2 ?_)
  exact bodyPost_ret (v:=.agg c) (res_dig Tryz.results61 _ _ _ c rfl h7.out.2.1 HN.out.1) rfl ⟨rfl,h7.out.2.2⟩
 ·have hlp:0<l.length:=by omega
  have hne:((l.length:Int)==0)=false:=by
   rw[beq_eq_false_iff_ne];omega
  obtain⟨b,o,c9,e9,hbl,hel⟩:=hv2.at_ hlp
  injection e9 with e91 e92 e93
  subst e91;subst e93
  clear e92
  have HEL:=Lib.hid hel
  clear hel hv2
  go_wp2_with fail
  go_loopw [3,17] (fun sv iv wy=>∃i:Nat,iv=.int .i64 i∧i≤l.length∧OD wy wA.heap.size sv (stk jnD (l.take i)).reverse∧Below wA.heap.size wA wy) (fun _ iv _=>l.length-(intOf iv).toNat)
  case atStart=>exact⟨0,rfl,Nat.zero_le _,by rw[List.take_zero,stk_nil];exact OD.nil_ _ _,bself wA⟩
  case round =>
   obtain⟨i,rfl,hi,hown,hbr⟩:=hrel
   have hzr:=hbr.size
   by_cases hlt:i<l.length
   ·obtain⟨d0,hd0⟩:∃d0,l[i]? = some d0:=⟨_,List.getElem?_eq_getElem hlt⟩
    have hrg:wr.rangeAt b (o+i*32) (bv d0.1):=by
     have h:=HEL.out i hlt
     rw[List.getElem?_eq_getElem hlt] at hd0
     injection hd0 with hd0
     rw[hd0] at h
     exact range_below h hbr hbl
    have HP:Hid (push jnD (stk jnD (l.take i)) i d0=stk jnD (l.take (i+1))):=Lib.hid (by
     have h:=stk_push jnD (l.take i) d0
     rw[List.length_take,Nat.min_eq_left hi] at h
     rw[←h,List.take_add_one,hd0]
     rfl)
    have HTL:Hid ((l.take i).length=i):=Lib.hid (by rw[List.length_take];omega)
    have hlt0:=hown.lt
    clear hd0
    go_upto_region 7 with (first
     | (refine wl_loadM rfl (.tmp 20) rfl _ _ rfl d0 hrg ?_)
     | (refine wl_storeD rfl (.tmp 5) (.tmp 21) rfl _ rfl _ (dgA d0.1) rfl (heap_alloc_new wr _) (by kernel_rfl) (dgA_n d0) (dgA_one _) ?_))
    generalize hw1:World.setRow _ _ _=w1
    obtain⟨D,hD⟩:∃D,D=wr.heap.size:=⟨_,rfl⟩
    have rD:w1.heap[D]? = some (rowO (dgA d0.1)):=by rw[←hw1,hD];exact setRow_heap _ _ _ _ _ _ (heap_alloc_new wr _)
    have br1:Below wr.heap.size wr w1:=by rw[←hw1];exact below_setRow (balloc (bself wr) _) (Nat.le_refl _) _
    have zD1:D<w1.heap.size:=by rw[←hw1,hD];simp
    clear hw1
    have b1:=hbr.trans (br1.mono hzr)
    have own1:=hown.below br1 (Nat.le_refl _)
    have hltD:∀k,u3.ownBlock=some k→k<D:=fun k hk=>by rw[hD];exact (hlt0 k hk).2
    have hDA:wA.heap.size≤D:=by rw[hD];exact hzr
    rw[←hD]
    clear hD hown hlt0 hrg br1 hbr hzr
    go_wp2_with fail
    go_loopw [3,6] (fun sv kv wy=>∃(n:Nat) (L:List Dg) (d:Dg),kv=.int .i64 ((n:Int)+1)∧n≤2000∧Hid (L.length=n)∧OD wy wA.heap.size sv (stk jnD L).reverse∧wy.heap[D]? = some (rowO (dgA d.1))∧Hid (push jnD (stk jnD L) n d=stk jnD (l.take (i+1)))∧Hid (∀k,sv.ownBlock=some k→k<D)∧Below wA.heap.size wA wy) (fun _ kv _=>(intOf kv).toNat)
    case atStart=>exact⟨i,l.take i,d0,rfl,by omega,HTL,own1,rD,HP,Lib.hid hltD,b1⟩
    case round =>
     obtain⟨n,L,d,rfl,hn2,HLn,hown,hrD,HPU,HLT,hbr⟩:=hrel
     rename_i wq _
     clear own1 rD b1 hltD HP HTL
     have hzr:=hbr.size
     have hDq:D<wr.heap.size:=(Array.getElem?_eq_some_iff.1 hrD).1
     by_cases hodd:n%2=1
     ·have yA:bits .and .i64 ((n:Int)+1) 1=0:=by
       have h:=i64_and1 (n+1) (by omega)
       rw[show (n+1)%2=0 by omega] at h
       exact h
      obtain⟨t,L',est,hL'⟩:=stk_pop jnD L (by rw[HLn.out];exact hodd)
      have HLp:Hid ((stk jnD L).reverse=(stk jnD L').reverse++[t]∧L'.length=n/2∧(stk jnD L).reverse.dropLast=(stk jnD L').reverse∧push jnD (stk jnD L') (n/2) (jnD t d)=stk jnD (l.take (i+1))):=Lib.hid (by
       have hpu:=HPU.out
       rw[est,push_odd jnD _ _ _ hodd] at hpu
       exact⟨by rw[est,List.reverse_cons],by rw[hL',HLn.out],by rw[est,List.reverse_cons,List.dropLast_concat],hpu⟩)
      clear est hL'
      obtain⟨m,hm⟩:∃m,m=(stk jnD L').length:=⟨_,rfl⟩
      have hlen:(stk jnD L).reverse.length=m+1:=by rw[HLp.out.1,List.length_append,List.length_reverse,hm];rfl
      obtain⟨g,cS,eS⟩:=hown.form0 (by omega)
      rw[hlen] at eS
      subst eS
      have HM:=Lib.hid hm
      have hcS:m+1≤cS∧cS≤9223372036854775807:=by
       obtain⟨A',c',e',k1,k2⟩:=hown.sd.form
       injection e' with _ e2 e3
       rw[e3]
       exact⟨by rw[e2];exact k1,k2⟩
      have hrT:wr.rangeAt g (m*32) (bv t.1):=by
       obtain⟨b',o',c',e',_,h⟩:=hown.sd.at_ (by omega)
       injection e' with e1 _ _
       injection e1 with e1
       injection e1 with e2 e3
       subst e2;subst e3
       have h2:=h m (by omega)
       have e4:(stk jnD L).reverse[m]'(by omega)=t:=by
        have h5:(stk jnD L).reverse[m]? = some t:=by rw[HLp.out.1,List.getElem?_append_right (by rw[List.length_reverse];omega),List.length_reverse,hm];simp
        rw[List.getElem?_eq_getElem (by omega)] at h5
        injection h5
       rw[e4,Nat.zero_add] at h2
       exact h2
      have hgD:g<D:=HLT.out g rfl
      have hgq:=(hown.lt g rfl).2
      obtain⟨cj,hcj⟩:∃cj,dgA (jnD t d).1=cj:=⟨_,rfl⟩
      have HCJ:Hid (cj.size=32∧∀v∈cj.toList,v.oneCell'=true):=Lib.hid (by rw[←hcj];exact⟨dgA_n _,dgA_one _⟩)
      have HJ:Hid (∀w',Below wr.heap.size wr w'→Calls Tryz.prog 97 #[.agg (dgA t.1),.agg (dgA d.1)] w' fun e w''=>e=.returned (.agg cj)∧Below wr.heap.size wr w''):=Lib.hid (fun w' h=>by
       have h2:Below wA.heap.size wA w':=hbr.trans (h.mono hzr)
       exact (kJoin_any t d _ _ cj rfl rfl hcj w' (HK.out w' h2).1 (HK.out w' h2).2).mono fun e w'' ⟨he,hb⟩=>⟨he,bstep h hb⟩)
      have HW:Hid (∀w',Below wr.heap.size wr w'→w'.rangeAt g (m*32) (bv t.1)∧w'.heap[D]? = some (rowO (dgA d.1))∧(w'.setRow D cj).rangeAt g (m*32) (bv t.1)∧(w'.setRow D cj).heap[D]? = some (rowO (dgA (jnD t d).1))∧OD (w'.setRow D cj) wA.heap.size (.slice (some ⟨g,0,none⟩) m cS) (stk jnD L').reverse∧Below wA.heap.size wA (w'.setRow D cj)):=Lib.hid (fun w' h=>by
       have h1:=range_below hrT h hgq
       have h2:=(h.block D hDq).trans hrD
       refine⟨h1,h2,range_setRowD h1 (by omega),by rw[hcj];exact setRow_heap _ _ _ _ _ _ h2,?_,below_setRow (hbr.trans (h.mono hzr)) hDA _⟩
       have h3:OD w' wA.heap.size (.slice (some ⟨g,0,none⟩) (m+1) cS) (stk jnD L).reverse:=hown.below h (Nat.le_refl _)
       have h4:=h3.pop (m:=m) (by omega) (by omega)
       rw[HLp.out.2.2.1] at h4
       exact h4.setRow (fun e=>by injection e with e;have e':g=D:=e;omega))
      have y1:IntKind.i64.wrap (m:Int)=(m:Int):=IntWalk.i64_in _ (by omega)
      have y2:(m:Int)<(m:Int)+1:=by omega
      have y0:(0:Int)≤(m:Int):=by omega
      have y3:(m:Int)≤(cS:Int):=by omega
      clear hrT hown hrD hm hlen hcj
      go_upto_region 10 with fail
      refine wp_region_noPanic ?_
      refine wp_region_held_drew (S:=fun w'=>w'.rangeAt g (m*32) (bv t.1)) (by kernel_rfl) (HW.out _ (bdrew (bself wr))).1 (fun hHeld=>?_)
      refine rtk 0 ?_
      refine rtk 1 ?_
      refine rtk 2 ?_
      refine rtk 3 ?_
      refine rtk 4 ?_
      refine reg_take 5 (v:=.agg (dgA t.1)) (by rfl) (by kernel_rfl) (by kernel_rfl) (by kernel_rfl) (fun _ _ _ h=>h) (by rfl) ?_ (by assumption) ?_
      ·(intro wq hSq;exact exec_loadM (.tmp 33) rfl g (m*32) rfl t hSq)
      try simp only[Act.put,q1,q2,q3]
      have h6:=Lib.hid (HW.out _ (bdrew (bself wr)))
      refine ro 6 (fun K hK=>?_)
      (refine wp_exec (exec_loadM (.tmp 5) rfl D 0 rfl d ?_) ?_;(refine fun j v hv=>?_;rw[Nat.zero_add,cell_of_row _ _ j _ _ _ h6.out.2.1];simpa using hv))
      refine hK.out _ _ ?_ (fun hHeld=>?_)
      ·exact h6.out.1
      clear hK K
      try simp only[Act.put,q1,q2,q3]
      refine ro 7 (fun K hK=>?_)
      (go_simp;go_at_call 97;refine (HJ.out _ (bdrew (bself wr))).mono ?_;rintro e w5 ⟨rfl,b5⟩;go_wp2_with fail)
      refine hK.out _ _ ?_ (fun hHeld=>?_)
      ·exact (HW.out _ b5).1
      clear hK K
      try simp only[Act.put,q1,q2,q3]
      have h8:=Lib.hid (HW.out _ b5)
      refine ro 8 (fun K hK=>?_)
      (refine wp_storeR 53 (.tmp 5) (.tmp 36) rfl _ rfl _ cj rfl h8.out.2.1 (by rw[HCJ.out.1];kernel_rfl) (by rw[HCJ.out.1,dgA_size,d.2]) (Array.all_eq_true_iff_forall_mem.2 (fun v hv=>HCJ.out.2 v (by simpa using hv))) ?_)
      refine hK.out _ _ ?_ (fun hHeld=>?_)
      ·exact h8.out.2.2.1
      clear hK K
      try simp only[Act.put]
      refine rdn ?_
      go_wp2_with fail
      go_roundw
      case rel=>exact⟨n/2,L',jnD t d,by congr 1;omega,by omega,Lib.hid HLp.out.2.1,h8.out.2.2.2.2.1,h8.out.2.2.2.1,Lib.hid HLp.out.2.2.2,Lib.hid (fun k hk=>by injection hk with hk;have hk':g=k:=hk;omega),h8.out.2.2.2.2.2⟩
      case measure=>simp[intOf];omega
     ·have yA:bits .and .i64 ((n:Int)+1) 1=1:=by
       have h:=i64_and1 (n+1) (by omega)
       rw[show (n+1)%2=1 by omega] at h
       exact h
      have HPE:Hid ((stk jnD L).reverse++[d]=(stk jnD (l.take (i+1))).reverse):=Lib.hid (by
       have h:=HPU.out
       rw[push_even jnD _ _ (by omega)] at h
       rw[←h,List.reverse_cons])
      have hrd:wr.rangeAt D 0 (bv d.1):=fun j v hv=>by
       rw[Nat.zero_add,cell_of_row _ _ j _ _ _ hrD]
       simpa using hv
      have hlen2:((stk jnD L).reverse.length+1)*32≤140737488355328:=by
       have h:=stk_len jnD L
       have h2:=HLn.out
       rw[List.length_reverse]
       omega
      clear hrD HPU
      go_wp2_with (first
       | (refine wl_loadM rfl (.tmp 5) rfl D 0 rfl d hrd ?_)
       | (refine wl_buildD rfl (.tmp 43) rfl (dgA d.1) rfl (dgA_n d) ?_)
       | (at_builtin;go_loud (refine wl_appD1 rfl (.tmp 42) (.tmp 44) rfl wA.heap.size _ (stk jnD L).reverse rfl hown d _ rfl rfl rfl hlen2 hzr ?_);intro v3 w3 hown3 hg3 ho3 hb3;rw[HPE.out] at hown3;have b3:=hbr.trans hb3))
      go_roundw
      case rel=>exact⟨i+1,by go_num,by omega,hown3,b3⟩
      case measure=>simp[intOf];omega
   ·have hil:i=l.length:=by omega
    subst hil
    rw[List.take_length] at hown
    obtain⟨W9,hW9⟩:∃W9,W9=wr:=⟨_,rfl⟩
    subst hW9
    have hstn:=stk_ne jnD l hlp
    obtain⟨t,r,hst⟩:∃t r,stk jnD l=t::r:=by
     cases hs:stk jnD l with
     | nil=>exact absurd hs hstn
     | cons t r=>exact⟨t,r,rfl⟩
    have HF:Hid (foldUp jnD t r r.length=rootR jnD zD l):=Lib.hid (by rw[foldUp_all jnD zD t r,←hst,fold_stk jnD zD l hlp])
    have hrl:r.length≤2000:=by
     have h:=stk_len jnD l
     rw[hst,List.length_cons] at h
     omega
    rw[hst,List.reverse_cons] at hown
    clear hst hstn
    have hlen:(r.reverse++[t]).length=r.length+1:=by rw[List.length_append,List.length_reverse];rfl
    obtain⟨g,cS,eS⟩:=hown.form0 (by omega)
    rw[hlen] at eS
    subst eS
    have hgq:=(hown.lt g rfl).2
    have HST:Hid (∀w',Below W9.heap.size W9 w'→∀k x,(r.reverse++[t])[k]? = some x→w'.rangeAt g (k*32) (bv x.1)):=Lib.hid (fun w' h k x hx=>by
     obtain⟨b',o',c',e',_,h2⟩:=hown.sd.at_ (by omega)
     injection e' with e1 _ _
     injection e1 with e1
     injection e1 with e2 e3
     subst e2;subst e3
     have hk:=(List.getElem?_eq_some_iff.1 hx).1
     have h3:=h2 k hk
     rw[List.getElem?_eq_getElem hk] at hx
     injection hx with hx
     rw[hx,Nat.zero_add] at h3
     exact range_below h3 h hgq)
    have hrT:=HST.out W9 (bself W9) r.length t (by rw[List.getElem?_append_right (by rw[List.length_reverse];omega),List.length_reverse];simp)
    have y1:IntKind.i64.wrap (r.length:Int)=(r.length:Int):=IntWalk.i64_in _ (by omega)
    have y2:(r.length:Int)<(r.length:Int)+1:=by omega
    clear hown hlen
    go_upto_region 15 with (first
     | (refine wl_loadM rfl (.tmp 51) rfl g (r.length*32) rfl t hrT ?_)
     | (refine wl_storeD rfl (.tmp 7) (.tmp 52) rfl _ rfl _ (dgA t.1) rfl (heap_alloc_new W9 _) (by kernel_rfl) (dgA_n t) (dgA_one _) ?_))
    generalize hw1:World.setRow _ _ _=w1
    obtain⟨D,hD⟩:∃D,D=W9.heap.size:=⟨_,rfl⟩
    have rD:w1.heap[D]? = some (rowO (dgA (foldUp jnD t r 0).1)):=by rw[←hw1,hD];exact setRow_heap _ _ _ _ _ _ (heap_alloc_new W9 _)
    have b1:Below W9.heap.size W9 w1:=by rw[←hw1];exact below_setRow (balloc (bself W9) _) (Nat.le_refl _) _
    clear hw1
    have hgD:g<D:=by omega
    have hDz:W9.heap.size≤D:=by omega
    rw[←hD]
    clear hD hrT
    go_wp2_with fail
    go_loopw [8] (fun kv wy=>∃(j:Nat) (kz:Int),kv=.int .i64 kz∧kz≤2000 ∧ -1≤kz∧Hid (kz=(r.length:Int)-1-j)∧j≤r.length∧wy.heap[D]? = some (rowO (dgA (foldUp jnD t r j).1))∧Below W9.heap.size W9 wy) (fun kv _=>((intOf kv)+1).toNat)
    case atStart=>exact⟨0,_,rfl,by omega,by omega,Lib.hid (by omega),Nat.zero_le _,rD,b1⟩
    case round =>
     obtain⟨j,kz,rfl,hkz1,hkz2,HKZ,hj,hrD,hb⟩:=hrel
     clear rD b1
     have hDq:D<wr.heap.size:=(Array.getElem?_eq_some_iff.1 hrD).1
     have hzr:=hb.size
     by_cases hlt:j<r.length
     ·obtain⟨k,hk⟩:∃k:Nat,k=r.length-1-j:=⟨_,rfl⟩
      have hkz:kz=(k:Int):=by rw[HKZ.out];omega
      subst hkz
      have hkl:k<r.length:=by omega
      obtain⟨x,hx⟩:∃x,x=r[j]:=⟨_,rfl⟩
      have hrX0:∀w',Below W9.heap.size W9 w'→w'.rangeAt g (k*32) (bv x.1):=fun w' h=>HST.out w' h k x (by
       rw[List.getElem?_append_left (by rw[List.length_reverse];omega),List.getElem?_reverse (by omega),show r.length-1-k=j by omega,List.getElem?_eq_getElem hlt,hx])
      have HFS:Hid (jnD x (foldUp jnD t r j)=foldUp jnD t r (j+1)):=Lib.hid (by rw[hx,foldUp_step jnD t r hlt])
      clear hx
      obtain⟨d,hd⟩:∃d,d=foldUp jnD t r j:=⟨_,rfl⟩
      rw[←hd] at hrD HFS
      clear hd
      obtain⟨cj,hcj⟩:∃cj,dgA (jnD x d).1=cj:=⟨_,rfl⟩
      have HCJ:Hid (cj.size=32∧∀v∈cj.toList,v.oneCell'=true):=Lib.hid (by rw[←hcj];exact⟨dgA_n _,dgA_one _⟩)
      have HJ:Hid (∀w',Below wr.heap.size wr w'→Calls Tryz.prog 97 #[.agg (dgA x.1),.agg (dgA d.1)] w' fun e w''=>e=.returned (.agg cj)∧Below wr.heap.size wr w''):=Lib.hid (fun w' h=>by
       have h2:Below wA.heap.size wA w':=hbr.trans ((hb.trans (h.mono hzr)).mono hbr.size)
       exact (kJoin_any x d _ _ cj rfl rfl hcj w' (HK.out w' h2).1 (HK.out w' h2).2).mono fun e w'' ⟨he,hb⟩=>⟨he,bstep h hb⟩)
      have HW:Hid (∀w',Below wr.heap.size wr w'→w'.rangeAt g (k*32) (bv x.1)∧w'.heap[D]? = some (rowO (dgA d.1))∧(w'.setRow D cj).rangeAt g (k*32) (bv x.1)∧(w'.setRow D cj).heap[D]? = some (rowO (dgA (foldUp jnD t r (j+1)).1))∧Below W9.heap.size W9 (w'.setRow D cj)):=Lib.hid (fun w' h=>by
       have h1:=hrX0 w' (hb.trans (h.mono hzr))
       have h2:=(h.block D hDq).trans hrD
       exact⟨h1,h2,range_setRowD h1 (by omega),by rw[←HFS.out,hcj];exact setRow_heap _ _ _ _ _ _ h2,below_setRow (hb.trans (h.mono hzr)) hDz _⟩)
      have HKE:=Lib.hid hk
      have y2:(k:Int)<(r.length:Int)+1:=by omega
      have y0:(0:Int)≤(k:Int):=by omega
      clear hrX0 hrD hcj hk HKZ
      go_upto_region 18 with fail
      refine wp_region_noPanic ?_
      refine wp_region_held_drew (S:=fun w'=>w'.rangeAt g (k*32) (bv x.1)) (by kernel_rfl) (HW.out _ (bdrew (bself wr))).1 (fun hHeld=>?_)
      refine rtk 0 ?_
      refine rtk 1 ?_
      refine rtk 2 ?_
      refine reg_take 3 (v:=.agg (dgA x.1)) (by rfl) (by kernel_rfl) (by kernel_rfl) (by kernel_rfl) (fun _ _ _ h=>h) (by rfl) ?_ (by assumption) ?_
      ·(intro wq hSq;exact exec_loadM (.tmp 62) rfl g (k*32) rfl x hSq)
      try simp only[Act.put,q1,q2,q3]
      have h6:=Lib.hid (HW.out _ (bdrew (bself wr)))
      refine ro 4 (fun K hK=>?_)
      (refine wp_exec (exec_loadM (.tmp 7) rfl D 0 rfl d ?_) ?_;(refine fun j v hv=>?_;rw[Nat.zero_add,cell_of_row _ _ j _ _ _ h6.out.2.1];simpa using hv))
      refine hK.out _ _ ?_ (fun hHeld=>?_)
      ·exact h6.out.1
      clear hK K
      try simp only[Act.put,q1,q2,q3]
      refine ro 5 (fun K hK=>?_)
      (go_simp;go_at_call 97;refine (HJ.out _ (bdrew (bself wr))).mono ?_;rintro e w5 ⟨rfl,b5⟩;go_wp2_with fail)
      refine hK.out _ _ ?_ (fun hHeld=>?_)
      ·exact (HW.out _ b5).1
      clear hK K
      try simp only[Act.put,q1,q2,q3]
      have h8:=Lib.hid (HW.out _ b5)
      refine ro 6 (fun K hK=>?_)
      (refine wp_storeR 53 (.tmp 7) (.tmp 65) rfl _ rfl _ cj rfl h8.out.2.1 (by rw[HCJ.out.1];kernel_rfl) (by rw[HCJ.out.1,dgA_size,d.2]) (Array.all_eq_true_iff_forall_mem.2 (fun v hv=>HCJ.out.2 v (by simpa using hv))) ?_)
      refine hK.out _ _ ?_ (fun hHeld=>?_)
      ·exact h8.out.2.2.1
      clear hK K
      try simp only[Act.put]
      refine rdn ?_
      go_wp2_with fail
      go_roundw
      case rel=>exact⟨j+1,_,rfl,by omega,by omega,Lib.hid (by have:=HKE.out;omega),by omega,h8.out.2.2.2.1,h8.out.2.2.2.2⟩
      case measure=>simp only[intOf];omega
     ·have hjr:j=r.length:=by omega
      have hkz:kz=-1:=by rw[HKZ.out];omega
      subst hkz
      subst hjr
      rw[HF.out,HC.out] at hrD
      have h9:=Lib.hid (HEND.out wr (hbr.trans (hb.mono hbr.size)))
      have HR9:=Lib.hid hrD
      clear hrD
      go_wp2_with (first
       | (refine wl_loadD rfl (.tmp 7) rfl D rfl c HR9.out HN.out.1 ?_)
       | (refine wl_storeD rfl (.tmp 2) (.tmp 66) rfl _ rfl _ c rfl h9.out.1 HZ.out HN.out.1 HN.out.2 ?_))
      exact bodyPost_ret (v:=.agg c) (res_dig Tryz.results61 _ _ _ c rfl h9.out.2.1 HN.out.1) rfl ⟨rfl,h9.out.2.2⟩
end Go.Proofs.YtchjknbideoieaaGreatDoor
