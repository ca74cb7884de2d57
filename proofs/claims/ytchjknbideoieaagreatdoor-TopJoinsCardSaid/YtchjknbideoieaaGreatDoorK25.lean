/- What is proved here: what the builder's add comes to, at this seat's numbers. Conditions: an entry that may be; the lengths. -/
import Derived.Test.YtchjknbideoieaaGreatDoorK21
import Derived.Deep.DeepCutAuto
import Derived.Deep.CutBlock
namespace Go.Proofs.YtchjknbideoieaaGreatDoor
set_option maxRecDepth 100000
set_option maxHeartbeats 8000000
open Go.RowKit
abbrev entO (e:Ent):Obj:=.cells #[.string e.user,.int .u64 (e.seq.toNat:Int),.int .u8 (e.kind.toNat:Int),.string e.value] 29 (0,0)
theorem ent_ne:(29:TypeId)≠5:=by decide
theorem kAdd_any (base Bk:Nat) (out places:List UInt8) (n:Nat) (last:ByteArray) (e:Ent) (anew:Bool) (w:World) (h:BldAt w base Bk out places n last) (hbase:base≤w.heap.size) (he:rightE e=true) (hlast:last.size≤2000) (hout:out.length≤1048576) (hpl:places.length≤8388608) (hn:n≤1048576) :
  Calls Tryz.prog 92 #[.pointer (some ⟨Bk,0,none⟩),entV e,.bool anew] w fun en w'=>en=.returned (.tuple #[]) ∧
   BldAt w' base Bk (out++oneB (if anew=true then 0 else partAt last.data.toList (layE e)) e) (if anew=true then places++fix out.length 4 else places) (if anew=true then n+1 else n) ⟨(layE e).toArray⟩∧Below base w w':=by
 obtain⟨vo,vp,h⟩:=h
 obtain⟨heu,hev⟩:=rightE_le he
 have hkl:=lay_le he
 obtain⟨Ky,hKy⟩:∃Ky:ByteArray,(⟨(layE e).toArray⟩:ByteArray)=Ky:=⟨_,rfl⟩
 have hKd:Ky.data.toList=layE e:=by rw[←hKy]
 have hKs:Ky.size=(layE e).length:=by rw[←toList_size Ky,hKd]
 have hKs1:Ky.size≤1032:=by omega
 have HKL:=Lib.hid (fun W=>iLay_any e W (by omega))
 rw[hKy] at HKL ⊢
 have HD:=Lib.hid (And.intro hKd hKs)
 have hlt:=h.lt
 clear hKy hKd hKs
 go_enter Tryz.func92,Tryz.ntmps92
 go_wp2_with fail
 refine (HKL.out _).mono ?_
 rintro _ w2 ⟨rfl,hb2⟩
 have b2:Below w.heap.size w w2:=bstep (balloc (bself w) _) hb2
 have rE:w2.heap[w.heap.size]? = some (entO e):=(hb2.block _ (by simp)).trans (heap_alloc_new w _)
 have h2:=h.below b2
 obtain⟨⟨_,_,_,c3⟩,_⟩:=h2.cells
 clear HKL hb2
 go_upto_region 3 with (go_at_call 115;refine (kAlike_any last Ky _ (by omega) (by omega)).mono ?_;rintro _ w3 ⟨rfl,n3,rfl⟩)
 have h3:BldV (w2.drewN n3) base Bk vo vp out places n last:=h2.below (brefl _ _)
 have rE3:(w2.drewN n3).heap[w.heap.size]? = some (entO e):=rE
 have b3:Below w.heap.size w (w2.drewN n3):=bdrewN b2 n3
 clear h2 rE b2 c3
 generalize World.drewN w2 n3=w3 at h3 rE3 b3 ⊢
 cases anew with
 | true =>
  obtain⟨Ao,co,rfl,hco1,hco2,_⟩:=h3.oo.sb
  obtain⟨⟨c0,c1,c2,c3⟩,f0,f1,f2,f3⟩:=h3.cells
  have gw:IntKind.u64.wrap (out.length:Int)=(out.length:Int):=by rw[IntKind.wrap_u64];omega
  obtain⟨l4,hl4⟩:∃l4,Hid (l4=places++fix out.length 4):=⟨_,Lib.hid rfl⟩
  go_upto_region 5 with fail
  refine wp_region_noPanic ?_
  refine wp_region_held_drew (S:=fun w'=>True∧w'.cell? ⟨Bk,0,none⟩=some (.slice Ao out.length co)) (by kernel_rfl) ⟨trivial,c0⟩ (fun hHeld=>?_)
  refine rtk 0 ?_
  refine rtk 1 ?_
  refine rtk 2 ?_
  refine rtk 3 ?_
  refine rtk 5 ?_
  refine rtk 6 ?_
  refine rtk 7 ?_
  refine rtk 8 ?_
  refine rtk 9 ?_
  refine rtk 10 ?_
  refine ro 4 (fun K hK=>?_)
  (go_simp)
  refine hK.out _ _ ?_ (fun hHeld=>?_)
  ·exact⟨trivial,c0⟩
  clear hK K
  try simp only[Act.put,q1,q2,q3]
  refine ro 11 (fun K hK=>?_)
  (go_simp;go_at_call 60;refine (cFix_any vp places out.length 4 w3.drew (h3.op.drew).sb (by omega) (by omega) (by omega) (by omega)).mono ?_;rintro _ w4 ⟨r4,rfl,ho4,hb4⟩;have ho4:OB w4 w3.heap.size r4 l4:=(by rw[hl4.out];exact ho4);obtain⟨A4,k4,rfl,_,_,_⟩:=ho4.sb;have h4:=BldV.below (w:=w3.drew) ⟨h3.row,h3.oo.drew,h3.op.drew,h3.ne,h3.le⟩ hb4;obtain⟨⟨d0,d1,d2,d3⟩,e0,e1,e2,e3⟩:=h4.cells;go_wp2_with fail)
  refine hK.out _ _ ?_ (fun hHeld=>?_)
  ·exact⟨trivial,d0⟩
  clear hK K
  try simp only[Act.put,q1,q2,q3]
  refine rtk 12 ?_
  refine rtk 13 ?_
  refine ro 14 (fun K hK=>?_)
  (go_simp)
  refine hK.out _ _ ?_ (fun hHeld=>?_)
  ·exact⟨trivial,(World.cell?_setCell_other _ _ _ _ (by simp)).trans d0⟩
  clear hK K
  try simp only[Act.put,q1,q2,q3]
  refine rdn ?_
  have hne:(Value.slice A4 l4.length k4).ownBlock=none∨(Value.slice A4 l4.length k4).ownBlock≠(Value.slice Ao out.length co).ownBlock:=by
   rcases hv:(Value.slice A4 l4.length k4).ownBlock with _|x
   ·exact .inl rfl
   ·right
    intro e2
    have h1:=(ho4.lt x hv).1
    have h2:=(h3.oo.lt x e2.symm).2
    omega
  have h5:=h4.setPlaces (ho4.rebase (by have:=b3.size;omega)) hne
  have hEB:w.heap.size≠Bk:=by omega
  have b5:Below base w (w4.setCell ⟨Bk,1,none⟩ (.slice A4 l4.length k4)):=((b3.mono hbase).trans ((bdrew (bself w3)).trans hb4 |>.mono (Nat.le_trans hbase b3.size))).setCell h.le _
  have rE5:(w4.setCell ⟨Bk,1,none⟩ (.slice A4 l4.length k4)).heap[w.heap.size]? = some (entO e):=(Below.heap_setCell _ _ _ _ hEB).trans ((hb4.block _ (by show w.heap.size<w3.heap.size;exact (Array.getElem?_eq_some_iff.1 rE3).1)).trans rE3)
  clear hne hb4 h4 d0 d1 d2 d3 e0 e1 e2 e3 rE3 b3 h3 c0 c1 c2 c3 f0 f1 f2 f3 hHeld ho4 hco1 gw
  generalize World.setCell w4 _ _=w5 at h5 b5 rE5 ⊢
  obtain⟨⟨c0,c1,c2,c3⟩,f0,f1,f2,f3⟩:=h5.cells
  have gn:IntKind.i64.wrap ((n:Int)+1)=((n+1:Nat):Int):=by rw[IntKind.wrap_i64];omega
  go_upto_region 7 with fail
  have h6:=h5.setN (n+1)
  have b6:=b5.setCell h5.le (p:=⟨Bk,2,none⟩) (.int .i64 ((n+1:Nat):Int))
  have rE6:=(Below.heap_setCell w5 ⟨Bk,2,none⟩ (.int .i64 ((n+1:Nat):Int)) _ hEB).trans rE5
  rw[show ((n+1:Nat):Int)=(n:Int)+1 from by omega] at h6 b6 rE6
  clear h5 b5 rE5 c0 c1 c2 c3 f0 f1 f2 f3 gn hHeld
  generalize World.setCell w5 _ _=w6 at h6 b6 rE6 ⊢
  have g2:IntKind.i64.wrap (Ky.size:Int)=(Ky.size:Int):=by rw[IntKind.wrap_i64];omega
  have g3:IntKind.u64.wrap (Ky.size:Int)=(Ky.size:Int):=by rw[IntKind.wrap_u64];omega
  obtain⟨⟨_,_,_,x3⟩,_⟩:=cells4 rE6
  have hElt:w.heap.size<w6.heap.size:=(Array.getElem?_eq_some_iff.1 rE6).1
  have hEB:w.heap.size≠Bk:=by omega
  have hbs6:base≤w6.heap.size:=by omega
  have g4:IntKind.u64.wrap (e.value.size:Int)=(e.value.size:Int):=by rw[IntKind.wrap_u64];omega
  have hdl:=num_length Ky.size
  have hkl2:=num_length 0
  have hvl:=num_length e.value.size
  refine wp_region_noPanic ?_
  refine wp_region_held_drew (S:=fun w'=>True∧w'.cell? ⟨w.heap.size,3,none⟩=some (.string e.value)) (by kernel_rfl) ⟨trivial,x3⟩ (fun hHeld=>?_)
  refine rtk 0 ?_
  refine rtk 1 ?_
  refine rtk 3 ?_
  refine rtk 4 ?_
  refine rtk 5 ?_
  refine rtk 6 ?_
  refine rtk 7 ?_
  refine rtk 9 ?_
  refine rtk 10 ?_
  refine rtk 11 ?_
  refine rtk 12 ?_
  refine ro 2 (fun K hK=>?_)
  (go_simp;go_at_call 59;refine (cNum_any _ [] 0 w6.drew (SB.nil_ _ _) (by simp) (by omega)).mono ?_;rintro _ w7 ⟨r7,rfl,ho7,hb7⟩;have hb7:=bstep (bdrew (bself w6)) hb7;have y7:=(hb7.cell (p:=⟨w.heap.size,3,none⟩) hElt).trans x3;go_wp2_with fail)
  refine hK.out _ _ ?_ (fun hHeld=>?_)
  ·exact⟨trivial,y7⟩
  clear hK K
  try simp only[Act.put,q1,q2,q3]
  refine ro 8 (fun K hK=>?_)
  (go_simp;go_at_call 59;refine (cNum_any r7 ([]++num 0) Ky.size w7 ho7.sb (by simp only[List.nil_append];omega) (by omega)).mono ?_;rintro _ w8 ⟨r8,rfl,ho8,hb8⟩;have hb8:=bstep hb7 hb8;have y8:=(hb8.cell (p:=⟨w.heap.size,3,none⟩) hElt).trans x3;go_wp2_with fail)
  refine hK.out _ _ ?_ (fun hHeld=>?_)
  ·exact⟨trivial,y8⟩
  clear hK K
  try simp only[Act.put,q1,q2,q3]
  refine ro 13 (fun K hK=>?_)
  (go_simp;go_at_call 59;refine (cNum_any r8 ([]++num 0++num Ky.size) e.value.size w8 ho8.sb (by simp only[List.nil_append,List.length_append];omega) (by omega)).mono ?_;rintro _ w9 ⟨r9,rfl,ho9,hb9⟩;have hb9:=bstep hb8 hb9;have y9:=(hb9.cell (p:=⟨w.heap.size,3,none⟩) hElt).trans x3;go_wp2_with fail)
  refine hK.out _ _ ?_ (fun hHeld=>?_)
  ·exact⟨trivial,y9⟩
  clear hK K
  try simp only[Act.put,q1,q2,q3]
  refine rtk 14 ?_
  refine rdn ?_
  obtain⟨hd9,hhd9⟩:∃l:List UInt8,Hid ([]++num 0++num Ky.size++num e.value.size=l):=⟨_,Lib.hid rfl⟩
  rw[hhd9.out] at ho9
  have hhl:hd9.length≤30:=by rw[←hhd9.out];simp only[List.nil_append,List.length_append];omega
  have h9:=(h6.below hb9).drew
  have b9:Below base w w9:=b6.trans (hb9.mono hbs6)
  have rE9:w9.heap[w.heap.size]? = some (entO e):=(hb9.block _ hElt).trans rE6
  have hs9:SB w9.drew w9.drew.heap.size r9 hd9:=ho9.sb
  have hb9s:base≤w9.drew.heap.size:=Nat.le_trans hbs6 hb9.size
  clear ho9 h6 b6 rE6 x3 hElt hbs6 hdl hkl2 hvl
  have hElt:w.heap.size<w9.drew.heap.size:=(Array.getElem?_eq_some_iff.1 rE9).1
  obtain⟨⟨d0,_,_,_⟩,e0,_⟩:=h9.cells
  have hEno:(Value.slice Ao out.length co).ownBlock≠some w.heap.size:=own_type ent_ne h9.oo (show w9.drew.heap[w.heap.size]? = _ from rE9)
  go_upto_region 8 with fail
  refine wp_region_noPanic ?_
  refine wp_region_held_drew (S:=fun w'=>True∧w'.cell? ⟨w.heap.size,3,none⟩=some (.string e.value)) (by kernel_rfl) ⟨trivial,y9⟩ (fun hHeld=>?_)
  refine rtk 0 ?_
  refine rtk 1 ?_
  refine rtk 2 ?_
  refine rtk 3 ?_
  refine rtk 5 ?_
  refine rtk 7 ?_
  refine rtk 8 ?_
  refine rtk 9 ?_
  refine rtk 11 ?_
  refine rtk 12 ?_
  refine ro 4 (fun K hK=>?_)
  (go_simp)
  refine hK.out _ _ ?_ (fun hHeld=>?_)
  ·exact⟨trivial,y9⟩
  clear hK K
  try simp only[Act.put,q1,q2,q3]
  refine ro 6 (fun K hK=>?_)
  (refine wp_appB (.tmp 57) (.tmp 58) rfl base _ out rfl h9.oo w9.drew.heap.size _ hd9 rfl hs9 (by omega) hb9s ?_;intro v10 w10 ho10 hg10 hw10 hb10;have k10:=(Kept.refl w9.drew (.slice Ao out.length co)).step hg10 hw10;have y10:w10.cell? ⟨w.heap.size,3,none⟩=some (.string e.value):=(World.cell?_of_block (a:=⟨w.heap.size,3,none⟩) (k10.block _ hElt hEno)).trans y9)
  refine hK.out _ _ ?_ (fun hHeld=>?_)
  ·exact⟨trivial,y10⟩
  clear hK K
  try simp only[Act.put,q1,q2,q3]
  refine ro 10 (fun K hK=>?_)
  (refine wp_appS2 (.tmp 59) (.tmp 62) rfl base v10 (out++hd9) rfl ho10 _ rfl (by rw[List.length_append];omega) (Nat.le_trans hb9s hb10.size) ?_;intro v11 w11 ho11 hg11 hw11 hb11;have k11:=k10.step hg11 hw11;have y11:w11.cell? ⟨w.heap.size,3,none⟩=some (.string e.value):=(World.cell?_of_block (a:=⟨w.heap.size,3,none⟩) (k11.block _ hElt hEno)).trans y9)
  refine hK.out _ _ ?_ (fun hHeld=>?_)
  ·exact⟨trivial,y11⟩
  clear hK K
  try simp only[Act.put,q1,q2,q3]
  obtain⟨l11,hl11⟩:∃l:List UInt8,Hid (out++hd9++(Ky).data.toList=l):=⟨_,Lib.hid rfl⟩
  rw[hl11.out] at ho11
  have hl11l:l11.length≤1050000:=by
   rw[←hl11.out,List.length_append,List.length_append,toList_size]
   have:=hKs1
   omega
  refine ro 13 (fun K hK=>?_)
  (refine wp_appS2 (.tmp 63) (.tmp 65) rfl base v11 l11 rfl ho11 e.value rfl (by omega) (Nat.le_trans hb9s (hb10.trans hb11).size) ?_;intro v12 w12 ho12 hg12 hw12 hb12;obtain⟨l12,hl12⟩:∃l:List UInt8,Hid (l11++e.value.data.toList=l):=⟨_,Lib.hid rfl⟩;rw[hl12.out] at ho12;obtain⟨A12,c12,rfl,_,_,_⟩:=ho12.sb;have k12:=k11.step hg12 hw12;have y12:w12.cell? ⟨w.heap.size,3,none⟩=some (.string e.value):=(World.cell?_of_block (a:=⟨w.heap.size,3,none⟩) (k12.block _ hElt hEno)).trans y9)
  refine hK.out _ _ ?_ (fun hHeld=>?_)
  ·exact⟨trivial,y12⟩
  clear hK K
  try simp only[Act.put,q1,q2,q3]
  refine rtk 14 ?_
  refine rtk 15 ?_
  have hrow12:w12.heap[Bk]? = w9.drew.heap[Bk]?:=k12.block Bk h9.lt h9.no
  have d12:w12.cell? ⟨Bk,0,none⟩=some (.slice Ao out.length co):=(World.cell?_of_block (a:=⟨Bk,0,none⟩) hrow12).trans d0
  have e12:w12.frozen? ⟨Bk,0,none⟩=false:=by rw[←e0];unfold World.frozen?;rw[show w12.heap[(⟨Bk,0,none⟩:Addr).block]? = w9.drew.heap[(⟨Bk,0,none⟩:Addr).block]? from hrow12]
  refine ro 16 (fun K hK=>?_)
  (go_simp)
  refine hK.out _ _ ?_ (fun hHeld=>?_)
  ·exact⟨trivial,(World.cell?_setCell_other _ _ _ _ (by first|(simp;done)|(simp;omega))).trans y12⟩
  clear hK K
  try simp only[Act.put,q1,q2,q3]
  refine rdn ?_
  have h13:=h9.setOut k12 ho12
  have b13:Below base w (w12.setCell ⟨Bk,0,none⟩ (.slice A12 l12.length c12)):=((⟨b9.os,b9.tape,b9.output,b9.size,b9.block⟩:Below base w w9.drew).trans ((hb10.trans hb11).trans hb12)).setCell h9.le _
  clear hrow12 d12 e12 y9 y10 y11 y12 hHeld k10 k11 k12 hg12 hw12 hb10 hb11 hb12 ho12 d0 e0
  generalize World.setCell w12 _ _=w13 at h13 b13 ⊢
  obtain⟨⟨_,_,_,d3⟩,_,_,_,e3⟩:=h13.cells
  go_wp2_with fail
  go_end0
  have h14:=h13.setLast Ky
  have eo:l12=out++oneB 0 e:=by
   rw[←hl12.out,←hl11.out,←hhd9.out,HD.out.1]
   simp[oneB,HD.out.2]
  rw[eo,hl4.out] at h14
  skip
  exact⟨rfl,⟨_,_,h14⟩,b13.setCell h9.le _⟩
 | false =>
  have hkp:=(partAt_le last.data.toList (layE e)).2
  rw[←HD.out.2] at hkp
  rw[HD.out.1]
  obtain⟨k,hk⟩:∃k,partAt last.data.toList (layE e)=k:=⟨_,rfl⟩
  rw[hk] at hkp ⊢
  have HKK:=Lib.hid hk
  clear hk
  obtain⟨d,hd⟩:∃d:Nat,Ky.size-k=d:=⟨_,rfl⟩
  obtain⟨Ao,co,rfl,hco1,hco2,_⟩:=h3.oo.sb
  have b6:=b3.mono hbase
  go_upto_region 7 with fail
  have h6:=h3
  have rE6:=rE3
  clear h3 rE3 b3
  generalize w3=w6 at h6 rE6 b6 ⊢
  have hk0:(k:Int)≤(Ky.size:Int):=by omega
  have g1:IntKind.u64.wrap (k:Int)=(k:Int):=by rw[IntKind.wrap_u64];omega
  have g2:IntKind.i64.wrap ((Ky.size:Int)-(k:Int))=(d:Int):=by rw[IntKind.wrap_i64];omega
  have g3:IntKind.u64.wrap (d:Int)=(d:Int):=by rw[IntKind.wrap_u64];omega
  have hd1032:d≤1032:=by omega
  have HDD:=Lib.hid hd
  clear hd
  obtain⟨⟨_,_,_,x3⟩,_⟩:=cells4 rE6
  have hElt:w.heap.size<w6.heap.size:=(Array.getElem?_eq_some_iff.1 rE6).1
  have hEB:w.heap.size≠Bk:=by omega
  have hbs6:base≤w6.heap.size:=by omega
  have g4:IntKind.u64.wrap (e.value.size:Int)=(e.value.size:Int):=by rw[IntKind.wrap_u64];omega
  have hdl:=num_length d
  have hkl2:=num_length k
  have hvl:=num_length e.value.size
  refine wp_region_noPanic ?_
  refine wp_region_held_drew (S:=fun w'=>True∧w'.cell? ⟨w.heap.size,3,none⟩=some (.string e.value)) (by kernel_rfl) ⟨trivial,x3⟩ (fun hHeld=>?_)
  refine rtk 0 ?_
  refine rtk 1 ?_
  refine rtk 3 ?_
  refine rtk 4 ?_
  refine rtk 5 ?_
  refine rtk 6 ?_
  refine rtk 7 ?_
  refine rtk 9 ?_
  refine rtk 10 ?_
  refine rtk 11 ?_
  refine rtk 12 ?_
  refine ro 2 (fun K hK=>?_)
  (go_simp;go_at_call 59;refine (cNum_any _ [] k w6.drew (SB.nil_ _ _) (by simp) (by omega)).mono ?_;rintro _ w7 ⟨r7,rfl,ho7,hb7⟩;have hb7:=bstep (bdrew (bself w6)) hb7;have y7:=(hb7.cell (p:=⟨w.heap.size,3,none⟩) hElt).trans x3;go_wp2_with fail)
  refine hK.out _ _ ?_ (fun hHeld=>?_)
  ·exact⟨trivial,y7⟩
  clear hK K
  try simp only[Act.put,q1,q2,q3]
  refine ro 8 (fun K hK=>?_)
  (go_simp;go_at_call 59;refine (cNum_any r7 ([]++num k) d w7 ho7.sb (by simp only[List.nil_append];omega) (by omega)).mono ?_;rintro _ w8 ⟨r8,rfl,ho8,hb8⟩;have hb8:=bstep hb7 hb8;have y8:=(hb8.cell (p:=⟨w.heap.size,3,none⟩) hElt).trans x3;go_wp2_with fail)
  refine hK.out _ _ ?_ (fun hHeld=>?_)
  ·exact⟨trivial,y8⟩
  clear hK K
  try simp only[Act.put,q1,q2,q3]
  refine ro 13 (fun K hK=>?_)
  (go_simp;go_at_call 59;refine (cNum_any r8 ([]++num k++num d) e.value.size w8 ho8.sb (by simp only[List.nil_append,List.length_append];omega) (by omega)).mono ?_;rintro _ w9 ⟨r9,rfl,ho9,hb9⟩;have hb9:=bstep hb8 hb9;have y9:=(hb9.cell (p:=⟨w.heap.size,3,none⟩) hElt).trans x3;go_wp2_with fail)
  refine hK.out _ _ ?_ (fun hHeld=>?_)
  ·exact⟨trivial,y9⟩
  clear hK K
  try simp only[Act.put,q1,q2,q3]
  refine rtk 14 ?_
  refine rdn ?_
  obtain⟨hd9,hhd9⟩:∃l:List UInt8,Hid ([]++num k++num d++num e.value.size=l):=⟨_,Lib.hid rfl⟩
  rw[hhd9.out] at ho9
  have hhl:hd9.length≤30:=by rw[←hhd9.out];simp only[List.nil_append,List.length_append];omega
  have h9:=(h6.below hb9).drew
  have b9:Below base w w9:=b6.trans (hb9.mono hbs6)
  have rE9:w9.heap[w.heap.size]? = some (entO e):=(hb9.block _ hElt).trans rE6
  have hs9:SB w9.drew w9.drew.heap.size r9 hd9:=ho9.sb
  have hb9s:base≤w9.drew.heap.size:=Nat.le_trans hbs6 hb9.size
  clear ho9 h6 b6 rE6 x3 hElt hbs6 hdl hkl2 hvl
  have hElt:w.heap.size<w9.drew.heap.size:=(Array.getElem?_eq_some_iff.1 rE9).1
  obtain⟨⟨d0,_,_,_⟩,e0,_⟩:=h9.cells
  have hEno:(Value.slice Ao out.length co).ownBlock≠some w.heap.size:=own_type ent_ne h9.oo (show w9.drew.heap[w.heap.size]? = _ from rE9)
  go_upto_region 8 with fail
  refine wp_region_noPanic ?_
  refine wp_region_held_drew (S:=fun w'=>True∧w'.cell? ⟨w.heap.size,3,none⟩=some (.string e.value)) (by kernel_rfl) ⟨trivial,y9⟩ (fun hHeld=>?_)
  refine rtk 0 ?_
  refine rtk 1 ?_
  refine rtk 2 ?_
  refine rtk 3 ?_
  refine rtk 5 ?_
  refine rtk 7 ?_
  refine rtk 8 ?_
  refine rtk 9 ?_
  refine rtk 11 ?_
  refine rtk 12 ?_
  refine ro 4 (fun K hK=>?_)
  (go_simp)
  refine hK.out _ _ ?_ (fun hHeld=>?_)
  ·exact⟨trivial,y9⟩
  clear hK K
  try simp only[Act.put,q1,q2,q3]
  refine ro 6 (fun K hK=>?_)
  (refine wp_appB (.tmp 57) (.tmp 58) rfl base _ out rfl h9.oo w9.drew.heap.size _ hd9 rfl hs9 (by omega) hb9s ?_;intro v10 w10 ho10 hg10 hw10 hb10;have k10:=(Kept.refl w9.drew (.slice Ao out.length co)).step hg10 hw10;have y10:w10.cell? ⟨w.heap.size,3,none⟩=some (.string e.value):=(World.cell?_of_block (a:=⟨w.heap.size,3,none⟩) (k10.block _ hElt hEno)).trans y9)
  refine hK.out _ _ ?_ (fun hHeld=>?_)
  ·exact⟨trivial,y10⟩
  clear hK K
  try simp only[Act.put,q1,q2,q3]
  refine ro 10 (fun K hK=>?_)
  (refine wp_appS2 (.tmp 59) (.tmp 62) rfl base v10 (out++hd9) rfl ho10 _ rfl (by rw[List.length_append,ByteArray.size_extract];omega) (Nat.le_trans hb9s hb10.size) ?_;intro v11 w11 ho11 hg11 hw11 hb11;have k11:=k10.step hg11 hw11;have y11:w11.cell? ⟨w.heap.size,3,none⟩=some (.string e.value):=(World.cell?_of_block (a:=⟨w.heap.size,3,none⟩) (k11.block _ hElt hEno)).trans y9)
  refine hK.out _ _ ?_ (fun hHeld=>?_)
  ·exact⟨trivial,y11⟩
  clear hK K
  try simp only[Act.put,q1,q2,q3]
  obtain⟨l11,hl11⟩:∃l:List UInt8,Hid (out++hd9++(Ky.extract k Ky.size).data.toList=l):=⟨_,Lib.hid rfl⟩
  rw[hl11.out] at ho11
  have hl11l:l11.length≤1050000:=by
   rw[←hl11.out,List.length_append,List.length_append,toList_size]
   have:=(show (Ky.extract k Ky.size).size≤1032 from by rw[ByteArray.size_extract];omega)
   omega
  refine ro 13 (fun K hK=>?_)
  (refine wp_appS2 (.tmp 63) (.tmp 65) rfl base v11 l11 rfl ho11 e.value rfl (by omega) (Nat.le_trans hb9s (hb10.trans hb11).size) ?_;intro v12 w12 ho12 hg12 hw12 hb12;obtain⟨l12,hl12⟩:∃l:List UInt8,Hid (l11++e.value.data.toList=l):=⟨_,Lib.hid rfl⟩;rw[hl12.out] at ho12;obtain⟨A12,c12,rfl,_,_,_⟩:=ho12.sb;have k12:=k11.step hg12 hw12;have y12:w12.cell? ⟨w.heap.size,3,none⟩=some (.string e.value):=(World.cell?_of_block (a:=⟨w.heap.size,3,none⟩) (k12.block _ hElt hEno)).trans y9)
  refine hK.out _ _ ?_ (fun hHeld=>?_)
  ·exact⟨trivial,y12⟩
  clear hK K
  try simp only[Act.put,q1,q2,q3]
  refine rtk 14 ?_
  refine rtk 15 ?_
  have hrow12:w12.heap[Bk]? = w9.drew.heap[Bk]?:=k12.block Bk h9.lt h9.no
  have d12:w12.cell? ⟨Bk,0,none⟩=some (.slice Ao out.length co):=(World.cell?_of_block (a:=⟨Bk,0,none⟩) hrow12).trans d0
  have e12:w12.frozen? ⟨Bk,0,none⟩=false:=by rw[←e0];unfold World.frozen?;rw[show w12.heap[(⟨Bk,0,none⟩:Addr).block]? = w9.drew.heap[(⟨Bk,0,none⟩:Addr).block]? from hrow12]
  refine ro 16 (fun K hK=>?_)
  (go_simp)
  refine hK.out _ _ ?_ (fun hHeld=>?_)
  ·exact⟨trivial,(World.cell?_setCell_other _ _ _ _ (by first|(simp;done)|(simp;omega))).trans y12⟩
  clear hK K
  try simp only[Act.put,q1,q2,q3]
  refine rdn ?_
  have h13:=h9.setOut k12 ho12
  have b13:Below base w (w12.setCell ⟨Bk,0,none⟩ (.slice A12 l12.length c12)):=((⟨b9.os,b9.tape,b9.output,b9.size,b9.block⟩:Below base w w9.drew).trans ((hb10.trans hb11).trans hb12)).setCell h9.le _
  clear hrow12 d12 e12 y9 y10 y11 y12 hHeld k10 k11 k12 hg12 hw12 hb10 hb11 hb12 ho12 d0 e0
  generalize World.setCell w12 _ _=w13 at h13 b13 ⊢
  obtain⟨⟨_,_,_,d3⟩,_,_,_,e3⟩:=h13.cells
  go_wp2_with fail
  go_end0
  have h14:=h13.setLast Ky
  have eo:l12=out++oneB k e:=by
   rw[←hl12.out,←hl11.out,←hhd9.out,Lib.extract_to_end,HD.out.1]
   simp[oneB,←HDD.out,HD.out.2]
  rw[eo] at h14
  rw[HKK.out]
  exact⟨rfl,⟨_,_,h14⟩,b13.setCell h9.le _⟩
end Go.Proofs.YtchjknbideoieaaGreatDoor
