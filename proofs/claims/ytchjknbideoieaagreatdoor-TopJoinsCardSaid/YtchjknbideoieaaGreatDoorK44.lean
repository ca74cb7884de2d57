/- What is proved here: a table's writer in memory; what put of it comes to, at this seat's numbers. Conditions: the lengths; the table of constants. a struct built of parts of many cells: a table's writer, a meta, at this seat's numbers. No condition. what a table's index tells, row by row; what its bytes are cut into. No program in sight. -/
import Derived.Test.YtchjknbideoieaaGreatDoorK43
import Derived.Test.YtchjknbideoieaaGreatDoorK17
import Derived.Test.YtchjknbideoieaaGreatDoorK09
import Derived.Test.YtchjknbideoieaaGreatDoorK03
namespace Go.Proofs.YtchjknbideoieaaGreatDoor
set_option maxRecDepth 100000
set_option maxHeartbeats 8000000
open Go.RowKit
def sealP (K ad:List UInt8) (p:Nat) (x:List UInt8):List UInt8:=sealB (strmB (K.take 32) (nonceOf p)) (tagB (K.drop 32) (nonceOf p) ad) x
theorem sealP_length (K ad:List UInt8) (p:Nat) (x:List UInt8):(sealP K ad p x).length=x.length+16:=sealB_length _ (strmB_length _ _) _ (tagB_length _ _ _) x
def leafB (x:List UInt8):List UInt8:=(leafD x).1
theorem leafB_length (x:List UInt8):(leafB x).length=32:=(leafD x).2
abbrev rowWr (K:List UInt8) (va vo vl:Value):Obj:=.cells (bv K++[va,vo,vl]).toArray 115 (0,0)
theorem wr_cells {w:World} {P:Nat} {K:List UInt8} {va vo vl:Value} (h:w.heap[P]? = some (rowWr K va vo vl)) (hK:K.length=64) :
  w.rangeAt P 0 (bv K)∧(w.cell? ⟨P,64,none⟩=some va∧w.cell? ⟨P,65,none⟩=some vo∧w.cell? ⟨P,66,none⟩=some vl)∧(∀k,w.frozen? ⟨P,k,none⟩=false) ∧
  (∀v,(w.setCell ⟨P,65,none⟩ v).heap[P]? = some (rowWr K va v vl))∧(∀v,(w.setCell ⟨P,66,none⟩ v).heap[P]? = some (rowWr K va vo v)):=by
 have hb:(bv K).length=64:=by rw[bv_length,hK]
 have hc:∀k,w.cell? ⟨P,k,none⟩=(bv K++[va,vo,vl])[k]?:=fun k=>by rw[cell_of_row _ _ k _ _ _ h,List.getElem?_toArray]
 refine⟨fun j v hv=>?_,⟨?_,?_,?_⟩,fun k=>by simp[World.frozen?,h],fun v=>?_,fun v=>?_⟩
 ·have hj:=(List.getElem?_eq_some_iff.1 hv).1
  rw[hc,Nat.zero_add,List.getElem?_append_left hj,hv]
 ·rw[hc,List.getElem?_append_right (by omega),hb];rfl
 ·rw[hc,List.getElem?_append_right (by omega),hb];rfl
 ·rw[hc,List.getElem?_append_right (by omega),hb];rfl
 ·simp only[World.setCell,Array.getElem?_modify,h]
  simp[List.set_append_right,hb]
 ·simp only[World.setCell,Array.getElem?_modify,h]
  simp[List.set_append_right,hb]
def FS (n:Nat) (v v':Value):Prop:=v'.ownBlock=v.ownBlock∨∃k,v'.ownBlock=some k∧n≤k
def Ap (u v:Value):Prop:=u.ownBlock=none∨u.ownBlock≠v.ownBlock
theorem FS.refl (n:Nat) (v:Value):FS n v v:=.inl rfl
theorem FS.less {n m:Nat} {v v':Value} (h:FS n v v') (hm:m≤n):FS m v v':=h.imp id fun ⟨k,a,b⟩=>⟨k,a,by omega⟩
theorem FS.trans {n m:Nat} {v v' v'':Value} (h:FS n v v') (h2:FS m v' v'') (hm:n≤m):FS n v v'':=by
 rcases h2 with h2|⟨k,a,b⟩
 ·rcases h with h|⟨k,a,b⟩
  ·exact .inl (h2.trans h)
  ·exact .inr ⟨k,h2.trans a,b⟩
 ·exact .inr ⟨k,a,by omega⟩
theorem Ap.right {n:Nat} {u v v':Value} (h:Ap u v) (hu:∀k,u.ownBlock=some k→k<n) (hv:FS n v v'):Ap u v':=by
 rcases h with h|h
 ·exact .inl h
 ·rcases hv with hv|⟨k,a,b⟩
  ·exact .inr (by rw[hv];exact h)
  ·rcases hu0:u.ownBlock with _|j
   ·exact .inl hu0
   ·exact .inr (by rw[hu0,a];intro e;injection e with e;have:=hu j hu0;omega)
theorem Ap.left {n:Nat} {u u' v:Value} (h:Ap u v) (hv:∀k,v.ownBlock=some k→k<n) (hu:FS n u u'):Ap u' v:=by
 rcases hu with hu|⟨k,a,b⟩
 ·exact h.imp (fun e=>hu.trans e) (fun e=>by rw[hu];exact e)
 ·refine .inr fun e=>?_
  rw[a] at e
  have:=hv k e.symm
  omega
theorem Ap.symm {u v:Value} (h:Ap u v):Ap v u:=by
 rcases h with h|h
 ·rcases hv:v.ownBlock with _|j
  ·exact .inl hv
  ·exact .inr (by rw[h,hv];simp)
 ·exact .inr h.symm
theorem FS.ne {n P:Nat} {v v':Value} (h:FS n v v') (hv:v.ownBlock≠some P) (hP:P<n):v'.ownBlock≠some P:=by
 rcases h with h|⟨k,a,b⟩
 ·rw[h];exact hv
 ·rw[a];intro e;injection e with e;omega
structure WrAt (w:World) (base P:Nat) (K ad:List UInt8) (va vo vl:Value) (out:List UInt8) (lv:List Dg):Prop where
 row:w.heap[P]? = some (rowWr K va vo vl)
 oa:OB w base va ad
 oo:OB w base vo out
 od:OD w base vl lv
 hP:base≤P
 pa:va.ownBlock≠some P
 po:vo.ownBlock≠some P
 pl:vl.ownBlock≠some P
 ao:Ap va vo
 al:Ap va vl
 ol:Ap vo vl
theorem WrAt.lt {w:World} {base P:Nat} {K ad out:List UInt8} {va vo vl:Value} {lv:List Dg} (h:WrAt w base P K ad va vo vl out lv):P<w.heap.size:=(Array.getElem?_eq_some_iff.1 h.row).1
theorem WrAt.on {w w':World} {base P:Nat} {K ad out:List UInt8} {va vo vl:Value} {lv:List Dg} (h:WrAt w base P K ad va vo vl out lv) (hb:Below w.heap.size w w'):WrAt w' base P K ad va vo vl out lv :=
 ⟨(hb.block P h.lt).trans h.row,h.oa.below hb (Nat.le_refl _),h.oo.below hb (Nat.le_refl _),h.od.below hb (Nat.le_refl _),h.hP,h.pa,h.po,h.pl,h.ao,h.al,h.ol⟩
def WrFr (w w':World) (P:Nat) (vo vl:Value):Prop:=∀g,g<w.heap.size→g≠P→vo.ownBlock≠some g→vl.ownBlock≠some g→w'.heap[g]? = w.heap[g]?
theorem bdrew' {B:Nat} {w a:World} (h:Below B w a):Below B w a.drew:=⟨h.os,h.tape,h.output,h.size,h.block⟩
theorem OB.fr {w w':World} {base P:Nat} {vo vl v:Value} {l:List UInt8} (h:OB w base v l) (hf:WrFr w w' P vo vl) (hP:v.ownBlock≠some P) (h1:Ap v vo) (h2:Ap v vl):OB w' base v l:=by
 refine⟨h.1,?_⟩
 rcases h.2 with hn|⟨g,cap,cur,hv,hb,hg,rest⟩
 ·exact .inl hn
 ·have hlt:g<w.heap.size:=(Array.getElem?_eq_some_iff.1 hg).1
  subst hv
  have e:Value.ownBlock (.slice (some ⟨g,0,none⟩) l.length cap)=some g:=rfl
  refine .inr ⟨g,cap,cur,rfl,hb,(hf g hlt (fun e2=>hP (by rw[e,e2])) ?_ ?_).trans hg,rest⟩
  ·rcases h1 with h1|h1
   ·rw[e] at h1;cases h1
   ·rw[e] at h1;exact fun e2=>h1 e2.symm
  ·rcases h2 with h2|h2
   ·rw[e] at h2;cases h2
   ·rw[e] at h2;exact fun e2=>h2 e2.symm
theorem WrAt.putOut {w w5:World} {base P:Nat} {K ad out out':List UInt8} {va vo vl vo':Value} {lv:List Dg} (h:WrAt w base P K ad va vo vl out lv) (hK:K.length=64) (ho:OB w5 base vo' out') (hg:w.grownBy w5 vo.ownBlock) (hfs:FS w.heap.size vo vo') :
  WrAt (w5.setCell ⟨P,65,none⟩ vo') base P K ad va vo' vl out' lv∧WrFr w (w5.setCell ⟨P,65,none⟩ vo') P vo vl:=by
 have hlt:=h.lt
 have hr5:w5.heap[P]? = some (rowWr K va vo vl):=(hg.block P hlt (fun e=>h.po e.symm)).trans h.row
 have gs:=grown_set (p:=⟨P,65,none⟩) w5 (g:=P) rfl vo'
 refine⟨⟨(wr_cells hr5 hK).2.2.2.1 vo',(h.oa.grown hg h.ao).setCell h.pa _,ho.setCell (hfs.ne h.po hlt) _,(h.od.grown hg h.ol.symm).grown gs (.inr h.pl),h.hP,h.pa,hfs.ne h.po hlt,h.pl,h.ao.right (fun k hk=>(h.oa.lt k hk).2) hfs,h.al,h.ol.left (fun k hk=>(h.od.lt k hk).2) hfs⟩,fun g hg1 hgP hgo hgl=>?_⟩
 exact (Below.heap_setCell _ _ _ _ hgP).trans (hg.block g hg1 (fun e=>hgo e.symm))
theorem WrAt.putLv {w w5:World} {base P:Nat} {K ad out:List UInt8} {va vo vl vl':Value} {lv lv':List Dg} (h:WrAt w base P K ad va vo vl out lv) (hK:K.length=64) (ho:OD w5 base vl' lv') (hg:w.grownBy w5 vl.ownBlock) (hfs:FS w.heap.size vl vl') :
  WrAt (w5.setCell ⟨P,66,none⟩ vl') base P K ad va vo vl' out lv'∧WrFr w (w5.setCell ⟨P,66,none⟩ vl') P vo vl:=by
 have hlt:=h.lt
 have hr5:w5.heap[P]? = some (rowWr K va vo vl):=(hg.block P hlt (fun e=>h.pl e.symm)).trans h.row
 have gs:=grown_set (p:=⟨P,66,none⟩) w5 (g:=P) rfl vl'
 refine⟨⟨(wr_cells hr5 hK).2.2.2.2 vl',(h.oa.grown hg h.al).setCell h.pa _,(h.oo.grown hg h.ol).setCell h.po _,ho.grown gs (.inr (hfs.ne h.pl hlt)),h.hP,h.pa,h.po,hfs.ne h.pl hlt,h.ao,h.al.right (fun k hk=>(h.oa.lt k hk).2) hfs,h.ol.right (fun k hk=>(h.oo.lt k hk).2) hfs⟩,fun g hg1 hgP hgo hgl=>?_⟩
 exact (Below.heap_setCell _ _ _ _ hgP).trans (hg.block g hg1 (fun e=>hgl e.symm))
section
variable {o:Oper} {a:Act} {w:World}
theorem exec_loadKeyM (x:Operand) (ho:o.op=.load 93 x) (b off:Nat) (hx:a.eval x=.pointer (some ⟨b,off,none⟩)) (l:List UInt8) (hl:l.length=64) (hc:w.rangeAt b off (bv l)) :
  (execOp a.eval o).run Tryz.prog w=.ok (.value (.agg (bv l).toArray)) w:=by
 unfold execOp
 simp only[ho,hx,Sem.run_bind,Sem.run_pure,Result.andThen_ok,run_loadAt_mid w b off 93 (bv l) _ hc Tryz.underlying93 rfl (by rw[bv_length,hl];kernel_rfl)]
theorem exec_loadDg (x:Operand) (ho:o.op=.load 53 x) (g:Nat) (hx:a.eval x=.pointer (some ⟨g,0,none⟩)) (cs:Array Value) (hg:w.heap[g]? = some (rowO cs)) (hn:cs.size=32) :
  (execOp a.eval o).run Tryz.prog w=.ok (.value (.agg cs)) w:=by
 unfold execOp
 simp only[ho,hx,Instr.loadAt,Instr.sureAddr,Sem.run_bind,Sem.run_pure,Result.andThen_ok,run_loadVar_row w g 53 53 cs (0,0) _ hg Tryz.underlying53 rfl (by rw[hn];kernel_rfl)]
end
theorem kPut_tab (base P:Nat) (K ad out b:List UInt8) (lv:List Dg) (va vo vl vb:Value) (part:Nat) (w:World) (h:WrAt w base P K ad va vo vl out lv) (hK:K.length=64) (hvb:SB w w.heap.size vb b)
  (hla:ad.length≤1000) (hlb:b.length≤1073741824) (hlo:out.length≤1073741824) (hll:lv.length≤1000000) (hp:part≤1000000000) (hbase:base≤w.heap.size) (hk:KTab w 0) (h1:0<base) :
  Calls Tryz.prog 56 #[.pointer (some ⟨P,0,none⟩),.int .i64 (part:Int),vb] w fun e w'=>∃r vo' vl',e=.returned r∧OB w' w.heap.size r (oneT leafB (sealP K ad part b)) ∧
   WrAt w' base P K ad va vo' vl' (out++sealP K ad part b) (lv++[leafD (sealP K ad part b)])∧FS w.heap.size vo vo'∧FS w.heap.size vl vl'∧WrFr w w' P vo vl∧Below base w w':=by
 obtain⟨X,hX⟩:∃X,X=sealP K ad part b:=⟨_,rfl⟩
 rw[←hX]
 have hXl:X.length=b.length+16:=by rw[hX];exact sealP_length _ _ _ _
 obtain⟨cn,hcn⟩:∃cn,nonA (nonceOf part)=cn:=⟨_,rfl⟩
 obtain⟨kk,hkk⟩:∃kk,(bv K).toArray=kk:=⟨_,rfl⟩
 have hK1:(K.take 32).length=32:=by rw[List.length_take];omega
 have hK2:(K.drop 32).length=32:=by rw[List.length_drop];omega
 obtain⟨Ab,cb,rfl,_,_,_⟩:=id hvb
 obtain⟨Aa,ca,rfl,_,_,_⟩:=id h.oa.sb
 obtain⟨hr0,⟨c64,c65,c66⟩,fz,_,_⟩:=wr_cells h.row hK
 have gp:IntKind.u64.wrap (part:Int)=(part:Int):=by rw[IntKind.wrap_u64];omega
 have HN:Hid (∀W,Calls Tryz.prog 94 #[.int .u64 (part:Int)] W fun e w'=>e=.returned (.agg cn)∧Below W.heap.size W w'):=Lib.hid (fun W=>kNonceC part (by omega) cn hcn W)
 have HS:Hid (∀W,Below w.heap.size w W→Calls Tryz.prog 93 #[.agg kk,.agg cn,.slice Aa ad.length ca,.slice Ab b.length cb] W fun e w'=>∃r,e=.returned r∧OB w' W.heap.size r X∧Below W.heap.size W w'):=Lib.hid (fun W hW=>by
  have zW:=hW.size
  rw[hX]
  exact kSeal_any (K.take 32) (K.drop 32) (nonceOf part) ad b hK1 hK2 (nonce_len part) kk cn (by rw[List.take_append_drop];exact hkk) hcn _ _ W (h.oa.sb.on hW) (hvb.on hW) (by omega) (by omega) (hk.on hW (by omega)) (by omega))
 have KS:Hid (∀W,Below w.heap.size w W→W.rangeAt P 0 (bv K)∧W.cell? ⟨P,64,none⟩=some (.slice Aa ad.length ca)):=Lib.hid (fun W hW=>by
  have hr:=wr_cells ((hW.block P h.lt).trans h.row) hK
  exact⟨hr.1,hr.2.1.1⟩)
 clear hr0 c64 c65 c66 fz
 have HW:=Lib.hid h
 have hX16:16≤X.length:=by omega
 have hXm:X.length≤1073741840:=by omega
 clear h hX hXl
 go_enter Tryz.func56,Tryz.ntmps56
 go_upto_region 1 with fail
 refine wp_region_noPanic ?_
 refine wp_region_held_drew (S:=fun w'=>True∧(w'.rangeAt P 0 (bv K)∧w'.cell? ⟨P,64,none⟩=some (.slice Aa ad.length ca))) (by kernel_rfl) ⟨trivial,KS.out _ (bdrew (bself w))⟩ (fun hHeld=>?_)
 refine rtk 0 ?_
 refine rtk 1 ?_
 refine rtk 2 ?_
 refine reg_take 3 (v:=.agg (bv K).toArray) (by rfl) (by kernel_rfl) (by kernel_rfl) (by kernel_rfl) (fun _ _ _ h=>h) (by rfl) ?_ (by assumption) ?_
 ·(intro wq hSq;exact exec_loadKeyM (.tmp 11) rfl P 0 rfl K hK hSq.2.1)
 try simp only[Act.put,q1,q2,q3]
 rw[hkk]
 refine rtk 4 ?_
 refine rtk 5 ?_
 refine rtk 7 ?_
 refine rtk 8 ?_
 refine rtk 9 ?_
 refine rtk 10 ?_
 refine rtk 11 ?_
 refine ro 6 (fun K hK=>?_)
 (go_simp;go_at_call 94;refine (HN.out _).mono ?_;rintro _ w1 ⟨rfl,hb1⟩;have b1:=bstep (bdrew (bself w)) hb1;go_wp2_with fail)
 refine hK.out _ _ ?_ (fun hHeld=>?_)
 ·exact⟨trivial,KS.out _ b1⟩
 clear hK K
 try simp only[Act.put,q1,q2,q3]
 refine ro 12 (fun K hK=>?_)
 (go_simp;go_at_call 93;refine (HS.out _ b1).mono ?_;rintro _ w2 ⟨r7,rfl,ho7,hb2⟩;have b2:=bstep b1 hb2;go_wp2_with fail)
 refine hK.out _ _ ?_ (fun hHeld=>?_)
 ·exact⟨trivial,KS.out _ b2⟩
 clear hK K
 try simp only[Act.put,q1,q2,q3]
 refine rtk 13 ?_
 refine rdn ?_
 obtain⟨A7,c7,rfl,_,_,_⟩:=id ho7.sb
 have z1:=b1.size
 have z2:=b2.size
 obtain⟨c,hc⟩:∃c,dgA (leafD X).1=c:=⟨_,rfl⟩
 have hcs:c.size=32:=by rw[←hc];exact dgA_n _
 have hc1:∀v∈c.toList,v.oneCell'=true:=by rw[←hc];exact dgA_one _
 have HLf:Hid (Calls Tryz.prog 80 #[.slice A7 X.length c7] w2 fun e w'=>e=.returned (.agg c)∧Below w2.heap.size w2 w'):=Lib.hid (kLeaf_any X c hc _ w2 ho7.sb (by omega) (hk.on b2 (by omega)) (by omega))
 clear HN HS KS hvb
 go_upto_region 3 with (first|(go_at_call 80;refine HLf.out.mono ?_;rintro _ w3 ⟨rfl,hb3⟩)|(refine wl_storeD rfl (.tmp 8) (.tmp 23) rfl _ rfl _ c rfl (heap_alloc_new _ (rowO (dgA (List.replicate 32 0)))) (by rw[dgA_size];rfl) hcs hc1 ?_))
 generalize hW4:World.setRow _ _ _=w4
 have hr4:w4.heap[w3.heap.size]? = some (rowO c):=by rw[←hW4];exact setRow_heap _ _ _ _ _ _ (heap_alloc_new _ (rowO (dgA (List.replicate 32 0))))
 have b24:Below w2.heap.size w2 w4:=by rw[←hW4];exact below_setRow (balloc hb3 _) hb3.size _
 have z3:=hb3.size
 have z4:w3.heap.size<w4.heap.size:=(Array.getElem?_eq_some_iff.1 hr4).1
 have b4:Below w.heap.size w w4:=bstep b2 b24
 have hX4:SB w4 w4.heap.size (.slice A7 X.length c7) X:=ho7.sb.on b24
 have h4:=HW.out.on b4
 clear hW4 HLf hb3 ho7
 have hln4:out.length+X.length≤140737488355328:=by omega
 have hbz4:base≤w4.heap.size:=by omega
 have hX0:0<(out++X).length:=by rw[List.length_append];omega
 obtain⟨_,⟨_,c65,_⟩,_,_,_⟩:=wr_cells h4.row hK
 have H4:=Lib.hid h4
 have h4oo:=h4.oo
 clear h4
 obtain⟨Ao,co,rfl,_,_,_⟩:=id h4oo.sb
 go_upto_region 4 with (at_builtin;go_loud (refine wl_appB rfl (.tmp 28) (.tmp 29) rfl base _ out rfl h4oo w4.heap.size _ X rfl hX4 hln4 hbz4 ?_);intro vo' w5 ho5 hg5 hs5 hb5;obtain⟨g5,cp5,rfl⟩:=ho5.form0 hX0;obtain⟨_,⟨_,d65,_⟩,fz5,_,_⟩:=wr_cells ((hg5.block P H4.out.lt (fun e=>H4.out.po e.symm)).trans H4.out.row) hK)
 have el:(out++X).length=out.length+X.length:=List.length_append
 have hfs5:FS w4.heap.size (.slice Ao out.length co) (.slice (some ⟨g5,0,none⟩) (out++X).length cp5):=hs5.imp id (fun e=>⟨_,e,Nat.le_refl _⟩)
 obtain⟨hw6,hf6⟩:=H4.out.putOut hK ho5 hg5 hfs5
 have hb6:Below base w4 (w5.setCell ⟨P,65,none⟩ (.slice (some ⟨g5,0,none⟩) (out++X).length cp5)):=below_grown hb5 (grown_set (p:=⟨P,65,none⟩) w5 (g:=P) rfl _) (Nat.le_trans hbz4 hb5.size) (fun g e=>by injection e with e;rw[←e];exact HW.out.hP)
 rw[el] at hw6 hf6 hfs5 hb6
 generalize hW6:World.setCell _ _ _=w6
 rw[hW6] at hw6 hf6 hb6
 have z46:=hb6.size
 have hPw:=HW.out.lt
 have hD6:w6.heap[w3.heap.size]? = some (rowO c):=(hf6 w3.heap.size z4 (by omega) (fun e=>by have:=(HW.out.oo.lt _ e).2;omega) (fun e=>by have:=(HW.out.od.lt _ e).2;omega)).trans hr4
 have H6:=Lib.hid (And.intro hw6 (And.intro hf6 (And.intro hfs5 hb6)))
 obtain⟨_,⟨_,_,c66⟩,fz6,_,_⟩:=wr_cells hw6.row hK
 have hod6:=hw6.od
 have HVL:=Lib.hid HW.out.od
 obtain⟨Al,cl,rfl,_,_⟩:=hod6.sd.form
 clear hW6 hw6 hf6 hfs5 hb6 ho5 hg5 hs5 hb5 d65 fz5 H4 h4oo hr4 c65
 have hdrl:w6.drew.heap.size=w6.heap.size:=rfl
 have hll2:(lv.length+1)*32≤140737488355328:=by omega
 have hbz6:base≤(w6.drew.alloc (.cells c 53)).heap.size:=by rw[World.size_alloc];show base≤w6.heap.size+1;omega
 have hbz6':base≤w6.drew.heap.size:=by show base≤w6.heap.size;omega
 have hod6d:OD w6.drew base (.slice Al lv.length cl) lv:=hod6
 have hod7:OD (w6.drew.alloc (.cells c 53)) base (.slice Al lv.length cl) lv:=hod6d.alloc _
 have hsd7:SD (w6.drew.alloc (.cells c 53)) (w6.drew.heap.size+1) (.slice (some ⟨w6.drew.heap.size,0,none⟩) 1 1) [leafD X]:=by rw[←hc];exact SD.new1 w6.drew (leafD X) rfl (Nat.lt_succ_self _)
 have c66a:(w6.drew.alloc (.cells c 53)).cell? ⟨P,66,none⟩=some (.slice Al lv.length cl):=(World.cell?_alloc_lt w6.drew _ _ (by show P<w6.heap.size;omega)).trans c66
 refine wp_region_noPanic ?_
 refine wp_regionG (fun w'=>w'.cell? ⟨P,66,none⟩=some (.slice Al lv.length cl)) [7,8,9,10] (by kernel_rfl) c66 (fun hHeld=>?_)
 refine rgp 0 ?_
 refine rgp 1 ?_
 refine rgp 2 ?_
 refine rgp 3 ?_
 refine rgk 4 ?_
 refine rgo 5 (fun K hK=>?_)
 (refine wp_of_exec (exec_loadDg (.tmp 8) rfl w3.heap.size rfl c hD6 hcs) ?_)
 refine hK.out _ _ ?_ (fun hHeld=>?_)
 ·exact c66
 clear hK K
 try simp only[Act.put,q1,q2,q3]
 refine rgo 6 (fun K hK=>?_)
 (refine wp_buildD (.tmp 38) rfl c rfl hcs ?_)
 refine hK.out _ _ ?_ (fun hHeld=>?_)
 ·exact c66a
 clear hK K
 try simp only[Act.put,q1,q2,q3]
 refine regG_last (S:=fun _=>True∧True) 7 (by rfl) (by kernel_rfl) (by rfl) (by kernel_rfl) (fun K hK=>?_)
 (refine wp_appD (.tmp 37) (.tmp 39) rfl base _ lv rfl hod7 (w6.drew.heap.size+1) _ [leafD X] rfl hsd7 hll2 hbz6 ?_;intro vl' w7 ho7 hg7 hs7 hb7)
 refine hK.out _ _ ?_ (fun hHeld=>?_)
 ·exact⟨trivial,trivial⟩
 clear hK K
 try simp only[Act.put,q1,q2,q3]
 obtain⟨h6,hf6,hfs6,hb6⟩:=H6.out
 have hPa:P<(w6.drew.alloc (.cells c 53)).heap.size:=by rw[World.size_alloc];show P<w6.heap.size+1;omega
 have hr7:=(hg7.block P hPa (fun e=>h6.pl e.symm)).trans ((heap_alloc_old w6.drew _ (by show P<w6.heap.size;omega)).trans h6.row)
 obtain⟨gl,cpl,rfl⟩:=ho7.form0 (by simp)
 obtain⟨_,⟨_,_,e66⟩,fz7,_,_⟩:=wr_cells hr7 hK
 have gl6:w6.grownBy w7 (Value.ownBlock (.slice Al lv.length cl)):=((show w6.grownBy w6.drew _ from ⟨rfl,rfl,rfl,Nat.le_refl _,fun _ _ _=>rfl⟩).trans (World.grownBy_alloc w6.drew _ _)).trans hg7
 have hfs7:FS w6.heap.size (.slice Al lv.length cl) (.slice (some ⟨gl,0,none⟩) (lv++[leafD X]).length cpl):=hs7.imp id (fun e=>⟨_,e,by rw[World.size_alloc];show w6.heap.size≤w6.heap.size+1;omega⟩)
 have h7:=h6.putLv hK ho7 gl6 hfs7
 have hb7':Below base w6 (w7.setCell ⟨P,66,none⟩ (.slice (some ⟨gl,0,none⟩) (lv++[leafD X]).length cpl)):=below_grown ((show Below base w6 (w6.drew.alloc (.cells c 53)) from Below.alloc (bdrew' (Below.refl base w6)) hbz6' _).trans hb7) (grown_set (p:=⟨P,66,none⟩) w7 (g:=P) rfl _) (Nat.le_trans hbz6 hb7.size) (fun g e=>by injection e with e;rw[←e];exact HW.out.hP)
 have el2:(lv++[leafD X]).length=lv.length+1:=by rw[List.length_append];rfl
 rw[el2] at h7 hfs7 hb7'
 have H7:=Lib.hid (And.intro h7 (And.intro hfs7 hb7'))
 clear h7 hfs7 hb7' hr7 gl6 hs7 hb7 hg7 ho7 h6 hf6 hfs6 hb6 c66a hsd7 hod7 hod6d hbz6 hPa
 refine rtk 8 ?_
 refine rtk 9 ?_
 refine ro 10 (fun K hK=>?_)
 (go_simp)
 refine hK.out _ _ ?_ (fun hHeld=>?_)
 ·exact⟨trivial,trivial⟩
 clear hK K
 try simp only[Act.put,q1,q2,q3]
 refine rdn ?_
 obtain⟨⟨h8,hf8⟩,hfs8,hb8⟩:=H7.out
 generalize hW8:World.setCell _ _ _=w8
 rw[hW8] at h8 hf8 hb8
 have hnoD:(Value.slice Ao out.length co).ownBlock≠some w3.heap.size:=fun e=>by have:=(HW.out.oo.lt _ e).2;omega
 have hnlD:(Value.slice Al lv.length cl).ownBlock≠some w3.heap.size:=fun e=>by have:=(HW.out.od.lt _ e).2;omega
 have hD8:w8.heap[w3.heap.size]? = some (rowO c):=(hf8 w3.heap.size (by omega) (by omega) (H6.out.2.2.1.ne hnoD z4) hnlD).trans hD6
 have z68:=hb8.size
 have hs8:SB w8 w8.heap.size (.slice (some ⟨w3.heap.size,0,none⟩) 32 32) (leafD X).1:=SB.ofRow (t:=53) (fr:=(0,0)) hD8 hc (leafD X).2.symm (by omega) (by rw[(leafD X).2];simp[maxLen])
 have hfw8:WrFr w w8 P (.slice Ao out.length co) (.slice Al lv.length cl):=fun g hg hgP hgo hgl=>by
  have e1:=b4.block g hg
  have z4':=b4.size
  have e2:=H6.out.2.1 g (by omega) hgP hgo hgl
  have e3:=hf8 g (by omega) hgP (H6.out.2.2.1.ne hgo (by omega)) hgl
  exact e3.trans (e2.trans e1)
 have hbw8:Below base w w8:=(b4.mono hbase).trans (H6.out.2.2.2.trans hb8)
 have hfo8:=H6.out.2.2.1.less b4.size
 have hfl8:=hfs8.less (Nat.le_trans b4.size z46)
 have H8:=Lib.hid (And.intro h8 (And.intro hfw8 (And.intro hbw8 (And.intro hfo8 hfl8))))
 have gX:IntKind.u64.wrap (X.length:Int)=(X.length:Int):=by rw[IntKind.wrap_u64];omega
 have HNm:Hid (∀W,Calls Tryz.prog 59 #[.slice none 0 0,.int .u64 (X.length:Int)] W fun e w'=>∃r,e=.returned r∧OB w' W.heap.size r (num X.length)∧Below W.heap.size W w'):=Lib.hid (fun W=>(cNum_any _ [] X.length W (SB.nil_ _ _) (by simp) (by omega)).mono (by
  rintro e w' ⟨r,rfl,ho,hb⟩
  rw[List.nil_append] at ho
  exact⟨r,rfl,ho,hb⟩))
 have hz8w:w.heap.size≤w8.heap.size:=hbw8.size
 have hnl:=num_length X.length
 clear h8 hf8 hfs8 hb8 hD6 hW8 H6 H7 hod6 fz6 e66 fz7 hfw8 hbw8 hfo8 hfl8 hnoD hnlD hX4 hD8
 go_upto_region 5 with fail
 refine wp_region_noPanic ?_
 refine wp_region_held_drew (S:=fun w'=>True∧True) (by kernel_rfl) ⟨trivial,trivial⟩ (fun hHeld=>?_)
 refine rtk 0 ?_
 refine rtk 1 ?_
 refine rtk 2 ?_
 refine rtk 4 ?_
 refine ro 3 (fun K hK=>?_)
 (go_simp;go_at_call 59;refine (HNm.out _).mono ?_;rintro _ w9 ⟨r9,rfl,ho9,hb9⟩;have b9:=bstep (bdrew (bself w8)) hb9;obtain⟨A9,c9,rfl,_,_,_⟩:=id ho9.sb;go_wp2_with fail)
 refine hK.out _ _ ?_ (fun hHeld=>?_)
 ·exact⟨trivial,trivial⟩
 clear hK K
 try simp only[Act.put,q1,q2,q3]
 have z9:=b9.size
 refine ro 5 (fun K hK=>?_)
 (refine wp_appB (.tmp 46) (.tmp 47) rfl w8.heap.size _ (num X.length) rfl ho9 w9.heap.size _ (leafD X).1 rfl (hs8.on b9) (by rw[(leafD X).2];omega) z9 ?_;intro r10 w10 ho10 hg10 hs10 hb10)
 refine hK.out _ _ ?_ (fun hHeld=>?_)
 ·exact⟨trivial,trivial⟩
 clear hK K
 try simp only[Act.put,q1,q2,q3]
 obtain⟨g10,c10,rfl⟩:=ho10.form0 (by rw[List.length_append,(leafD X).2];omega)
 refine rtk 6 ?_
 refine rdn ?_
 have b10:Below w8.heap.size w8 w10:=b9.trans (hb10.mono (Nat.le_refl _))
 obtain⟨h8,hfw8,hbw8,hfo8,hfl8⟩:=H8.out
 go_wp2_with fail
 go_ret
 have ho11:=ho10.rebase hz8w
 rw[List.length_append] at ho11
 exact⟨_,_,_,rfl,ho11,h8.on b10,hfo8,hfl8,fun g hg hgP hgo hgl=>(b10.block g (by omega)).trans (hfw8 g hg hgP hgo hgl),hbw8.trans (b10.mono (by omega))⟩
end Go.Proofs.YtchjknbideoieaaGreatDoor
namespace Go.Proofs.YtchjknbideoieaaGreatDoor
set_option maxRecDepth 100000
set_option maxHeartbeats 8000000
open Go.RowKit Go.Great
theorem fill_step {pl:Nat→Option (Nat × Nat)} {cells:List Value} {i off size:Nat} {v:Value} {rest:List (Nat × Value)} {vc:List Value} (hp:pl i=some (off,size)) (hv:v.cells=vc.toArray) (hs:vc.length=size) (hb:off+size≤cells.length) :
  Instr.fill pl cells.toArray ((i,v)::rest)=Instr.fill pl (cells.take off++(vc++cells.drop (off+size))).toArray rest:=by
 rw[Instr.fill]
 simp only[hp,hv]
 rw[if_neg (by simp;omega)]
 congr 1
 apply Array.ext_getElem?
 intro k
 obtain⟨hz,hk⟩:=foldl_set off vc 0 cells.toArray
 have e:(Array.foldl (fun cs (x:Value × Nat)=>cs.setIfInBounds (off+x.2) x.1) cells.toArray vc.toArray.zipIdx)=(vc.zipIdx 0).foldl (fun cs (x:Value × Nat)=>cs.setIfInBounds (off+x.2) x.1) cells.toArray:=by simp
 refine (congrArg (·[k]?) e).trans ?_
 show ((vc.zipIdx 0).foldl (fun cs (x:Value × Nat)=>cs.setIfInBounds (off+x.2) x.1) cells.toArray)[k]? = _
 rw[hk k,List.getElem?_toArray,List.getElem?_toArray,Nat.add_zero]
 have ht:(cells.take off).length=off:=by rw[List.length_take];omega
 rcases Nat.lt_or_ge k off with h1|h1
 ·rw[if_neg (by omega),List.getElem?_append_left (by omega),List.getElem?_take,if_pos h1]
 ·rw[List.getElem?_append_right (by omega),ht]
  rcases Nat.lt_or_ge k (off+size) with h2|h2
  ·rw[if_pos ⟨h1,by omega,by simp;omega⟩,List.getElem?_append_left (by omega)]
  ·rw[if_neg (by omega),List.getElem?_append_right (by omega),List.getElem?_drop]
   congr 1
   omega
abbrev nilW:Value:=.slice none 0 0
theorem builtWr (kl:List Value) (h:kl.length=64) (A B:Option Addr) (n m c d:Nat):Tryz.prog.built 115 [(0,.agg kl.toArray),(1,.slice A n c),(2,.slice B m d)]=some (kl++[.slice A n c,.slice B m d,nilW]).toArray:=by
 have e:Tryz.prog.built 115 [(0,.agg kl.toArray),(1,.slice A n c),(2,.slice B m d)]=Instr.fill (#[(0,64),(64,1),(65,1),(66,1)][·]?) (bv (List.replicate 64 0)++[nilW,nilW,nilW]).toArray [(0,.agg kl.toArray),(1,.slice A n c),(2,.slice B m d)]:=by
  kernel_rfl
 rw[e,fill_step (off:=0) (size:=64) (vc:=kl) rfl rfl h (by simp[bv])]
 rw[show (bv (List.replicate 64 0)++[nilW,nilW,nilW]).take 0++(kl++(bv (List.replicate 64 0)++[nilW,nilW,nilW]).drop (0+64))=kl++[nilW,nilW,nilW] from rfl]
 rw[fill_step (off:=64) (size:=1) (vc:=[.slice A n c]) rfl rfl rfl (by simp[h])]
 rw[show (kl++[nilW,nilW,nilW]).take 64++([.slice A n c]++(kl++[nilW,nilW,nilW]).drop (64+1))=kl++[.slice A n c,nilW,nilW] from by rw[←h,List.take_left,←List.drop_drop,List.drop_left];rfl]
 rw[fill_step (off:=65) (size:=1) (vc:=[.slice B m d]) rfl rfl rfl (by simp[h])]
 have h2:(kl++[Value.slice A n c]).length=65:=by simp[h]
 rw[show (kl++[.slice A n c,nilW,nilW]).take 65++([.slice B m d]++(kl++[.slice A n c,nilW,nilW]).drop (65+1))=kl++[.slice A n c,.slice B m d,nilW] from by
  rw[show kl++[Value.slice A n c,nilW,nilW]=(kl++[.slice A n c])++[nilW,nilW] from by simp,←h2,List.take_left,←List.drop_drop,List.drop_left]
  simp]
 simp[Instr.fill]
theorem builtMeta (lv:Value) (g e n sz ct:Value) (mn mx:Value) (rl:List Value) (h:rl.length=32) (h1:∀v∈[lv,g,e,n,sz,ct,mn,mx],v.cells=#[v]) :
  Tryz.prog.built 55 [(0,lv),(1,g),(2,e),(3,n),(4,sz),(5,ct),(6,mn),(7,mx),(8,.agg rl.toArray)]=some ([lv,g,e,n,sz,ct,mn,mx]++rl).toArray:=by
 have hh:Tryz.prog.built 55 [(0,lv),(1,g),(2,e),(3,n),(4,sz),(5,ct),(6,mn),(7,mx),(8,.agg rl.toArray)]=Instr.fill (#[(0,1),(1,1),(2,1),(3,1),(4,1),(5,1),(6,1),(7,1),(8,32)][·]?) (([.int .u8 0,.int .u64 0,.int .u64 0,.int .u64 0,.int .i64 0,.int .i64 0,.string .empty,.string .empty]:List Value)++bv (List.replicate 32 0)).toArray [(0,lv),(1,g),(2,e),(3,n),(4,sz),(5,ct),(6,mn),(7,mx),(8,.agg rl.toArray)]:=by
  kernel_rfl
 rw[hh]
 rw[fill_step (off:=0) (size:=1) (vc:=[lv]) rfl (h1 _ (by simp)) rfl (by simp),fill_step (off:=1) (size:=1) (vc:=[g]) rfl (h1 _ (by simp)) rfl (by simp),fill_step (off:=2) (size:=1) (vc:=[e]) rfl (h1 _ (by simp)) rfl (by simp),fill_step (off:=3) (size:=1) (vc:=[n]) rfl (h1 _ (by simp)) rfl (by simp),fill_step (off:=4) (size:=1) (vc:=[sz]) rfl (h1 _ (by simp)) rfl (by simp),fill_step (off:=5) (size:=1) (vc:=[ct]) rfl (h1 _ (by simp)) rfl (by simp),fill_step (off:=6) (size:=1) (vc:=[mn]) rfl (h1 _ (by simp)) rfl (by simp),fill_step (off:=7) (size:=1) (vc:=[mx]) rfl (h1 _ (by simp)) rfl (by simp)]
 rw[fill_step (off:=8) (size:=32) (vc:=rl) rfl rfl h (by simp[bv])]
 simp[Instr.fill,bv]
section
variable {o:Oper} {a:Act} {w:World}
theorem exec_buildWr (x y z:Operand) (ho:o.op=.build 115 #[(0,x),(1,y),(2,z)]) (kl:List Value) (h:kl.length=64) (A B:Option Addr) (n m c d:Nat) (hx:a.eval x=.agg kl.toArray) (hy:a.eval y=.slice A n c) (hz:a.eval z=.slice B m d) :
  (execOp a.eval o).run Tryz.prog w=.ok (.value (.agg (kl++[.slice A n c,.slice B m d,nilW]).toArray)) w:=by
 have h:=run_build (P:=Tryz.prog) w 115 #[(0,.agg kl.toArray),(1,.slice A n c),(2,.slice B m d)] _ (builtWr kl h A B n m c d)
 unfold execOp
 simp only[ho,List.map_toArray,List.map_cons,List.map_nil,hx,hy,hz,Sem.run_bind,Sem.run_pure,Result.andThen_ok,h]
theorem exec_buildMeta (x0 x1 x2 x3 x4 x5 x6 x7 x8:Operand) (ho:o.op=.build 55 #[(0,x0),(1,x1),(2,x2),(3,x3),(4,x4),(5,x5),(6,x6),(7,x7),(8,x8)]) (lv g e n sz ct mn mx:Value) (rl:List Value) (h:rl.length=32) (h1:∀v∈[lv,g,e,n,sz,ct,mn,mx],v.cells=#[v])
  (e0:a.eval x0=lv) (e1:a.eval x1=g) (e2:a.eval x2=e) (e3:a.eval x3=n) (e4:a.eval x4=sz) (e5:a.eval x5=ct) (e6:a.eval x6=mn) (e7:a.eval x7=mx) (e8:a.eval x8=.agg rl.toArray) :
  (execOp a.eval o).run Tryz.prog w=.ok (.value (.agg ([lv,g,e,n,sz,ct,mn,mx]++rl).toArray)) w:=by
 have h:=run_build (P:=Tryz.prog) w 55 #[(0,lv),(1,g),(2,e),(3,n),(4,sz),(5,ct),(6,mn),(7,mx),(8,.agg rl.toArray)] _ (builtMeta lv g e n sz ct mn mx rl h h1)
 unfold execOp
 simp only[ho,List.map_toArray,List.map_cons,List.map_nil,e0,e1,e2,e3,e4,e5,e6,e7,e8,Sem.run_bind,Sem.run_pure,Result.andThen_ok,h]
end
end Go.Proofs.YtchjknbideoieaaGreatDoor
namespace Go.Proofs.YtchjknbideoieaaGreatDoor
set_option maxRecDepth 100000
set_option maxHeartbeats 8000000
def rowsT (Ps:List Prt) (F:List UInt8):List (List UInt8 × List UInt8):=Ps.map (fun p=>(p.bound,p.bytes))++[([],F)]
def idxT (Ps:List Prt) (F:List UInt8) (k:Nat):List UInt8:=if k≤Ps.length then idxB leafB (Ps.drop k)++oneT leafB F else []
def bodT (Ps:List Prt) (F:List UInt8) (k:Nat):List UInt8:=((rowsT Ps F).drop k).flatMap (·.2)
theorem rowsT_length (Ps:List Prt) (F:List UInt8):(rowsT Ps F).length=Ps.length+1:=by simp[rowsT]
theorem rowsT_lt (Ps:List Prt) (F:List UInt8) (k:Nat) (h:k<Ps.length):(rowsT Ps F)[k]'(by rw[rowsT_length];omega)=(Ps[k].bound,Ps[k].bytes):=by
 simp only[rowsT]
 rw[List.getElem_append_left (by simpa using h)]
 simp
theorem rowsT_last (Ps:List Prt) (F:List UInt8):(rowsT Ps F)[Ps.length]'(by rw[rowsT_length];omega)=([],F):=by
 simp only[rowsT]
 rw[List.getElem_append_right (by simp)]
 simp
def bndT (Ps:List Prt) (F:List UInt8) (k:Nat):List UInt8:=((rowsT Ps F).getD k ([],[])).1
def bytT (Ps:List Prt) (F:List UInt8) (k:Nat):List UInt8:=((rowsT Ps F).getD k ([],[])).2
theorem rowsT_take (Ps:List Prt) (F:List UInt8) (k:Nat) (h:k≤Ps.length):(rowsT Ps F).take (k+1)=(rowsT Ps F).take k++[(bndT Ps F k,bytT Ps F k)]:=by
 have hl:k<(rowsT Ps F).length:=by rw[rowsT_length];omega
 rw[List.take_succ_eq_append_getElem hl]
 unfold bndT bytT
 rw[List.getD_eq_getElem?_getD,List.getElem?_eq_getElem hl,Option.getD_some]
theorem bndT_lt (Ps:List Prt) (F:List UInt8) (k:Nat) (h:k<Ps.length):bndT Ps F k=Ps[k].bound:=by
 unfold bndT
 rw[List.getD_eq_getElem?_getD,List.getElem?_eq_getElem (by rw[rowsT_length];omega),Option.getD_some,rowsT_lt Ps F k h]
theorem bytT_lt (Ps:List Prt) (F:List UInt8) (k:Nat) (h:k<Ps.length):bytT Ps F k=Ps[k].bytes:=by
 unfold bytT
 rw[List.getD_eq_getElem?_getD,List.getElem?_eq_getElem (by rw[rowsT_length];omega),Option.getD_some,rowsT_lt Ps F k h]
theorem bndT_last (Ps:List Prt) (F:List UInt8):bndT Ps F Ps.length=[]:=by
 unfold bndT
 rw[List.getD_eq_getElem?_getD,List.getElem?_eq_getElem (by rw[rowsT_length];omega),Option.getD_some,rowsT_last]
theorem bytT_last (Ps:List Prt) (F:List UInt8):bytT Ps F Ps.length=F:=by
 unfold bytT
 rw[List.getD_eq_getElem?_getD,List.getElem?_eq_getElem (by rw[rowsT_length];omega),Option.getD_some,rowsT_last]
def midT (Ps:List Prt) (F:List UInt8) (k:Nat):List UInt8:=num (bytT Ps F k).length++(leafB (bytT Ps F k)++idxT Ps F (k+1))
theorem idxT_lt (Ps:List Prt) (F:List UInt8) (k:Nat) (h:k<Ps.length):idxT Ps F k=num (bndT Ps F k).length++bndT Ps F k++midT Ps F k:=by
 unfold midT idxT
 rw[if_pos (by omega),if_pos (by omega),bndT_lt Ps F k h,bytT_lt Ps F k h]
 conv=>lhs;rw[List.drop_eq_getElem_cons h]
 simp only[idxB,oneT,List.flatMap_cons,List.append_assoc]
theorem idxT_last (Ps:List Prt) (F:List UInt8):idxT Ps F Ps.length=midT Ps F Ps.length:=by
 unfold midT idxT
 rw[if_pos (Nat.le_refl _),if_neg (by omega),bytT_last,List.drop_length]
 simp[idxB,oneT]
theorem idxT_end (Ps:List Prt) (F:List UInt8):idxT Ps F (Ps.length+1)=[]:=by
 unfold idxT
 rw[if_neg (by omega)]
theorem indexB_idx (Ps:List Prt) (F:List UInt8):indexB leafB Ps F=num Ps.length++idxT Ps F 0:=by
 unfold indexB idxT
 rw[if_pos (Nat.zero_le _),List.drop_zero]
theorem bodT_step (Ps:List Prt) (F:List UInt8) (k:Nat) (h:k≤Ps.length):bodT Ps F k=bytT Ps F k++bodT Ps F (k+1):=by
 have hl:k<(rowsT Ps F).length:=by rw[rowsT_length];omega
 unfold bodT
 rw[List.drop_eq_getElem_cons hl,List.flatMap_cons]
 unfold bytT
 rw[List.getD_eq_getElem?_getD,List.getElem?_eq_getElem hl,Option.getD_some]
theorem bodT_end (Ps:List Prt) (F:List UInt8):bodT Ps F (Ps.length+1)=[]:=by
 unfold bodT
 rw[List.drop_eq_nil_of_le (by rw[rowsT_length];omega)]
 rfl
theorem bodT_0 (Ps:List Prt) (F:List UInt8):bodT Ps F 0=bodyB Ps++F:=by
 unfold bodT rowsT bodyB
 rw[List.drop_zero,List.flatMap_append,List.flatMap_map]
 simp
theorem tableB_cut (ad:List UInt8) (Ps:List Prt) (F I:List UInt8):tableB ad Ps F I=ad++(bodT Ps F 0++I)++fix I.length 8:=by
 unfold tableB
 rw[bodT_0]
 simp[List.append_assoc]
theorem tableB_len (ad:List UInt8) (Ps:List Prt) (F I:List UInt8):(tableB ad Ps F I).length=ad.length+((bodT Ps F 0).length+I.length)+8:=by
 rw[tableB_cut]
 simp only[List.length_append,fix_length]
theorem idxT_le (Ps:List Prt) (F:List UInt8) (h:∀p∈Ps,p.bound.length≤1024) (k:Nat):(idxT Ps F k).length≤1076*Ps.length+42:=by
 unfold idxT
 split
 ·have h1:=idxB_le leafB leafB_length (Ps.drop k) (fun p hp=>h p (List.mem_of_mem_drop hp))
  have h2:=oneT_le leafB leafB_length F
  rw[List.length_drop] at h1
  rw[List.length_append]
  have:1076*(Ps.length-k)≤1076*Ps.length:=Nat.mul_le_mul_left _ (Nat.sub_le _ _)
  omega
 ·simp
theorem sFix_one (b:UInt8) (r:List UInt8):sFix 1 (b::r,0)=(b.toNat,r,0):=by
 unfold sFix
 rw[if_neg (by simp),if_neg (by simp),if_neg (by simp;omega)]
 simp[leN]
end Go.Proofs.YtchjknbideoieaaGreatDoor
