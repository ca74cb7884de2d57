/- What is proved here: a key of two parts as a value: built of its parts, held against itself; a range of bytes loaded as an array, at this seat's numbers. No condition. what Derive of package mac comes to, at this seat's numbers. Conditions: the lengths; the table of constants. -/
import Derived.Test.YtchjknbideoieaaGreatDoorK13
import Derived.Great.FillDense
import Derived.Deep.MidRow
import Derived.Lib.SmallJoins
namespace Go.Proofs.YtchjknbideoieaaGreatDoor
set_option maxRecDepth 100000
set_option maxHeartbeats 8000000
open Go.RowKit Go.Great
theorem builtKey (c1 c2:Array Value) (h1:c1.size=32) (h2:c2.size=32):Tryz.prog.built 93 [(0,.agg c1),(1,.agg c2)]=some (c1++c2):=by
 have h:=fill_whole (s:=32) (by omega) [.agg c1,.agg c2] (dgA (List.replicate 64 0)) (fun v hv=>by
  simp only[List.mem_cons,List.not_mem_nil,or_false] at hv
  rcases hv with rfl|rfl
  ·exact h1
  ·exact h2) (by rw[dgA_size];rfl)
 have e:Tryz.prog.built 93 [(0,.agg c1),(1,.agg c2)]=Instr.fill (#[(0,32),(32,32)][·]?) (dgA (List.replicate 64 0)) [(0,.agg c1),(1,.agg c2)]:=by
  kernel_rfl
 have e2:Instr.fill (#[(0,32),(32,32)][·]?) (dgA (List.replicate 64 0)) [(0,.agg c1),(1,.agg c2)]=Instr.fill (fun i=>some (i*32,32)) (dgA (List.replicate 64 0)) (([.agg c1,.agg c2].zipIdx 0).map fun x=>(x.2,x.1)):=by
  simp[Instr.fill]
 rw[e,e2,h]
 simp[Value.cells]
theorem exec_mid {o:Oper} {a:Act} {w:World} (x:Operand) (ho:o.op=.load 52 x) (g off:Nat) (hx:a.eval x=.pointer (some ⟨g,off,none⟩)) (l:List UInt8) (hl:l.length=32) (hc:w.rangeAt g off (bv l)) :
  (execOp a.eval o).run Tryz.prog w=.ok (.value (.agg (dgA l))) w:=by
 unfold execOp
 simp only[ho,hx,Sem.run_bind,Sem.run_pure,Result.andThen_ok,run_loadAt_mid w g off 52 (bv l) _ hc Tryz.underlying52 rfl (by rw[bv_length,hl];kernel_rfl)]
theorem exec_buildKey {o:Oper} {a:Act} {w:World} (x y:Operand) (ho:o.op=.build 93 #[(0,x),(1,y)]) (c1 c2:Array Value) (hx:a.eval x=.agg c1) (hy:a.eval y=.agg c2) (h1:c1.size=32) (h2:c2.size=32) :
  (execOp a.eval o).run Tryz.prog w=.ok (.value (.agg (c1++c2))) w:=by
 have h:=run_build (P:=Tryz.prog) w 93 #[(0,.agg c1),(1,.agg c2)] _ (builtKey c1 c2 h1 h2)
 unfold execOp
 simp only[ho,List.map_toArray,List.map_cons,List.map_nil,hx,hy,Sem.run_bind,Sem.run_pure,Result.andThen_ok,h]
theorem res_key {fn:Func} {p:Tmp} (h:fn.results=#[.cell p 93]) (tmps:Array Value) (w:World) (g:Nat) (cs:Array Value) (hp:tmps.getD p undef=.pointer (some ⟨g,0,none⟩)) (hg:w.heap[g]? = some (rowT 93 cs)) (hn:cs.size=64) :
  (results fn tmps).run Tryz.prog w=.ok (.agg cs) w :=
 results_cell_row h tmps w g _ cs (0,0) _ hp hg Tryz.underlying93 rfl (by rw[hn];kernel_rfl)
theorem SB.range {w:World} {B g o n c:Nat} {l:List UInt8} (h:SB w B (.slice (some ⟨g,o,none⟩) n c) l) (k:Nat):w.rangeAt g (o+k) (bv (l.drop k)):=by
 obtain⟨A',c',e,h1,h2,hr⟩:=h
 injection e with e1 _ e3
 subst e1
 intro j v hv
 have hj:=(List.getElem?_eq_some_iff.1 hv).1
 rw[bv_length,List.length_drop] at hj
 have:=(hr.2.2 _ rfl (by omega)).2.2 (k+j) v (by rw[←hv,bv_drop,List.getElem?_drop])
 rw[Nat.add_assoc]
 exact this
theorem range_take {w:World} {g o k:Nat} {l:List UInt8} (h:w.rangeAt g o (bv l)):w.rangeAt g o (bv (l.take k)):=fun j v hv=>h j v (by
 rw[bv_take,List.getElem?_take] at hv
 split at hv
 ·exact hv
 ·cases hv)
end Go.Proofs.YtchjknbideoieaaGreatDoor
namespace Go.Proofs.YtchjknbideoieaaGreatDoor
set_option maxRecDepth 100000
set_option maxHeartbeats 8000000
open Go.RowKit
theorem exec_arr32 {o:Oper} {a:Act} {w:World} (x:Operand) (ho:o.op=.sliceToArrayPointer 52 x) (A:Option Addr) (n c:Nat) (hx:a.eval x=.slice A n c) (hn:32≤n) :
  (execOp a.eval o).run Tryz.prog w=.ok (.value (.pointer A)) w:=by
 unfold execOp
 simp only[ho,hx,Instr.arrayAt,Sem.run_bind,run_underlying Tryz.underlying52,Result.andThen_ok]
 rw[if_neg (by omega)]
 simp only[Sem.run_pure,Result.andThen_ok]
theorem range_setRow {w:World} {g o k:Nat} {l:List Value} {cs:Array Value} (h:w.rangeAt g o l) (hne:g≠k):(w.setRow k cs).rangeAt g o l:=fun j v hv=>(World.cell?_of_block (a:=⟨g,o+j,none⟩) (setRow_other w k g cs hne)).trans (h j v hv)
def tant:List UInt8:=[116,97,110,116,97,108,117,115]
def keyOfUse (root use:List UInt8):List UInt8:=expand (macOf tant root) use 64
theorem keyOfUse_length (root use:List UInt8):(keyOfUse root use).length=64:=expand_length _ _ _
theorem kDerive_any (root use:List UInt8) (hr:root.length=32) (cr kk:Array Value) (hcr:dgA root=cr) (hkk:dgA (keyOfUse root use)=kk) (u:Value) (w:World) (hu:SB w w.heap.size u use) (hl2:use.length≤140737488353000) (hk:KTab w 0) (h1:0<w.heap.size) :
  Calls Tryz.prog 90 #[.agg cr,u] w fun e w'=>e=.returned (.agg kk)∧Below w.heap.size w w':=by
 obtain⟨A2,c2,rfl,_,_,_⟩:=id hu
 have HR:=Lib.hid hcr
 have HKK:=Lib.hid hkk
 have hcn:cr.size=32:=by rw[←hcr,dgA_size,hr]
 clear hcr hkk
 go_enter Tryz.func90,Tryz.ntmps90
 go_upto_region 1 with fail
 generalize hWA:World.alloc _ _=wA
 have rR:wA.heap[w.heap.size]? = some (rowO cr):=by rw[←hWA];exact heap_alloc2_old w _ _
 have rZ:wA.heap[w.heap.size+1]? = some (rowT 93 (dgA (List.replicate 64 0))):=by rw[←hWA];exact (heap_alloc2_new w _ _).trans (by kernel_rfl)
 have bA:Below w.heap.size w wA:=by rw[←hWA];exact balloc (balloc (bself w) _) _
 have zA:w.heap.size+1<wA.heap.size:=by rw[←hWA];simp
 clear hWA
 have x1:(convert 56 56 (.slice (some ⟨wA.heap.size,0,none⟩) 8 8)).run Tryz.prog (wA.alloc (.cells #[.int .u8 116,.int .u8 97,.int .u8 110,.int .u8 116,.int .u8 97,.int .u8 108,.int .u8 117,.int .u8 115] 5))=.ok (.slice (some ⟨wA.heap.size,0,none⟩) 8 8) (wA.alloc (.cells #[.int .u8 116,.int .u8 97,.int .u8 110,.int .u8 116,.int .u8 97,.int .u8 108,.int .u8 117,.int .u8 115] 5 (8,9))):=Joins.run_convert_bytes_const_at wA 56 5 _ 8 8 _ rfl Tryz.underlying56 Tryz.underlying5
 obtain⟨wB,hWB⟩:∃wB,wB=wA.alloc (.cells #[.int .u8 116,.int .u8 97,.int .u8 110,.int .u8 116,.int .u8 97,.int .u8 108,.int .u8 117,.int .u8 115] 5 (8,9)):=⟨_,rfl⟩
 rw[←hWB] at x1
 have rT:wB.heap[wA.heap.size]? = some (.cells #[.int .u8 116,.int .u8 97,.int .u8 110,.int .u8 116,.int .u8 97,.int .u8 108,.int .u8 117,.int .u8 115] 5 (8,9)):=by rw[hWB];exact heap_alloc_new wA _
 have bAB:Below wA.heap.size wA wB:=by rw[hWB];exact balloc (bself wA) _
 have zB:wA.heap.size<wB.heap.size:=by rw[hWB];simp
 clear hWB
 have bB:Below w.heap.size w wB:=bA.trans (bAB.mono bA.size)
 have s1:SB wB wB.heap.size (.slice (some ⟨wA.heap.size,0,none⟩) 8 8) tant:=SB.cells rT rfl rfl zB (by decide)
 have s2:SB wB wB.heap.size (.slice (some ⟨w.heap.size,0,none⟩) 32 32) root:=SB.ofRow ((bAB.block w.heap.size (by omega)).trans rR) HR.out hr.symm (by omega) (by rw[hr];simp[maxLen])
 obtain⟨dx,hdx⟩:∃dx,dgA (macOf tant root)=dx:=⟨_,rfl⟩
 have HDN:Hid (dx.size=32∧∀v∈dx.toList,v.oneCell'=true):=Lib.hid (by rw[←hdx];exact⟨by rw[dgA_size,macOf_length],dgA_one _⟩)
 have HDX:=Lib.hid hdx
 clear hdx
 have HM:Hid (Calls Tryz.prog 112 #[.slice (some ⟨wA.heap.size,0,none⟩) 8 8,.slice (some ⟨w.heap.size,0,none⟩) 32 32] wB fun e w'=>e=.returned (.agg dx)∧Below wB.heap.size wB w'):=Lib.hid (kExtract_any tant root dx HDX.out _ _ wB s1 s2 (by decide) (by omega) (hk.on bB h1) (by have:=bB.size;omega))
 clear s1 s2 rT
 go_wp2_with fail
 refine HM.out.mono ?_
 rintro e w2 ⟨rfl,hb2⟩
 clear HM x1
 go_upto_region 2 with (refine wl_storeD rfl (.tmp 5) (.tmp 11) rfl _ rfl _ dx rfl (heap_alloc_new w2 _) (by kernel_rfl) HDN.out.1 HDN.out.2 ?_)
 generalize hw3:World.setRow _ _ _=w3
 have rD:w3.heap[w2.heap.size]? = some (rowO dx):=by rw[←hw3];exact setRow_heap _ _ _ _ _ _ (heap_alloc_new w2 _)
 have b23:Below w2.heap.size w2 w3:=by rw[←hw3];exact below_setRow (balloc (bself w2) _) (Nat.le_refl _) _
 have z3:w2.heap.size<w3.heap.size:=by rw[←hw3];simp
 clear hw3
 have zB2:=hb2.size
 have bA3:Below wA.heap.size wA w3:=bAB.trans ((hb2.trans (b23.mono zB2)).mono bAB.size)
 have bw3:Below w.heap.size w w3:=bA.trans (bA3.mono bA.size)
 have zw3:=bw3.size
 have s3:SB w3 w3.heap.size (.slice (some ⟨w2.heap.size,0,none⟩) 32 32) (macOf tant root):=SB.ofRow rD HDX.out (macOf_length _ _).symm z3 (by rw[macOf_length];simp[maxLen])
 clear rD b23
 have HE:Hid (Calls Tryz.prog 113 #[.slice (some ⟨w2.heap.size,0,none⟩) 32 32,.slice A2 use.length c2,.int .i64 64] w3 fun e w'=>∃g,e=.returned (.tuple #[.slice (some ⟨g,0,none⟩) 64 64,.int .i64 0])∧SB w' w'.heap.size (.slice (some ⟨g,0,none⟩) 64 64) (keyOfUse root use)∧Below w3.heap.size w3 w'∧w3.heap.size≤g):=Lib.hid (kExpand_at (macOf tant root) use 64 (by omega) _ _ w3 s3 (hu.on bw3) (by rw[macOf_length];omega) (by omega) (hk.on bw3 h1) (by omega))
 clear s3
 go_wp2_with fail
 refine HE.out.mono ?_
 rintro e w4 ⟨g,rfl,hs4,hb4,hg3⟩
 have b4:Below wA.heap.size wA w4:=bstep bA3 hb4
 have hz4:w4.heap[w.heap.size+1]? = some (rowT 93 (dgA (List.replicate 64 0))):=(b4.block (w.heap.size+1) (by omega)).trans rZ
 have bw4:Below w.heap.size w w4:=bA.trans (b4.mono bA.size)
 have hE:=keyOfUse_length root use
 obtain⟨E,hEE⟩:∃E,E=keyOfUse root use:=⟨_,rfl⟩
 rw[←hEE] at hs4 hE HKK
 clear hEE
 obtain⟨k1,hk1⟩:∃k1,dgA (E.take 32)=k1:=⟨_,rfl⟩
 obtain⟨k2,hk2⟩:∃k2,dgA (E.drop 32)=k2:=⟨_,rfl⟩
 have e12:k1++k2=kk:=by
  rw[←hk1,←hk2,←HKK.out]
  show (bv (E.take 32)).toArray++(bv (E.drop 32)).toArray=(bv E).toArray
  rw[List.append_toArray,←bv_append,List.take_append_drop]
 have n1:k1.size=32:=by rw[←hk1,dgA_size,List.length_take];omega
 have n2:k2.size=32:=by rw[←hk2,dgA_size,List.length_drop];omega
 have HN:Hid (kk.size=64∧∀v∈kk.toList,v.oneCell'=true):=Lib.hid (by rw[←HKK.out];exact⟨by rw[dgA_size,hE],dgA_one _⟩)
 have HK12:=Lib.hid (And.intro hk1 (And.intro hk2 (And.intro e12 (And.intro n1 n2))))
 have KS:Hid (∀w',Below w4.heap.size w4 w'→w'.rangeAt g 0 (bv (E.take 32))∧w'.rangeAt g 32 (bv (E.drop 32))):=Lib.hid (fun w' h=>by
  have h0:=(hs4.below h).range 0
  have h3:=(hs4.below h).range 32
  rw[List.drop_zero] at h0
  exact⟨range_take h0,by rw[Nat.zero_add] at h3;exact h3⟩)
 have HRR:Hid (∀w',Below w4.heap.size w4 w'→w'.heap[w.heap.size+1]? = some (rowT 93 (dgA (List.replicate 64 0)))∧(w'.setRow (w.heap.size+1) kk).heap[w.heap.size+1]? = some (rowT 93 kk)∧Below w.heap.size w (w'.setRow (w.heap.size+1) kk)):=Lib.hid (fun w' h=>by
  have h5:=(h.block (w.heap.size+1) (by have:=b4.size;omega)).trans hz4
  exact⟨h5,setRow_heap _ _ _ _ _ _ h5,below_setRow (bstep bw4 h) (Nat.le_succ _) _⟩)
 have HZ:Hid ((dgA (List.replicate 64 0)).size=64):=Lib.hid (by rw[dgA_size];rfl)
 clear hk1 hk2 e12 n1 n2 hs4 hz4
 go_upto_region 3 with fail
 refine wp_region_noPanic ?_
 refine wp_region_held_drew (S:=fun w'=>w'.rangeAt g 0 (bv (E.take 32))∧w'.rangeAt g 32 (bv (E.drop 32))) (by kernel_rfl) (KS.out _ (bdrew (bself w4))) (fun hHeld=>?_)
 refine rtk 0 ?_
 refine rtk 1 ?_
 refine reg_take 2 (v:=.pointer (some ⟨g,0,none⟩)) (by rfl) (by kernel_rfl) (by kernel_rfl) (by kernel_rfl) (fun _ _ _ h=>h) (by rfl) ?_ (by assumption) ?_
 ·(intro wq hSq;exact exec_arr32 (.tmp 19) rfl _ _ _ rfl (by omega))
 try simp only[Act.put,q1,q2,q3]
 refine reg_take 3 (v:=.agg k1) (by rfl) (by kernel_rfl) (by kernel_rfl) (by kernel_rfl) (fun _ _ _ h=>h) (by rfl) ?_ (by assumption) ?_
 ·(intro wq hSq;rw[←HK12.out.1];exact exec_mid (.tmp 20) rfl g 0 rfl _ (by rw[List.length_take];omega) hSq.1)
 try simp only[Act.put,q1,q2,q3]
 refine rtk 4 ?_
 refine rtk 5 ?_
 refine reg_take 6 (v:=.pointer (some ⟨g,32,none⟩)) (by rfl) (by kernel_rfl) (by kernel_rfl) (by kernel_rfl) (fun _ _ _ h=>h) (by rfl) ?_ (by assumption) ?_
 ·(intro wq hSq;exact exec_arr32 (.tmp 23) rfl _ _ _ rfl (by omega))
 try simp only[Act.put,q1,q2,q3]
 refine reg_take 7 (v:=.agg k2) (by rfl) (by kernel_rfl) (by kernel_rfl) (by kernel_rfl) (fun _ _ _ h=>h) (by rfl) ?_ (by assumption) ?_
 ·(intro wq hSq;rw[←HK12.out.2.1];exact exec_mid (.tmp 24) rfl g 32 rfl _ (by rw[List.length_drop];omega) hSq.2)
 try simp only[Act.put,q1,q2,q3]
 refine reg_take 8 (v:=.agg kk) (by rfl) (by kernel_rfl) (by kernel_rfl) (by kernel_rfl) (fun _ _ _ h=>h) (by rfl) ?_ (by assumption) ?_
 ·(intro wq hSq;rw[←HK12.out.2.2.1];exact exec_buildKey (.tmp 21) (.tmp 25) rfl k1 k2 rfl rfl HK12.out.2.2.2.1 HK12.out.2.2.2.2)
 try simp only[Act.put,q1,q2,q3]
 have h9:=Lib.hid (HRR.out _ (bdrew (bself w4)))
 have HSR:Hid ((w4.drew.setRow (w.heap.size+1) kk).rangeAt g 0 (bv (E.take 32))∧(w4.drew.setRow (w.heap.size+1) kk).rangeAt g 32 (bv (E.drop 32))):=Lib.hid (by
  have h:=KS.out _ (bdrew (bself w4))
  have hz:=bA3.size
  exact⟨range_setRow h.1 (by omega),range_setRow h.2 (by omega)⟩)
 refine ro 9 (fun K hK=>?_)
 (refine wp_storeR 93 (.tmp 4) (.tmp 26) rfl _ rfl _ kk rfl h9.out.1 (by rw[HN.out.1];kernel_rfl) (by rw[HN.out.1,HZ.out]) (Array.all_eq_true_iff_forall_mem.2 (fun v hv=>HN.out.2 v (by simpa using hv))) ?_)
 refine hK.out _ _ ?_ (fun hHeld=>?_)
 ·exact HSR.out
 clear hK K
 try simp only[Act.put]
 refine rdn ?_
 go_wp2_with fail
 exact bodyPost_ret (v:=.agg kk) (res_key Tryz.results90 _ _ _ kk rfl h9.out.2.1 HN.out.1) rfl ⟨rfl,h9.out.2.2⟩
end Go.Proofs.YtchjknbideoieaaGreatDoor
