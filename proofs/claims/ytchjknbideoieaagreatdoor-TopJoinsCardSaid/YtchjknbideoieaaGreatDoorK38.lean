/- What is proved here: what KeyOf of package name comes to, at this seat's numbers. Condition: the table of constants. -/
import Derived.Test.YtchjknbideoieaaGreatDoorK15
import Derived.Test.YtchjknbideoieaaGreatDoorK09
import Derived.Test.YtchjknbideoieaaGreatDoorK36
namespace Go.Proofs.YtchjknbideoieaaGreatDoor
set_option maxRecDepth 100000
set_option maxHeartbeats 8000000
open Go.RowKit
theorem kKeyOf_any (root:List UInt8) (hr:root.length=32) (h:Hd) (ok:h.ok) (cr kk:Array Value) (hcr:dgA root=cr) (hkk:dgA (keyOfUse root (layH h))=kk) (w:World) (hk:KTab w 0) (h1:0<w.heap.size) :
  Calls Tryz.prog 50 #[.agg cr,hdV h] w fun e w'=>e=.returned (.agg kk)∧Below w.heap.size w w':=by
 have HKK:=Lib.hid hkk
 have HCR:=Lib.hid hcr
 have hcn:cr.size=32:=by rw[←hcr,dgA_size,hr]
 have HN:Hid (kk.size=64∧∀v∈kk.toList,v.oneCell'=true):=Lib.hid (by rw[←hkk];exact⟨by rw[dgA_size,keyOfUse_length],dgA_one _⟩)
 clear hcr hkk
 go_enter Tryz.func50,Tryz.ntmps50
 go_upto_region 1 with fail
 have HCN:=Lib.hid hcn
 clear hcn
 generalize hWA:World.alloc _ _=wA
 have rZ:wA.heap[w.heap.size+2]? = some (rowT 93 (dgA (List.replicate 64 0))):=by
  rw[←hWA]
  have h:=heap_alloc_new ((w.alloc (rowO cr)).alloc (.cells #[.int .u8 (h.k:Int),.int .u8 (h.lv:Int),.int .u64 (h.g:Int),.int .u64 (h.e:Int),.int .u64 (h.n:Int)] 65)) (rowT 93 (dgA (List.replicate 64 0)))
  simp only[World.size_alloc] at h
  exact h
 have rH:HdAt wA (w.heap.size+1) h:=by
  rw[←hWA]
  exact (heap_alloc_old _ _ (by simp)).trans (heap_alloc2_new w _ _)
 have rR:wA.heap[w.heap.size]? = some (rowO cr):=by
  rw[←hWA]
  exact (heap_alloc_old _ _ (by simp;omega)).trans (heap_alloc2_old w _ _)
 have bA:Below w.heap.size w wA:=by rw[←hWA];exact balloc (balloc (balloc (bself w) _) _) _
 have zA:w.heap.size+2<wA.heap.size:=by rw[←hWA];simp
 clear hWA
 have KS:Hid (∀w',Below wA.heap.size wA w'→w'.heap[w.heap.size]? = some (rowO cr)∧w'.cell? ⟨w.heap.size+1,0,none⟩=some (.int .u8 (h.k:Int))∧w'.cell? ⟨w.heap.size+1,1,none⟩=some (.int .u8 (h.lv:Int))∧w'.cell? ⟨w.heap.size+1,2,none⟩=some (.int .u64 (h.g:Int))∧w'.cell? ⟨w.heap.size+1,3,none⟩=some (.int .u64 (h.e:Int))∧w'.cell? ⟨w.heap.size+1,4,none⟩=some (.int .u64 (h.n:Int))):=Lib.hid (fun w' hb =>
  have a:HdAt w' (w.heap.size+1) h:=(hb.block _ (by omega)).trans rH
  ⟨(hb.block _ (by omega)).trans rR,a.cells⟩)
 have HL:Hid (∀W,Calls Tryz.prog 51 #[.agg #[.int .u8 (h.k:Int),.int .u8 (h.lv:Int),.int .u64 (h.g:Int),.int .u64 (h.e:Int),.int .u64 (h.n:Int)]] W fun e w'=>∃r,e=.returned r∧OB w' W.heap.size r (layH h)∧Below W.heap.size W w'):=Lib.hid (fun W=>kLay_any h W ok)
 have HD:Hid (∀W r B,Below wA.heap.size wA W→OB W B r (layH h)→Calls Tryz.prog 90 #[.agg cr,r] W fun e w'=>e=.returned (.agg kk)∧Below W.heap.size W w'):=Lib.hid (fun W r B hb ho=>kDerive_any root (layH h) hr cr kk HCR.out HKK.out r W ho.sb (by rw[layH_len];omega) (hk.on (bstep bA hb) h1) (by have:=(bstep bA hb).size;omega))
 have HRR:Hid (∀w',Below wA.heap.size wA w'→w'.heap[w.heap.size+2]? = some (rowT 93 (dgA (List.replicate 64 0)))∧(w'.setRow (w.heap.size+2) kk).heap[w.heap.size+2]? = some (rowT 93 kk)∧Below w.heap.size w (w'.setRow (w.heap.size+2) kk)):=Lib.hid (fun w' hb=>by
  have h5:=(hb.block (w.heap.size+2) (by omega)).trans rZ
  exact⟨h5,setRow_heap _ _ _ _ _ _ h5,below_setRow (bstep bA hb) (by omega) _⟩)
 have HZ:Hid ((dgA (List.replicate 64 0)).size=64):=Lib.hid (by rw[dgA_size];rfl)
 have HS4:Hid (∀w',Below wA.heap.size wA w'→(w'.setRow (w.heap.size+2) kk).heap[w.heap.size]? = some (rowO cr)∧(w'.setRow (w.heap.size+2) kk).cell? ⟨w.heap.size+1,0,none⟩=some (.int .u8 (h.k:Int))∧(w'.setRow (w.heap.size+2) kk).cell? ⟨w.heap.size+1,1,none⟩=some (.int .u8 (h.lv:Int))∧(w'.setRow (w.heap.size+2) kk).cell? ⟨w.heap.size+1,2,none⟩=some (.int .u64 (h.g:Int))∧(w'.setRow (w.heap.size+2) kk).cell? ⟨w.heap.size+1,3,none⟩=some (.int .u64 (h.e:Int))∧(w'.setRow (w.heap.size+2) kk).cell? ⟨w.heap.size+1,4,none⟩=some (.int .u64 (h.n:Int))):=Lib.hid (fun w' hb =>
  have a:HdAt (w'.setRow (w.heap.size+2) kk) (w.heap.size+1) h:=(setRow_other w' (w.heap.size+2) (w.heap.size+1) kk (by omega)).trans ((hb.block _ (by omega)).trans rH)
  ⟨(setRow_other w' (w.heap.size+2) w.heap.size kk (by omega)).trans ((hb.block _ (by omega)).trans rR),a.cells⟩)
 clear rZ rH rR
 refine wp_region_noPanic ?_
 refine wp_region_held_drew (S:=fun w'=>True∧(w'.heap[w.heap.size]? = some (rowO cr)∧w'.cell? ⟨w.heap.size+1,0,none⟩=some (.int .u8 (h.k:Int))∧w'.cell? ⟨w.heap.size+1,1,none⟩=some (.int .u8 (h.lv:Int))∧w'.cell? ⟨w.heap.size+1,2,none⟩=some (.int .u64 (h.g:Int))∧w'.cell? ⟨w.heap.size+1,3,none⟩=some (.int .u64 (h.e:Int))∧w'.cell? ⟨w.heap.size+1,4,none⟩=some (.int .u64 (h.n:Int)))) (by kernel_rfl) ⟨trivial,KS.out _ (bdrew (bself wA))⟩ (fun hHeld=>?_)
 refine reg_take 0 (v:=.agg cr) (by rfl) (by kernel_rfl) (by kernel_rfl) (by kernel_rfl) (fun _ _ _ h=>h) (by rfl) ?_ (by assumption) ?_
 ·(intro wq hSq;exact exec_loadD' (.tmp 2) rfl _ rfl cr hSq.2.1 HCN.out)
 try simp only[Act.put,q1,q2,q3]
 refine rtk 1 ?_
 refine ro 2 (fun K hK=>?_)
 (go_simp;go_at_call 51;refine (HL.out _).mono ?_;rintro _ w2 ⟨r2,rfl,ho2,hb2⟩;have b2:=bstep (bdrew (bself wA)) hb2;go_wp2_with fail)
 refine hK.out _ _ ?_ (fun hHeld=>?_)
 ·exact⟨trivial,KS.out _ b2⟩
 clear hK K
 try simp only[Act.put,q1,q2,q3]
 refine ro 3 (fun K hK=>?_)
 (go_simp;go_at_call 90;refine (HD.out _ _ _ b2 ho2).mono ?_;rintro _ w3 ⟨rfl,hb3⟩;have b3:=bstep b2 hb3;have h9:=Lib.hid (HRR.out _ b3);go_wp2_with fail)
 refine hK.out _ _ ?_ (fun hHeld=>?_)
 ·exact⟨trivial,KS.out _ b3⟩
 clear hK K
 try simp only[Act.put,q1,q2,q3]
 refine ro 4 (fun K hK=>?_)
 (refine wp_storeR 93 (.tmp 4) (.tmp 8) rfl _ rfl _ kk rfl h9.out.1 (by rw[HN.out.1];kernel_rfl) (by rw[HN.out.1,HZ.out]) (Array.all_eq_true_iff_forall_mem.2 (fun v hv=>HN.out.2 v (by simpa using hv))) ?_)
 refine hK.out _ _ ?_ (fun hHeld=>?_)
 ·exact⟨trivial,HS4.out _ b3⟩
 clear hK K
 try simp only[Act.put]
 refine rdn ?_
 go_wp2_with fail
 exact bodyPost_ret (v:=.agg kk) (res_key Tryz.results50 _ _ _ kk rfl h9.out.2.1 HN.out.1) rfl ⟨rfl,h9.out.2.2⟩
end Go.Proofs.YtchjknbideoieaaGreatDoor
