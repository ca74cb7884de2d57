/-
  What is proved here: what begin of package table comes to, where the bytes are a table's, at this seat's numbers. Conditions: the table's form; the lengths; the table of constants.
-/
import Derived.Test.YtchjknbideoieaaGreatDoorK44
import Derived.Test.YtchjknbideoieaaGreatDoorK34
import Derived.Test.YtchjknbideoieaaGreatDoorK32
import Derived.Test.YtchjknbideoieaaGreatDoorK33
import Derived.Test.YtchjknbideoieaaGreatDoorK31
import Derived.Deep.DeepCutAuto
import Derived.Deep.CutBlock
namespace Go.Proofs.YtchjknbideoieaaGreatDoor
open Go.RowKit Go.Great
theorem mtC_length (m : Mt) (h : m.root.length = 32) : (mtC m).length = 40 := by simp [mtC, bv_length, h]
theorem mt_cells {w : World} {g : Nat} {m : Mt} {cm : Array Value} {t : TypeId} (h : w.heap[g]? = some (.cells cm t (0, 0))) (hm : (mtC m).toArray = cm) :
    (w.cell? ⟨g, 0, none⟩ = some (.int .u8 (m.lv : Int)) ∧ w.cell? ⟨g, 1, none⟩ = some (.int .u64 (m.g : Int)) ∧ w.cell? ⟨g, 2, none⟩ = some (.int .u64 (m.e : Int)) ∧ w.cell? ⟨g, 3, none⟩ = some (.int .u64 (m.n : Int)) ∧ w.cell? ⟨g, 4, none⟩ = some (.int .i64 (m.size : Int)) ∧ w.cell? ⟨g, 5, none⟩ = some (.int .i64 (m.count : Int)) ∧ w.cell? ⟨g, 6, none⟩ = some (.string m.mn) ∧ w.cell? ⟨g, 7, none⟩ = some (.string m.mx)) ∧ w.rangeAt g 8 (bv m.root) := by
  subst hm
  refine ⟨⟨cell_of_row _ _ 0 _ _ _ h, cell_of_row _ _ 1 _ _ _ h, cell_of_row _ _ 2 _ _ _ h, cell_of_row _ _ 3 _ _ _ h, cell_of_row _ _ 4 _ _ _ h, cell_of_row _ _ 5 _ _ _ h, cell_of_row _ _ 6 _ _ _ h, cell_of_row _ _ 7 _ _ _ h⟩, fun j v hv => ?_⟩
  rw [cell_of_row _ _ (8 + j) _ _ _ h, List.getElem?_toArray]
  unfold mtC
  rw [List.getElem?_append_right (by simp), ← hv]
  congr 1
  simp
theorem results_c {P : Program} {fn : Func} {p : Tmp} {ty : TypeId} (h : fn.results = #[.cell p ty]) (tmps : Array Value) (w : World) (g : Nat) (t : TypeId) (cs : Array Value) (fr : Nat × Nat) (d : TypeDesc)
    (hp : tmps.getD p undef = .pointer (some ⟨g, 0, none⟩)) (hg : w.heap[g]? = some (.cells cs t fr))
    (hu : P.underlying ty = some d) (hd : (match d with | .struct _ | .array _ _ => true | _ => false) = true) (hi : (P.info? ty).map (·.size) = some cs.size) :
    (results fn tmps).run P w = .ok (.agg cs) w := by
  have hp' : tmps[p]?.getD undef = .pointer (some ⟨g, 0, none⟩) := by simpa using hp
  simp [results, h, hp', asAddr, run_loadVar_row w g t ty cs fr d hg hu hd hi]
set_option maxRecDepth 100000 in
set_option maxHeartbeats 1000000 in
theorem kHead_any (m : Mt) (cm : Array Value) (hm : (mtC m).toArray = cm) (w : World) :
    Calls Tryz.prog 72 #[.agg cm] w fun e w' => e = .returned (hdV ⟨2, m.lv, m.g, m.e, m.n⟩) ∧ Below w.heap.size w w' := by
  have HM := Lib.hid hm
  clear hm
  go_enter Tryz.func72, Tryz.ntmps72
  go_upto_region 1 with fail
  generalize hWA : World.alloc _ _ = wA
  have rA : wA.heap[w.heap.size]? = some (.cells cm 55 (0, 0)) := by rw [← hWA]; exact heap_alloc2_old w _ _
  have rH : wA.heap[w.heap.size + 1]? = some (.cells #[.int .u8 0, .int .u8 0, .int .u64 0, .int .u64 0, .int .u64 0] 65 (0, 0)) := by rw [← hWA]; exact heap_alloc2_new w _ _
  have bA : Below w.heap.size w wA := by rw [← hWA]; exact balloc (balloc (bself w) _) _
  obtain ⟨⟨x0, x1, x2, x3, _⟩, _⟩ := mt_cells rA HM.out
  clear hWA
  go_wp2_with (refine wl_storeT 65 (n := 5) (by kernel_rfl) rfl (.tmp 2) (.tmp 11) rfl (w.heap.size + 1) rfl _ _ rfl rH rfl rfl (by simp [Value.oneCell']) ?_)
  refine bodyPost_ret (v := hdV ⟨2, m.lv, m.g, m.e, m.n⟩) (results_c Tryz.results72 _ _ (w.heap.size + 1) 65 #[.int .u8 2, .int .u8 (m.lv : Int), .int .u64 (m.g : Int), .int .u64 (m.e : Int), .int .u64 (m.n : Int)] (0, 0) _ rfl (setRow_heap _ _ _ _ _ _ rH) Tryz.underlying65 rfl (by kernel_rfl)) rfl ⟨rfl, below_setRow bA (by omega) _⟩
set_option maxRecDepth 100000 in
theorem builtRd (kl : List Value) (h : kl.length = 64) (A B : Option Addr) (n m c d : Nat) : Tryz.prog.built 96 [(0, .agg kl.toArray), (1, .slice A n c), (3, .slice B m d)] = some (kl ++ [.slice A n c, nilW, .slice B m d]).toArray := by
  have e : Tryz.prog.built 96 [(0, .agg kl.toArray), (1, .slice A n c), (3, .slice B m d)] = Instr.fill (#[(0, 64), (64, 1), (65, 1), (66, 1)][·]?) (bv (List.replicate 64 0) ++ [nilW, nilW, nilW]).toArray [(0, .agg kl.toArray), (1, .slice A n c), (3, .slice B m d)] := by
    kernel_rfl
  rw [e, fill_step (off := 0) (size := 64) (vc := kl) rfl rfl h (by simp [bv])]
  rw [show (bv (List.replicate 64 0) ++ [nilW, nilW, nilW]).take 0 ++ (kl ++ (bv (List.replicate 64 0) ++ [nilW, nilW, nilW]).drop (0 + 64)) = kl ++ [nilW, nilW, nilW] from rfl]
  rw [fill_step (off := 64) (size := 1) (vc := [.slice A n c]) rfl rfl rfl (by simp [h])]
  rw [show (kl ++ [nilW, nilW, nilW]).take 64 ++ ([.slice A n c] ++ (kl ++ [nilW, nilW, nilW]).drop (64 + 1)) = kl ++ [.slice A n c, nilW, nilW] from by rw [← h, List.take_left, ← List.drop_drop, List.drop_left]; rfl]
  rw [fill_step (off := 66) (size := 1) (vc := [.slice B m d]) rfl rfl rfl (by simp [h])]
  have h2 : (kl ++ [Value.slice A n c, nilW]).length = 66 := by simp [h]
  rw [show (kl ++ [.slice A n c, nilW, nilW]).take 66 ++ ([.slice B m d] ++ (kl ++ [.slice A n c, nilW, nilW]).drop (66 + 1)) = kl ++ [.slice A n c, nilW, .slice B m d] from by
    rw [show kl ++ [Value.slice A n c, nilW, nilW] = (kl ++ [.slice A n c, nilW]) ++ [nilW] from by simp, ← h2, List.take_left, ← List.drop_drop, List.drop_left]
    simp]
  simp [Instr.fill]
set_option maxRecDepth 100000 in
theorem exec_buildRd {o : Oper} {a : Act} {w : World} (x y z : Operand) (ho : o.op = .build 96 #[(0, x), (1, y), (3, z)]) (kl : List Value) (h : kl.length = 64) (A B : Option Addr) (n m c d : Nat) (hx : a.eval x = .agg kl.toArray) (hy : a.eval y = .slice A n c) (hz : a.eval z = .slice B m d) :
    (execOp a.eval o).run Tryz.prog w = .ok (.value (.agg (kl ++ [.slice A n c, nilW, .slice B m d]).toArray)) w := by
  have h := run_build (P := Tryz.prog) w 96 #[(0, .agg kl.toArray), (1, .slice A n c), (3, .slice B m d)] _ (builtRd kl h A B n m c d)
  unfold execOp
  simp only [ho, List.map_toArray, List.map_cons, List.map_nil, hx, hy, hz, Sem.run_bind, Sem.run_pure, Result.andThen_ok, h]
set_option maxRecDepth 100000 in
theorem exec_loadHd {o : Oper} {a : Act} {w : World} (x : Operand) (ho : o.op = .load 65 x) (g : Nat) (hx : a.eval x = .pointer (some ⟨g, 0, none⟩)) (cs : Array Value) (hg : w.heap[g]? = some (.cells cs 65 (0, 0))) (hn : cs.size = 5) :
    (execOp a.eval o).run Tryz.prog w = .ok (.value (.agg cs)) w := exec_loadRow 65 (c := 5) Tryz.underlying65 rfl (by kernel_rfl) x ho g hx cs hg hn
set_option maxRecDepth 100000 in
theorem exec_loadMt {o : Oper} {a : Act} {w : World} (x : Operand) (ho : o.op = .load 55 x) (g : Nat) (hx : a.eval x = .pointer (some ⟨g, 0, none⟩)) (cs : Array Value) (hg : w.heap[g]? = some (.cells cs 55 (0, 0))) (hn : cs.size = 40) :
    (execOp a.eval o).run Tryz.prog w = .ok (.value (.agg cs)) w := exec_loadRow 55 (c := 40) Tryz.underlying55 rfl (by kernel_rfl) x ho g hx cs hg hn
theorem SB.cutN {w : World} {B n c k : Nat} {b o : Nat} {l : List UInt8} (h : SB w B (.slice (some ⟨b, o, none⟩) n c) l) (hk : k ≤ n) (hc : k < c) : SB w B (.slice (some ⟨b, o + k, none⟩) (n - k) (c - k)) (l.drop k) := by
  obtain ⟨A, c', e, h1, h2, hr⟩ := id h
  injection e with e1 e2 e3
  subst e2
  have := Sl.cut h hk rfl
  rw [if_neg (by omega), Option.map_some, add_lit0, Nat.mul_one] at this
  unfold SB
  rw [List.length_drop, bv_drop]
  exact this
theorem SB.takeN {w : World} {B n c k : Nat} {A : Option Addr} {l : List UInt8} (h : SB w B (.slice A n c) l) (hk : k ≤ n) : SB w B (.slice A k c) (l.take k) := by
  obtain ⟨A', c', e, h1, h2, hr⟩ := id h
  injection e with e1 e2 e3
  subst e2
  have := Sl.take h hk rfl
  rw [Nat.mul_one] at this
  unfold SB
  rw [List.length_take, Nat.min_eq_left hk, bv_take]
  exact this
set_option maxRecDepth 100000 in
theorem run_cutN (w : World) (b o n c k : Nat) (kl : IntKind) (hk : k ≤ n) (hc : k < c) : (Instr.sliceAt 56 (.slice (some ⟨b, o, none⟩) n c) (some (.int kl (k : Int))) none none).run Tryz.prog w = .ok (.slice (some ⟨b, o + k, none⟩) (n - k) (c - k)) w := by
  have h := run_cutB w (some ⟨b, o, none⟩) n c k kl hk
  rw [if_neg (by omega), Option.map_some, add_lit0] at h
  exact h
set_option maxRecDepth 100000 in
theorem run_headN (w : World) (A : Option Addr) (n c k : Nat) (kl : IntKind) (hk : k ≤ c) : (Instr.sliceAt 56 (.slice A n c) none (some (.int kl (k : Int))) none).run Tryz.prog w = .ok (.slice A k c) w := by
  rw [run_sliceAt_slice w 56 _ _ _ _ Tryz.underlying56, run_slice_h w 56 A n c Tryz.underlying56 kl k (by omega) (by omega)]
  simp [go_sem, sliced]
set_option maxRecDepth 100000 in
theorem run_midN (w : World) (b o n c lo hi : Nat) (kl kh : IntKind) (h1 : lo ≤ hi) (h2 : hi ≤ c) (hc : lo < c) : (Instr.sliceAt 56 (.slice (some ⟨b, o, none⟩) n c) (some (.int kl (lo : Int))) (some (.int kh (hi : Int))) none).run Tryz.prog w = .ok (.slice (some ⟨b, o + lo, none⟩) (hi - lo) (c - lo)) w := by
  have h := run_takeB w (some ⟨b, o, none⟩) n c lo hi kl kh h1 h2
  rw [if_neg (by omega), Option.map_some, add_lit0] at h
  exact h
def BegPost (w : World) (K ad : List UInt8) (Ps : List Prt) (F : List UInt8) (e : Ending) (w' : World) : Prop := ∃ R rows, e = .returned (.pointer (some ⟨R, 0, none⟩)) ∧ RdT w' R K ad rows ∧ rows.map (fun x => (x.bound, x.bytes)) = rowsT Ps F ∧ Below w.heap.size w w'
set_option maxRecDepth 100000 in
set_option maxHeartbeats 8000000 in
theorem kBeginT_any (root : List UInt8) (hroot : root.length = 32) (h : Hd) (ok : h.ok) (hk2 : h.k = 2) (hrh : rightH h = true) (m : Mt) (hm : m.lv = h.lv ∧ m.g = h.g ∧ m.e = h.e ∧ m.n = h.n)
    (K ad II : List UInt8) (hK : K = keyOfUse root (layH h)) (had : ad = layH h) (Ps : List Prt) (F b : List UInt8) (hII : II = sealP K ad 0 (indexB leafB Ps F)) (hb : b = tableB ad Ps F II)
    (hsz : m.size = b.length) (hmr : m.root = (rootR jnD zD (Ps.map (fun p => leafD p.bytes) ++ [leafD F, leafD II])).1)
    (hP0 : 0 < Ps.length) (hPn : Ps.length ≤ 1000) (hbd : ∀ p ∈ Ps, p.bound.length ≤ 1024) (hbl : b.length ≤ 1073741824)
    (cr cm : Array Value) (hcr : dgA root = cr) (hcm : (mtC m).toArray = cm) (vb : Value) (w : World) (hv : SB w w.heap.size vb b) (hk : KTab w 0) (h1 : 0 < w.heap.size) :
    Calls Tryz.prog 35 #[.agg cr, .agg cm, vb] w (BegPost w K ad Ps F) := by
  obtain ⟨hm1, hm2, hm3, hm4⟩ := hm
  have hKl : K.length = 64 := by rw [hK]; exact keyOfUse_length _ _
  have hadl : ad.length = 30 := by rw [had]; exact layH_len h
  have hlen : b.length = 30 + ((bodT Ps F 0).length + II.length) + 8 := by rw [hb, tableB_len, hadl]
  obtain ⟨nb, hnb⟩ : ∃ nb, nb = b.length := ⟨_, rfl⟩
  have hcs : cr.size = 32 := by rw [← hcr, dgA_size, hroot]
  have hmc : cm.size = 40 := by rw [← hcm, List.size_toArray]; exact mtC_length m (by rw [hmr]; exact (rootR jnD zD _).2)
  have HTk : Hid (∀ W, Below w.heap.size w W → Calls Tryz.prog 71 #[vb] W fun e w' => e = .returned (.tuple #[.agg #[.int .u8 2, .int .u8 (h.lv : Int), .int .u64 (h.g : Int), .int .u64 (h.e : Int), .int .u64 (h.n : Int)], .int .i64 0]) ∧ Below W.heap.size W w') := Lib.hid (fun W hW => by
    have := kTakeH_any vb b W (hv.on hW) (by omega)
    unfold takeHV at this
    rw [hb, tableB_cut, List.append_assoc, had, takeH_lay h _ ok, if_pos hrh] at this
    simp only at this
    unfold hdV at this
    rw [hk2] at this
    exact this)
  obtain ⟨Ab, cb, rfl, hcb, hcb2, _⟩ := id hv
  rw [← hnb] at HTk hcb hbl hlen
  have hnb38 : 38 ≤ nb := by omega
  have HLen := Lib.hid (And.intro hnb hlen)
  have hcb3 : cb ≤ 9223372036854775807 := by unfold maxLen at hcb2; omega
  have HALL := Lib.hid (And.intro hroot (And.intro hm1 (And.intro hm2 (And.intro hm3 (And.intro hm4 (And.intro hsz (And.intro hmr (And.intro hcr (And.intro hcm (And.intro hK (And.intro had (And.intro hII hb))))))))))))
  have HV := Lib.hid hv
  rw [← hnb]
  clear hnb hlen hroot hm1 hm2 hm3 hm4 hsz hmr hcr hcm hK had hII hb hv hcb2
  go_enter Tryz.func35, Tryz.ntmps35
  go_upto_region 1 with fail
  generalize hWA : World.alloc _ _ = wA
  have rM : wA.heap[w.heap.size + 1]? = some (.cells cm 55 (0, 0)) := by rw [← hWA]; exact heap_alloc2_new w _ _
  have rR : wA.heap[w.heap.size]? = some (rowO cr) := by rw [← hWA]; exact heap_alloc2_old w _ _
  have bA : Below w.heap.size w wA := by rw [← hWA]; exact balloc (balloc (bself w) _) _
  have zA : wA.heap.size = w.heap.size + 1 + 1 := by rw [← hWA]; simp
  clear hWA
  go_upto_region 2 with (go_at_call 71; refine (HTk.out _ bA).mono ?_; rintro _ w1 ⟨rfl, hb1⟩)
  generalize hW2 : World.alloc _ _ = w2
  obtain ⟨hc, hhc⟩ : ∃ hc, hc = #[Value.int .u8 2, .int .u8 (h.lv : Int), .int .u64 (h.g : Int), .int .u64 (h.e : Int), .int .u64 (h.n : Int)] := ⟨_, rfl⟩
  have rH : w2.heap[w1.heap.size]? = some (.cells hc 65 (0, 0)) := by rw [← hW2, hhc]; exact heap_alloc_new w1 _
  have b2 : Below wA.heap.size wA w2 := by rw [← hW2]; exact balloc hb1 _
  have zH : w1.heap.size < w2.heap.size := by rw [← hW2]; simp
  have z1 := hb1.size
  have hbw2 : Below w.heap.size w w2 := bA.trans (b2.mono (by omega))
  have HKS : Hid (∀ W, Below w2.heap.size w2 W → W.heap[w.heap.size]? = some (rowO cr) ∧ W.heap[w.heap.size + 1]? = some (.cells cm 55 (0, 0)) ∧ W.heap[w1.heap.size]? = some (.cells hc 65 (0, 0))) := Lib.hid (fun W hW =>
    ⟨((hW.block _ (by omega)).trans (b2.block _ (by omega))).trans rR, ((hW.block _ (by omega)).trans (b2.block _ (by omega))).trans rM, (hW.block _ zH).trans rH⟩)
  have HHd : Hid (∀ W, Calls Tryz.prog 72 #[.agg cm] W fun e w' => e = .returned (.agg hc) ∧ Below W.heap.size W w') := Lib.hid (fun W => by
    have := kHead_any m cm HALL.out.2.2.2.2.2.2.2.2.1 W
    unfold hdV at this
    rw [HALL.out.2.1, HALL.out.2.2.1, HALL.out.2.2.2.1, HALL.out.2.2.2.2.1] at this
    rw [hhc]
    exact this)
  have HEqH : Hid (∀ w', (Op.equalIn 10000 65 (.agg hc) (.agg hc)).run Tryz.prog w' = .ok true w') := Lib.hid (fun w' => by
    have := run_eqH w' h h
    unfold hdV at this
    rw [hk2, decide_eq_true rfl] at this
    rw [hhc]
    exact this)
  have hhs : hc.size = 5 := by rw [hhc]; rfl
  have HMsz : Hid (∀ W, Below w2.heap.size w2 W → W.cell? ⟨w.heap.size + 1, 4, none⟩ = some (.int .i64 (nb : Int))) := Lib.hid (fun W hW => by
    have := (mt_cells (HKS.out W hW).2.1 HALL.out.2.2.2.2.2.2.2.2.1).1.2.2.2.2.1
    rw [this, HALL.out.2.2.2.2.2.1, ← HLen.out.1])
  have HHC := Lib.hid hhc
  have HNd := Lib.hid kNeed_true
  have d38 : decide ((38 : Int) ≤ (nb : Int)) = true := by simp; omega
  clear hW2 hhc rH rM rR HTk
  have hEqH := HEqH.out
  have b2d := bdrew (bself w2)
  refine wp_region_noPanic ?_
  refine wp_region_held_drew (S := fun W => True ∧ (W.heap[w.heap.size]? = some (rowO cr) ∧ W.heap[w.heap.size + 1]? = some (.cells cm 55 (0, 0)) ∧ W.heap[w1.heap.size]? = some (.cells hc 65 (0, 0))) ∧ W.cell? ⟨w.heap.size + 1, 4, none⟩ = some (.int .i64 (nb : Int))) (by kernel_rfl) ⟨trivial, HKS.out _ b2d, HMsz.out _ b2d⟩ (fun hHeld => ?_)
  refine rtk 0 ?_ ?_ ?_
  rotate_left
  · (intro wq hSq; (try dsimp only at hSq); go_split_ands; go_simp; (try with_reducible rfl))
  try simp only [Act.put, q1, q2, q3]
  refine rtk 1 ?_ ?_ ?_
  rotate_left
  · (intro wq hSq; (try dsimp only at hSq); go_split_ands; go_simp; (try with_reducible rfl))
  try simp only [Act.put, q1, q2, q3]
  refine rtk 2 ?_ ?_ ?_
  rotate_left
  · (intro wq hSq; (try dsimp only at hSq); go_split_ands; go_simp; (try with_reducible rfl))
  try simp only [Act.put, q1, q2, q3]
  refine rtk 3 ?_ ?_ ?_
  rotate_left
  · (intro wq hSq; (try dsimp only at hSq); go_split_ands; go_simp; (try with_reducible rfl))
  try simp only [Act.put, q1, q2, q3]
  refine rtk 4 ?_ ?_ ?_
  rotate_left
  · (intro wq hSq; (try dsimp only at hSq); go_split_ands; go_simp; (try with_reducible rfl))
  try simp only [Act.put, q1, q2, q3]
  refine rtk 5 ?_ ?_ ?_
  rotate_left
  · (intro wq hSq; (try dsimp only at hSq); go_split_ands; go_simp; (try with_reducible rfl))
  try simp only [Act.put, q1, q2, q3]
  refine rtk 6 ?_ ?_ ?_
  rotate_left
  · (intro wq hSq; (try dsimp only at hSq); go_split_ands; go_simp; (try with_reducible rfl))
  try simp only [Act.put, q1, q2, q3]
  refine rtk 7 ?_ ?_ ?_
  rotate_left
  · (intro wq hSq; (try dsimp only at hSq); go_split_ands; go_simp; (try with_reducible rfl))
  try simp only [Act.put, q1, q2, q3]
  refine rtk 8 ?_ ?_ ?_
  rotate_left
  · (intro wq hSq; (try dsimp only at hSq); go_split_ands; go_simp; (try with_reducible rfl))
  try simp only [Act.put, q1, q2, q3]
  refine rtk 9 ?_ ?_ ?_
  rotate_left
  · (intro wq hSq; (try dsimp only at hSq); go_split_ands; go_simp; (try with_reducible rfl))
  try simp only [Act.put, q1, q2, q3]
  refine reg_take 10 (v := .agg hc) (by rfl) (by kernel_rfl) (by kernel_rfl) (by kernel_rfl) (fun _ _ _ h => h) (by rfl) ?_ (by assumption) ?_
  · (intro wq hSq; exact exec_loadHd (.tmp 7) rfl _ rfl hc hSq.2.1.2.2 hhs)
  try simp only [Act.put, q1, q2, q3]
  refine reg_take 11 (v := .agg cm) (by rfl) (by kernel_rfl) (by kernel_rfl) (by kernel_rfl) (fun _ _ _ h => h) (by rfl) ?_ (by assumption) ?_
  · (intro wq hSq; exact exec_loadMt (.tmp 4) rfl _ rfl cm hSq.2.1.2.1 hmc)
  try simp only [Act.put, q1, q2, q3]
  refine reg_one 12 (by rfl) (by kernel_rfl) (by rfl) (fun K hK => ?_)
  (go_simp; go_at_call 72; refine (HHd.out _).mono ?_; rintro _ w3 ⟨rfl, hb3⟩; have b3 := bstep b2d hb3; go_wp2_with fail)
  refine hK.out _ _ ?_ (fun hHeld => ?_)
  · exact ⟨trivial, HKS.out _ b3, HMsz.out _ b3⟩
  clear hK K
  try simp only [Act.put, q1, q2, q3]
  refine rtk 13 ?_ ?_ ?_
  rotate_left
  · (intro wq hSq; (try dsimp only at hSq); go_split_ands; go_simp; (try with_reducible rfl))
  try simp only [Act.put, q1, q2, q3]
  refine rtk 14 ?_ ?_ ?_
  rotate_left
  · (intro wq hSq; (try dsimp only at hSq); go_split_ands; go_simp; (try with_reducible rfl))
  try simp only [Act.put, q1, q2, q3]
  refine rtk 15 ?_ ?_ ?_
  rotate_left
  · (intro wq hSq; (try dsimp only at hSq); go_split_ands; go_simp; (try with_reducible rfl))
  try simp only [Act.put, q1, q2, q3]
  refine rtk 16 ?_ ?_ ?_
  rotate_left
  · (intro wq hSq; (try dsimp only at hSq); go_split_ands; go_simp; (try with_reducible rfl))
  try simp only [Act.put, q1, q2, q3]
  refine rtk 17 ?_ ?_ ?_
  rotate_left
  · (intro wq hSq; (try dsimp only at hSq); go_split_ands; go_simp; (try with_reducible rfl))
  try simp only [Act.put, q1, q2, q3]
  refine rtk 18 ?_ ?_ ?_
  rotate_left
  · (intro wq hSq; (try dsimp only at hSq); go_split_ands; go_simp; (try with_reducible rfl))
  try simp only [Act.put, q1, q2, q3]
  refine rtk 19 ?_ ?_ ?_
  rotate_left
  · (intro wq hSq; (try dsimp only at hSq); go_split_ands; go_simp; (try with_reducible rfl))
  try simp only [Act.put, q1, q2, q3]
  refine reg_one 20 (by rfl) (by kernel_rfl) (by rfl) (fun K hK => ?_)
  (go_simp; go_at_call 62; refine (HNd.out _).mono ?_; rintro _ w4 ⟨rfl, rfl⟩; go_wp2_with fail)
  refine hK.out _ _ ?_ (fun hHeld => ?_)
  · exact ⟨trivial, HKS.out _ b3, HMsz.out _ b3⟩
  clear hK K
  try simp only [Act.put, q1, q2, q3]
  refine wpAnyH_done (by kernel_rfl) (noPanic_mk ?_) _
  have bw3 := hbw2.trans (b3.mono (by omega))
  obtain ⟨n0, hn0⟩ : ∃ n0, n0 = (bodT Ps F 0).length := ⟨_, rfl⟩
  obtain ⟨ni, hni⟩ : ∃ ni, ni = II.length := ⟨_, rfl⟩
  obtain ⟨nr, hnr⟩ : ∃ nr, nr = n0 + ni := ⟨_, rfl⟩
  obtain ⟨n8, hn8⟩ : ∃ n8, n8 = nr + 30 := ⟨_, rfl⟩
  have hnb8 : nb = n8 + 8 := by have := HLen.out.2; omega
  have HV1 : Hid (SB w w.heap.size (.slice Ab nb cb) b) := Lib.hid (by rw [HLen.out.1]; exact HV.out)
  obtain ⟨bB, oB, rfl, hbB, _⟩ := (show Rd w w.heap.size 1 Ab nb (bv b) by rw [HLen.out.1]; assumption).at_ (by omega)
  have hbt : b = ad ++ (bodT Ps F 0 ++ II) ++ fix ni 8 := by rw [HALL.out.2.2.2.2.2.2.2.2.2.2.2.2, tableB_cut, hni]
  have HRest : Hid (SB w w.heap.size (.slice (some ⟨bB, oB + 30, none⟩) nr (cb - 30)) (bodT Ps F 0 ++ II)) := Lib.hid (by
    have h1 := (HV1.out.cutN (k := 30) (by omega) (by omega)).takeN (k := nr) (by omega)
    rw [hbt, List.append_assoc, ← hadl, List.drop_left, List.take_left' (by rw [List.length_append]; omega), hadl] at h1
    exact h1)
  have HFoot : Hid (SB w w.heap.size (.slice (some ⟨bB, oB + n8, none⟩) 8 (cb - n8)) (fix ni 8)) := Lib.hid (by
    have h1 := HV1.out.cutN (k := n8) (by omega) (by omega)
    rw [hbt, List.drop_left' (by rw [List.length_append, List.length_append]; omega), show nb - n8 = 8 by omega] at h1
    exact h1)
  have g8 : (nb : Int) - 8 = (n8 : Int) := by omega
  have g8w : IntKind.i64.wrap ((nb : Int) - 8) = (n8 : Int) := by rw [g8, IntKind.wrap_i64]; omega
  have gn8 : IntKind.i64.wrap (n8 : Int) = (n8 : Int) := by rw [IntKind.wrap_i64]; omega
  have hs1 : ∀ W, (Instr.sliceAt 56 (.slice (some ⟨bB, oB, none⟩) nb cb) (some (.int .i64 30)) (some (.int .i64 (n8 : Int))) none).run Tryz.prog W = .ok (.slice (some ⟨bB, oB + 30, none⟩) nr (cb - 30)) W := fun W => by
    have := run_midN W bB oB nb cb 30 n8 .i64 .i64 (by omega) (by omega) (by omega)
    rw [show n8 - 30 = nr by omega] at this
    exact this
  have hs2 : ∀ W, (Instr.sliceAt 56 (.slice (some ⟨bB, oB, none⟩) nb cb) (some (.int .i64 (n8 : Int))) none none).run Tryz.prog W = .ok (.slice (some ⟨bB, oB + n8, none⟩) 8 (cb - n8)) W := fun W => by
    have := run_cutN W bB oB nb cb n8 .i64 (by omega) (by omega)
    rw [show nb - n8 = 8 by omega] at this
    exact this
  have HNew : Hid (∀ W, Below w.heap.size w W → Calls Tryz.prog 73 #[.slice (some ⟨bB, oB + n8, none⟩) 8 (cb - n8)] W fun e w' => ∃ R, e = .returned (.pointer (some ⟨R, 0, none⟩)) ∧ W.heap.size ≤ R ∧ RdrFrom W.heap.size w' R (fix ni 8) 0 ∧ Below W.heap.size W w') := Lib.hid (fun W hW => cNew_any _ _ W (HFoot.out.on hW) (by rw [fix_length]; omega))
  have HBT := Lib.hid (And.intro hn0 (And.intro hni (And.intro hnr hn8)))
  have hrb : n0 + ni = nr ∧ nr + 30 = n8 ∧ n8 + 8 = nb := by omega
  have HNB := Lib.hid hrb
  have hni9 : ni ≤ 1073741824 ∧ n0 ≤ 1073741824 ∧ nr ≤ 1073741824 ∧ ni ≤ nr := by omega
  obtain ⟨hni9, hn09, hnr9, hnir⟩ := hni9
  clear hn0 hni hnr hn8 hbt hrb hnb8 hEqH hHeld d38 HHd HEqH HMsz
  go_upto_region 3 with fail
  have b3d := bdrew b3
  have bw3d := bdrew bw3
  refine wp_region_noPanic ?_
  refine wp_region_held_drew (S := fun W => True ∧ True) (by kernel_rfl) ⟨trivial, trivial⟩ (fun hHeld => ?_)
  refine rtk 0 ?_ ?_ ?_
  rotate_left
  · (intro wq hSq; (try dsimp only at hSq); go_split_ands; go_simp; (try with_reducible rfl))
  try simp only [Act.put, q1, q2, q3]
  refine rtk 1 ?_ ?_ ?_
  rotate_left
  · (intro wq hSq; (try dsimp only at hSq); go_split_ands; go_simp; (try with_reducible rfl))
  try simp only [Act.put, q1, q2, q3]
  refine rtk 2 ?_ ?_ ?_
  rotate_left
  · (intro wq hSq; (try dsimp only at hSq); go_split_ands; go_simp; (try with_reducible rfl))
  try simp only [Act.put, q1, q2, q3]
  refine rtk 3 ?_ ?_ ?_
  rotate_left
  · (intro wq hSq; (try dsimp only at hSq); go_split_ands; go_simp; (try with_reducible rfl))
  try simp only [Act.put, q1, q2, q3]
  refine rtk 4 ?_ ?_ ?_
  rotate_left
  · (intro wq hSq; (try dsimp only at hSq); go_split_ands; go_simp; (try with_reducible rfl))
  try simp only [Act.put, q1, q2, q3]
  refine rtk 5 ?_ ?_ ?_
  rotate_left
  · (intro wq hSq; (try dsimp only at hSq); go_split_ands; go_simp; (try with_reducible rfl))
  try simp only [Act.put, q1, q2, q3]
  refine rtk 6 ?_ ?_ ?_
  rotate_left
  · (intro wq hSq; (try dsimp only at hSq); go_split_ands; go_simp; (try with_reducible rfl))
  try simp only [Act.put, q1, q2, q3]
  refine rtk 7 ?_ ?_ ?_
  rotate_left
  · (intro wq hSq; (try dsimp only at hSq); go_split_ands; go_simp; (try with_reducible rfl))
  try simp only [Act.put, q1, q2, q3]
  refine rtk 8 ?_ ?_ ?_
  rotate_left
  · (intro wq hSq; (try dsimp only at hSq); go_split_ands; go_simp; (try with_reducible rfl))
  try simp only [Act.put, q1, q2, q3]
  refine rtk 9 ?_ ?_ ?_
  rotate_left
  · (intro wq hSq; (try dsimp only at hSq); go_split_ands; go_simp; (try with_reducible rfl))
  try simp only [Act.put, q1, q2, q3]
  refine reg_one 10 (by rfl) (by kernel_rfl) (by rfl) (fun K hK => ?_)
  (go_simp; go_at_call 73; refine (HNew.out _ bw3d).mono ?_; rintro _ w5 ⟨R1, rfl, hR1, hrd5, hb5⟩; have b5 := bstep b3d hb5; go_wp2_with fail)
  refine hK.out _ _ ?_ (fun hHeld => ?_)
  · exact ⟨trivial, trivial⟩
  clear hK K
  try simp only [Act.put, q1, q2, q3]
  refine rtk 11 ?_ ?_ ?_
  rotate_left
  · (intro wq hSq; (try dsimp only at hSq); go_split_ands; go_simp; (try with_reducible rfl))
  try simp only [Act.put, q1, q2, q3]
  refine rtk 12 ?_ ?_ ?_
  rotate_left
  · (intro wq hSq; (try dsimp only at hSq); go_split_ands; go_simp; (try with_reducible rfl))
  try simp only [Act.put, q1, q2, q3]
  refine wpAnyH_done (by kernel_rfl) (noPanic_mk ?_) _
  have bw5 := bstep bw3d hb5
  clear HNew hs1 hs2 g8 g8w gn8 hHeld HFoot
  have HFix : Hid (Calls Tryz.prog 74 #[.pointer (some ⟨R1, 0, none⟩), .int .i64 8] w5 fun e w' => e = .returned (.int .u64 (ni : Int)) ∧ w5.grownBy w' (some R1)) := Lib.hid ((mFix_any R1 _ 0 8 w5 hrd5.at_ (by omega) (by omega)).mono (by
    rintro e w' ⟨he, _, hg⟩
    have := sFix_fix8 ni [] (by omega)
    rw [List.append_nil] at this
    rw [this] at he
    exact ⟨he, hg⟩))
  have gnr : IntKind.u64.wrap (nr : Int) = (nr : Int) := by rw [IntKind.wrap_u64]; omega
  have gni : IntKind.i64.wrap (ni : Int) = (ni : Int) := by rw [IntKind.wrap_i64]; omega
  have gsub : (nr : Int) - (ni : Int) = (n0 : Int) := by have := HNB.out.1; omega
  have gsubw : IntKind.i64.wrap ((nr : Int) - (ni : Int)) = (n0 : Int) := by rw [gsub, IntKind.wrap_i64]; omega
  have dnr : decide ((ni : Int) ≤ (nr : Int)) = true := by simp; omega
  have dnr' : decide (ni ≤ nr) = true := by simp; omega
  go_upto_region 7 with (first | (go_at_call 74; refine HFix.out.mono ?_; rintro _ w6 ⟨rfl, hg6⟩) | (go_at_call 62; refine (HNd.out _).mono ?_; rintro _ w6' ⟨rfl, rfl⟩))
  have b6 : Below w2.heap.size w2 _ := below_grown b5 hg6 b5.size (fun g e => by injection e with e; rw [← e]; exact Nat.le_trans b3d.size hR1)
  have bw6 : Below w.heap.size w _ := below_grown bw5 hg6 bw5.size (fun g e => by injection e with e; rw [← e]; exact Nat.le_trans bw3d.size hR1)
  clear HFix gnr gni gsub gsubw dnr dnr' hrd5 hR1 hg6 hb5 b5 bw5 b3d bw3d b3 hb3 bw3
  obtain ⟨kk, hkk⟩ : ∃ kk, kk = (bv K).toArray := ⟨_, rfl⟩
  have hbK : (bv K).length = 64 := by rw [bv_length, hKl]
  have HKey : Hid (∀ W, Below w.heap.size w W → Calls Tryz.prog 50 #[.agg cr, .agg hc] W fun e w' => e = .returned (.agg kk) ∧ Below W.heap.size W w') := Lib.hid (fun W hW => by
    have := kKeyOf_any root HALL.out.1 h ok cr kk HALL.out.2.2.2.2.2.2.2.1 (by rw [hkk, ← HALL.out.2.2.2.2.2.2.2.2.2.1]) W (hk.on hW h1) (by have := hW.size; omega)
    unfold hdV at this
    rw [hk2] at this
    rw [HHC.out]
    exact this)
  have HLay : Hid (∀ W, Calls Tryz.prog 51 #[.agg hc] W fun e w' => ∃ r, e = .returned r ∧ OB w' W.heap.size r ad ∧ Below W.heap.size W w') := Lib.hid (fun W => by
    have := kLay_any h W ok
    unfold hdV at this
    rw [hk2] at this
    rw [HHC.out, HALL.out.2.2.2.2.2.2.2.2.2.2.1]
    exact this)
  have gn0 : IntKind.i64.wrap (n0 : Int) = (n0 : Int) := by rw [IntKind.wrap_i64]; omega
  have hs3 : ∀ W, (Instr.sliceAt 56 (.slice (some ⟨bB, oB + 30, none⟩) nr (cb - 30)) (some (.int .i64 (n0 : Int))) none none).run Tryz.prog W = .ok (.slice (some ⟨bB, oB + 30 + n0, none⟩) ni (cb - 30 - n0)) W := fun W => by
    have h := HNB.out
    have := run_cutN W bB (oB + 30) nr (cb - 30) n0 .i64 (by omega) (by omega)
    rw [show nr - n0 = ni by omega] at this
    exact this
  have hs4 : ∀ W, (Instr.sliceAt 56 (.slice (some ⟨bB, oB + 30, none⟩) nr (cb - 30)) none (some (.int .i64 (n0 : Int))) none).run Tryz.prog W = .ok (.slice (some ⟨bB, oB + 30, none⟩) n0 (cb - 30)) W := fun W => by
    have h := HNB.out
    exact run_headN W _ nr (cb - 30) n0 .i64 (by omega)
  have HIdx : Hid (SB w w.heap.size (.slice (some ⟨bB, oB + 30 + n0, none⟩) ni (cb - 30 - n0)) II) := Lib.hid (by
    have h := HNB.out
    have h1 := HRest.out.cutN (k := n0) (by omega) (by omega)
    rw [List.drop_left' HBT.out.1.symm, show nr - n0 = ni by omega] at h1
    exact h1)
  have HBod : Hid (SB w w.heap.size (.slice (some ⟨bB, oB + 30, none⟩) n0 (cb - 30)) (bodT Ps F 0)) := Lib.hid (by
    have h := HNB.out
    have h1 := HRest.out.takeN (k := n0) (by omega)
    rw [List.take_left' HBT.out.1.symm] at h1
    exact h1)
  have b6d := bdrew b6
  have bw6d := bdrew bw6
  have HKK := Lib.hid hkk
  clear hkk HRest
  refine wp_region_noPanic ?_
  refine wp_region_held_drew (S := fun W => True ∧ (W.heap[w.heap.size]? = some (rowO cr) ∧ W.heap[w.heap.size + 1]? = some (.cells cm 55 (0, 0)) ∧ W.heap[w1.heap.size]? = some (.cells hc 65 (0, 0)))) (by kernel_rfl) ⟨trivial, HKS.out _ b6d⟩ (fun hHeld => ?_)
  refine reg_take 0 (v := .agg cr) (by rfl) (by kernel_rfl) (by kernel_rfl) (by kernel_rfl) (fun _ _ _ h => h) (by rfl) ?_ (by assumption) ?_
  · (intro wq hSq; exact exec_loadDg (.tmp 3) rfl _ rfl cr hSq.2.1 hcs)
  try simp only [Act.put, q1, q2, q3]
  refine reg_take 1 (v := .agg hc) (by rfl) (by kernel_rfl) (by kernel_rfl) (by kernel_rfl) (fun _ _ _ h => h) (by rfl) ?_ (by assumption) ?_
  · (intro wq hSq; exact exec_loadHd (.tmp 7) rfl _ rfl hc hSq.2.2.2 hhs)
  try simp only [Act.put, q1, q2, q3]
  refine reg_take 3 (v := .agg hc) (by rfl) (by kernel_rfl) (by kernel_rfl) (by kernel_rfl) (fun _ _ _ h => h) (by rfl) ?_ (by assumption) ?_
  · (intro wq hSq; exact exec_loadHd (.tmp 7) rfl _ rfl hc hSq.2.2.2 hhs)
  try simp only [Act.put, q1, q2, q3]
  refine rtk 5 ?_ ?_ ?_
  rotate_left
  · (intro wq hSq; (try dsimp only at hSq); go_split_ands; go_simp; (try with_reducible rfl))
  try simp only [Act.put, q1, q2, q3]
  refine rtk 6 ?_ ?_ ?_
  rotate_left
  · (intro wq hSq; (try dsimp only at hSq); go_split_ands; go_simp; (try with_reducible rfl))
  try simp only [Act.put, q1, q2, q3]
  refine rtk 7 ?_ ?_ ?_
  rotate_left
  · (intro wq hSq; (try dsimp only at hSq); go_split_ands; go_simp; (try with_reducible rfl))
  try simp only [Act.put, q1, q2, q3]
  refine reg_one 2 (by rfl) (by kernel_rfl) (by rfl) (fun K hK => ?_)
  (go_simp; go_at_call 50; refine (HKey.out _ bw6d).mono ?_; rintro _ w7 ⟨rfl, hb7⟩; have b7 := bstep b6d hb7; have bw7 := bstep bw6d hb7; go_wp2_with fail)
  refine hK.out _ _ ?_ (fun hHeld => ?_)
  · exact ⟨trivial, HKS.out _ b7⟩
  clear hK K
  try simp only [Act.put, q1, q2, q3]
  refine reg_one 4 (by rfl) (by kernel_rfl) (by rfl) (fun K hK => ?_)
  (go_simp; go_at_call 51; refine (HLay.out _).mono ?_; rintro _ w8 ⟨va, rfl, hoa, hb8⟩; have b8 := bstep b7 hb8; have bw8 := bstep bw7 hb8; go_wp2_with fail)
  refine hK.out _ _ ?_ (fun hHeld => ?_)
  · exact ⟨trivial, HKS.out _ b8⟩
  clear hK K
  try simp only [Act.put, q1, q2, q3]
  obtain ⟨ga, ca, rfl⟩ := hoa.form0 (by omega)
  rw [HKK.out]
  refine reg_take 8 (v := .agg (bv K ++ [.slice (some ⟨ga, 0, none⟩) ad.length ca, nilW, .slice (some ⟨bB, oB + 30 + n0, none⟩) ni (cb - 30 - n0)]).toArray) (by rfl) (by kernel_rfl) (by kernel_rfl) (by kernel_rfl) (fun _ _ _ h => h) (by rfl) ?_ (by assumption) ?_
  · (intro wq hSq; exact exec_buildRd (.tmp 73) (.tmp 75) (.tmp 78) rfl (bv K) hbK _ _ _ _ _ _ rfl rfl rfl)
  try simp only [Act.put, q1, q2, q3]
  refine reg_one 9 (by rfl) (by kernel_rfl) (by rfl) (fun K hK => ?_)
  (go_simp)
  refine hK.out _ _ ?_ (fun hHeld => ?_)
  · exact ⟨trivial, HKS.out _ (balloc b8 _)⟩
  clear hK K
  try simp only [Act.put, q1, q2, q3]
  refine rtk 10 ?_ ?_ ?_
  rotate_left
  · (intro wq hSq; (try dsimp only at hSq); go_split_ands; go_simp; (try with_reducible rfl))
  try simp only [Act.put, q1, q2, q3]
  refine wpAnyH_done (by kernel_rfl) (noPanic_mk ?_) _
  clear HKey HLay gn0 hs3 b6d bw6d b6 bw6 b7 hb7 hb8
  generalize hVI : Value.slice (some ⟨bB, oB + 30 + n0, none⟩) ni (cb - 30 - n0) = vi at HIdx ⊢
  obtain ⟨vi2, hvi2⟩ : ∃ vi2, vi2 = vi := ⟨_, rfl⟩
  rw [hadl] at hoa
  generalize hVA : Value.slice (some ⟨ga, 0, none⟩) 30 ca = va at hoa ⊢
  generalize hW9 : World.alloc _ _ = w9
  have rT9 : w9.heap[w8.heap.size]? = some (rowRd K va nilW vi) := by rw [← hW9]; exact heap_alloc_new w8 _
  have b89 : Below w8.heap.size w8 w9 := by rw [← hW9]; exact balloc (bself w8) _
  have z9 : w8.heap.size < w9.heap.size := by rw [← hW9]; simp
  clear hW9
  obtain ⟨np, hnp⟩ : ∃ np, np = Ps.length := ⟨_, rfl⟩
  have hidl := idxT_le Ps F hbd 0
  have hix : indexB leafB Ps F = num np ++ idxT Ps F 0 := by rw [hnp]; exact indexB_idx Ps F
  obtain ⟨ix, hixe⟩ : ∃ ix, ix = indexB leafB Ps F := ⟨_, rfl⟩
  have hixl : ix.length ≤ 2000000 := by have := num_length np; rw [hixe, hix, List.length_append]; omega
  obtain ⟨Ai, ci, hvf, _, _, _⟩ := id HIdx.out
  obtain ⟨li, hli⟩ : ∃ li, li = II.length := ⟨_, rfl⟩
  rw [← hli] at hvf
  subst hvf
  have HOp : Hid (Calls Tryz.prog 75 #[.pointer (some ⟨w8.heap.size, 0, none⟩), .int .i64 0, .slice Ai li ci] w9 fun e w' => ∃ r, e = .returned r ∧ OB w' w9.heap.size r ix ∧ Below w9.heap.size w9 w') := Lib.hid (by
    have hbw9 := bw8.trans (b89.mono bw8.size)
    refine kOpenP_any w8.heap.size 0 K ad ix II va nilW _ _ w9 rT9 hKl ((hoa.sb.on b89)) (HIdx.out.on hbw9) ?_ (by omega) (by omega) (by omega) (hk.on hbw9 h1) (by omega)
    rw [hixe]
    exact HALL.out.2.2.2.2.2.2.2.2.2.2.2.1)
  have HTX := Lib.hid (And.intro hix (And.intro hixe hnp))
  have c66 : w9.cell? ⟨w8.heap.size, 66, none⟩ = some (.slice Ai li ci) := (rd_cells rT9 hKl).2.1.2.2
  rw [← hnp] at hP0 hPn hidl
  have dnp : decide (0 < np) = true := by simp; omega
  have dnp' : decide ((0 : Int) < (np : Int)) = true := by simp; omega
  have HNM : Hid (∀ R W, RdrAt W R ix 0 → Calls Tryz.prog 76 #[.pointer (some ⟨R, 0, none⟩)] W fun e w' => e = .returned (.int .u64 (np : Int)) ∧ RdrAt w' R (idxT Ps F 0) 0 ∧ W.grownBy w' (some R)) := Lib.hid (fun R W hW => by
    have := mNum_any R ix 0 W hW
    rw [hixe, hix, sNum_num np _ (by omega)] at this
    exact this)
  have HLI := Lib.hid hli
  have HBD := Lib.hid hbd
  clear hli hnp hix hixe hVI hvi2 hbd
  go_upto_region 10 with (first | (go_at_call 75; refine HOp.out.mono ?_; rintro _ w10 ⟨r10, rfl, ho10, hb10⟩) | (go_at_call 73; refine (cNew_any _ _ _ ho10.sb (by omega)).mono ?_; rintro _ w11 ⟨RI, rfl, hRI, hrd11, hb11⟩))
  have hrdI := hrd11.at_
  clear c66 HOp
  go_upto_region 11 with (go_at_call 76; refine (HNM.out _ _ hrdI).mono ?_; rintro _ w12 ⟨rfl, hrd12, hg12⟩)
  go_upto_region 13 with (first | (go_at_call 77; refine (mFault_any _ _ _ _ hrd12).mono ?_; rintro _ w12 ⟨rfl, rfl⟩) | (go_at_call 62; refine (HNd.out _).mono ?_; rintro _ w12 ⟨rfl, rfl⟩))
  have z10 := hb10.size
  have z11 := hb11.size
  have z12 := hg12.size
  have bS : Below w8.heap.size w8 _ := below_grown ((b89.trans (hb10.mono (by omega))).trans (hb11.mono (by omega))) hg12 (by omega) (fun g e => by injection e with e; omega)
  have hRIl := hrdI.lt
  have hRI0 : w8.heap.size < RI := by omega
  have HB12 : Hid (BgAt _ w11.heap.size w8.heap.size RI K va (.slice Ai li ci) nilW nilW [] (idxT Ps F 0)) := Lib.hid (by
    have hbb : Below w9.heap.size w9 _ := below_grown (hb10.trans (hb11.mono z10)) hg12 (by omega) (fun g e => by injection e with e; omega)
    exact ⟨(hbb.block _ z9).trans rT9, OG.nil_ _ _ _ _ _, OD.nil_ _ _, hrd12, by omega, hRIl, .inl rfl⟩)
  have HHoa := Lib.hid hoa
  clear hrd12 hrdI hrd11 hg12 hb11 hb10 ho10 HNM dnp dnp' rT9 b89 hoa hs4 hRI
  go_wp2_with fail
  go_loopw [9, 16, 17] (fun sv lv iv wr => ∃ (k : Nat) (rows : List Rw) (vr : Value) (o' n' ck : Nat), iv = .int .u64 (k : Int) ∧ k ≤ np + 1 ∧ sv = .slice (some ⟨bB, o', none⟩) n' ck ∧ n' + 8 ≤ ck ∧ ck ≤ 9223372036854775807 ∧ n' ≤ 1073741824 ∧ Hid (n' = (bodT Ps F k).length ∧ SB w w.heap.size (.slice (some ⟨bB, o', none⟩) n' ck) (bodT Ps F k)) ∧ Hid (rows.map (fun x => (x.bound, x.bytes)) = (rowsT Ps F).take k ∧ ∀ x ∈ rows, SB w w.heap.size x.v x.bytes ∧ x.leaf = leafD x.bytes) ∧ Hid (BgAt wr w11.heap.size w8.heap.size RI K va (.slice Ai li ci) vr lv rows (idxT Ps F k)) ∧ Hid (rows.length = k) ∧ Below w8.heap.size w8 wr ∧ w11.heap.size ≤ wr.heap.size) (fun _ _ iv _ => np + 1 - (intOf iv).toNat)
  case atStart => exact ⟨0, [], nilW, oB + 30, n0, cb - 30, rfl, Nat.zero_le _, rfl, by have := HNB.out; omega, by omega, by omega, Lib.hid ⟨HBT.out.1, HBod.out⟩, Lib.hid ⟨by simp, fun x hx => by cases hx⟩, HB12, Lib.hid rfl, bS, by omega⟩
  case round =>
    obtain ⟨k, rows, vr, o', n', ck, rfl, hk1, rfl, hnck, hck, hn', HSB, HRW, HBG, HRL, hbr, hzr⟩ := hrel
    by_cases hlt : k ≤ np
    · have dk : decide (k ≤ np) = true := by simp; omega
      have hX0 : Hid (BxAt (wr.alloc (rowRw ⟨#[]⟩ nilW (List.replicate 32 0))) w11.heap.size w8.heap.size RI wr.heap.size K va (.slice Ai li ci) vr u16 rows (idxT Ps F k) ⟨#[]⟩ nilW (List.replicate 32 0)) := Lib.hid (HBG.out.box hzr _ _ _)
      have bX : Below w8.heap.size w8 (wr.alloc (rowRw ⟨#[]⟩ nilW (List.replicate 32 0))) := balloc hbr _
      have zX : (wr.alloc (rowRw ⟨#[]⟩ nilW (List.replicate 32 0))).heap.size = wr.heap.size + 1 := by simp
      go_upto_region 17 with fail
      have hwx0 : (wr.alloc (rowRw ⟨#[]⟩ nilW (List.replicate 32 0))) = (wr.alloc (.cells #[Value.string ⟨#[]⟩, Value.slice none 0 0, .int .u8 0, .int .u8 0, .int .u8 0, .int .u8 0, .int .u8 0, .int .u8 0, .int .u8 0, .int .u8 0, .int .u8 0, .int .u8 0, .int .u8 0, .int .u8 0, .int .u8 0, .int .u8 0, .int .u8 0, .int .u8 0, .int .u8 0, .int .u8 0, .int .u8 0, .int .u8 0, .int .u8 0, .int .u8 0, .int .u8 0, .int .u8 0, .int .u8 0, .int .u8 0, .int .u8 0, .int .u8 0, .int .u8 0, .int .u8 0, .int .u8 0, .int .u8 0] 101)) := rfl
      rw [hwx0] at hX0 bX zX
      clear hwx0
      generalize World.alloc _ _ = wx at hX0 bX zX ⊢
      generalize wr.heap.size = X at hX0 zX hzr ⊢
      clear dk
      go_upto_if 108 with fail
      go_cut [18] (fun xv wc => xv = .pointer (some ⟨X, 0, none⟩) ∧ Hid (BxAt wc w11.heap.size w8.heap.size RI X K va (.slice Ai li ci) vr u16 rows (midT Ps F k) ⟨(bndT Ps F k).toArray⟩ nilW (List.replicate 32 0)) ∧ Below w8.heap.size w8 wc ∧ wx.heap.size ≤ wc.heap.size)
      case first =>
        by_cases hk2 : k < np
        · have dk2 : decide (k < np) = true := by simp; omega
          have HStr : Hid (Calls Tryz.prog 78 #[.pointer (some ⟨RI, 0, none⟩), .int .i64 1024] wx fun e w' => e = .returned (.string ⟨(bndT Ps F k).toArray⟩) ∧ RdrAt w' RI (midT Ps F k) 0 ∧ wx.grownBy w' (some RI)) := Lib.hid (by
            have h1 := mStr_any RI (idxT Ps F k) 0 1024 wx hX0.out.bg.rdr (by omega)
            have hkp : k < Ps.length := by rw [← HTX.out.2.2]; exact hk2
            have hbk : (bndT Ps F k).length ≤ 1024 := by rw [bndT_lt Ps F k hkp]; exact HBD.out _ (List.getElem_mem hkp)
            rw [idxT_lt Ps F k hkp, sStr_str 1024 _ _ (by omega) (by omega)] at h1
            exact h1)
          go_wp2_with (go_at_call 78; refine HStr.out.mono ?_; rintro _ w13 ⟨rfl, hrd13, hg13⟩; have hX1 := hX0.out.step hg13 hrd13; obtain ⟨⟨c0, _⟩, _, cfz⟩ := rx_cells hX1.rX)
          go_meet
          refine ⟨rfl, Lib.hid (hX1.set0 _), ?_, by have := hg13.size; simpa using this⟩
          exact (below_grown bX hg13 (by omega) (fun g e => by injection e with e; omega)).setCell (by show w8.heap.size ≤ X; omega) _
        · have dk2 : decide (k < np) = false := by simp; omega
          have hkp : k = np := by omega
          go_wp2_with fail
          go_meet
          refine ⟨rfl, Lib.hid ?_, bX, Nat.le_refl _⟩
          have h := hX0.out
          rw [hkp, HTX.out.2.2, idxT_last] at h
          rw [hkp, HTX.out.2.2, bndT_last]
          exact h
      case rest =>
        obtain ⟨rfl, hXc, bc, zc⟩ := hcut
        obtain ⟨d, hd⟩ : ∃ d : Dg, d = leafD (bytT Ps F k) := ⟨_, rfl⟩
        obtain ⟨nz, hnz⟩ : ∃ nz, nz = (bytT Ps F k).length := ⟨_, rfl⟩
        have hkp : k ≤ Ps.length := by rw [← HTX.out.2.2]; exact hlt
        have hbst := bodT_step Ps F k hkp
        have hn3 : n' = nz + (bodT Ps F (k + 1)).length := by rw [HSB.out.1, hbst, List.length_append, hnz]
        obtain ⟨n3, hn3e⟩ : ∃ n3, n3 = (bodT Ps F (k + 1)).length := ⟨_, rfl⟩
        rw [← hn3e] at hn3
        have HSz : Hid (SB w w.heap.size (.slice (some ⟨bB, o', none⟩) nz ck) (bytT Ps F k) ∧ SB w w.heap.size (.slice (some ⟨bB, o' + nz, none⟩) n3 (ck - nz)) (bodT Ps F (k + 1))) := Lib.hid (by
          have h1 := HSB.out.2.takeN (k := nz) (by omega)
          have h2 := HSB.out.2.cutN (k := nz) (by omega) (by omega)
          rw [hbst, List.take_left' hnz.symm] at h1
          rw [hbst, List.drop_left' hnz.symm, show n' - nz = n3 by omega] at h2
          exact ⟨h1, h2⟩)
        have hnzn : nz ≤ n' := by omega
        have HN3 := Lib.hid (And.intro hn3 hn3e)
        have HD := Lib.hid (And.intro hd hnz)
        have HNum2 : Hid (Calls Tryz.prog 76 #[.pointer (some ⟨RI, 0, none⟩)] wc fun e w' => e = .returned (.int .u64 (nz : Int)) ∧ RdrAt w' RI (d.1 ++ idxT Ps F (k + 1)) 0 ∧ wc.grownBy w' (some RI)) := Lib.hid (by
          have h1 := mNum_any RI _ 0 wc hXc.out.bg.rdr
          unfold midT at h1
          rw [sNum_num _ _ (by omega), ← hnz] at h1
          rw [hd]
          exact h1)
        clear hd hnz hbst hn3 hn3e
        go_upto_region 20 with (go_at_call 76; refine HNum2.out.mono ?_; rintro _ w14 ⟨rfl, hrd14, hg14⟩)
        have hX14 := Lib.hid (hXc.out.step hg14 hrd14)
        have b14 : Below w8.heap.size w8 w14 := below_grown bc hg14 (by omega) (fun g e => by injection e with e; omega)
        have z14 := hg14.size
        clear HNum2 hrd14 hg14
        go_wp2_with fail
        go_loopw [114] (fun jv wz => ∃ j : Nat, jv = .int .i64 (j : Int) ∧ j ≤ 32 ∧ Hid (BxAt wz w11.heap.size w8.heap.size RI X K va (.slice Ai li ci) vr u16 rows (d.1.drop j ++ idxT Ps F (k + 1)) ⟨(bndT Ps F k).toArray⟩ nilW (upTo 32 d.1 j)) ∧ Below w8.heap.size w8 wz ∧ wx.heap.size ≤ wz.heap.size) (fun jv _ => 32 - (intOf jv).toNat)
        case atStart => exact ⟨0, rfl, Nat.zero_le _, Lib.hid (by rw [upTo_0, List.drop_zero]; exact hX14.out), b14, by omega⟩
        case round =>
          obtain ⟨j, rfl, hj, hXj, bj, zj⟩ := hrel
          by_cases hj2 : j < 32
          · have hjl : j < d.1.length := by rw [d.2]; exact hj2
            obtain ⟨bj0, hbj0⟩ : ∃ bj0, bj0 = d.1[j] := ⟨_, rfl⟩
            have HFx : Hid (Calls Tryz.prog 74 #[.pointer (some ⟨RI, 0, none⟩), .int .i64 1] wr fun e w' => e = .returned (.int .u64 (bj0.toNat : Int)) ∧ RdrAt w' RI (d.1.drop (j + 1) ++ idxT Ps F (k + 1)) 0 ∧ wr.grownBy w' (some RI)) := Lib.hid (by
              have h1 := mFix_any RI _ 0 1 wr hXj.out.bg.rdr (by omega) (by omega)
              rw [List.drop_eq_getElem_cons hjl, List.cons_append, sFix_one, ← hbj0] at h1
              exact h1)
            have hu0 := upTo_get d.2 hj2
            have hus : (upTo 32 d.1 j).set j bj0 = upTo 32 d.1 (j + 1) := upTo_step d.2 hj2 (by rw [hbj0, List.getElem?_eq_getElem hjl])
            have gb : IntKind.u8.wrap (bj0.toNat : Int) = (bj0.toNat : Int) := by have := u8_lt bj0; rw [IntKind.wrap_u8]; omega
            have HU := Lib.hid hus
            have HC0 : Hid ((bv (upTo 32 d.1 j))[j]? = some (u8v 0)) := Lib.hid (by unfold bv; rw [List.getElem?_map, hu0]; rfl)
            have hji : (j : Int) < 32 := by omega
            clear hbj0 hus hjl hu0
            go_wp2_with (go_at_call 74; refine HFx.out.mono ?_; rintro _ w15 ⟨rfl, hrd15, hg15⟩; have hX15 := hXj.out.step hg15 hrd15; obtain ⟨_, crg, cfz⟩ := rx_cells hX15.rX; have cj := crg j (u8v 0) HC0.out)
            have b15 : Below w8.heap.size w8 w15 := below_grown bj hg15 (by omega) (fun g e => by injection e with e; omega)
            have hX16 := hX15.set2 j bj0
            rw [HU.out] at hX16
            go_roundw
            case rel => exact ⟨j + 1, by go_num, by omega, Lib.hid hX16, b15.setCell (by show w8.heap.size ≤ X; omega) _, by have := hg15.size; simpa using Nat.le_trans zj this⟩
            case measure => simp [intOf]; omega
          · obtain rfl : j = 32 := by omega
            have hji : ¬ ((32 : Int) < 32) := by omega
            have hXe : Hid (BxAt wr w11.heap.size w8.heap.size RI X K va (.slice Ai li ci) vr u16 rows (idxT Ps F (k + 1)) ⟨(bndT Ps F k).toArray⟩ nilW d.1) := Lib.hid (by
              have h := hXj.out
              rw [upTo_n d.2, List.drop_of_length_le (by rw [d.2]; omega), List.nil_append] at h
              exact h)
            have hnzi : decide (nz ≤ n') = true := by simp; omega
            have gn' : IntKind.u64.wrap (n' : Int) = (n' : Int) := by rw [IntKind.wrap_u64]; omega
            have hrdr := hXe.out.bg.rdr
            clear hXj hj hj2 hX14 b14 z14
            go_upto_region 26 with (first | (go_at_call 77; refine (mFault_any _ _ _ _ hrdr).mono ?_; rintro _ w16 ⟨rfl, rfl⟩) | (go_at_call 62; refine (HNd.out _).mono ?_; rintro _ w16 ⟨rfl, rfl⟩))
            have hs5 : ∀ W, (Instr.sliceAt 56 (.slice (some ⟨bB, o', none⟩) n' ck) none (some (.int .u64 (nz : Int))) none).run Tryz.prog W = .ok (.slice (some ⟨bB, o', none⟩) nz ck) W := fun W => run_headN W _ n' ck nz .u64 (by omega)
            have hs6 : ∀ W, (Instr.sliceAt 56 (.slice (some ⟨bB, o', none⟩) n' ck) (some (.int .u64 (nz : Int))) none none).run Tryz.prog W = .ok (.slice (some ⟨bB, o' + nz, none⟩) n3 (ck - nz)) W := fun W => by
              have h := run_cutN W bB o' n' ck nz .u64 (by omega) (by omega)
              rw [show n' - nz = n3 by have := HN3.out.1; omega] at h
              exact h
            have gnz : IntKind.i64.wrap (nz : Int) = (nz : Int) := by rw [IntKind.wrap_i64]; omega
            have hXd := hXe.out.drew
            obtain ⟨⟨_, c1⟩, _, cfz⟩ := rx_cells hXd.rX
            have hXs := (hXe.out.set1 (.slice (some ⟨bB, o', none⟩) nz ck)).drew
            have bjs := bdrew' (bj.setCell (p := ⟨X, 1, none⟩) (by show w8.heap.size ≤ X; omega) (.slice (some ⟨bB, o', none⟩) nz ck))
            have zjs := (Array.getElem?_eq_some_iff.1 hXs.rX).1
            clear hnzi gn' hrdr hXe hXd
            refine wp_region_noPanic ?_
            refine wp_region_held_drew (S := fun W => True ∧ True) (by kernel_rfl) ⟨trivial, trivial⟩ (fun hHeld => ?_)
            refine rtk 0 ?_ ?_ ?_
            rotate_left
            · (intro wq hSq; (try dsimp only at hSq); go_split_ands; go_simp; (try with_reducible rfl))
            try simp only [Act.put, q1, q2, q3]
            refine rtk 1 ?_ ?_ ?_
            rotate_left
            · (intro wq hSq; (try dsimp only at hSq); go_split_ands; go_simp; (try with_reducible rfl))
            try simp only [Act.put, q1, q2, q3]
            refine rtk 2 ?_ ?_ ?_
            rotate_left
            · (intro wq hSq; (try dsimp only at hSq); go_split_ands; go_simp; (try with_reducible rfl))
            try simp only [Act.put, q1, q2, q3]
            refine rtk 3 ?_ ?_ ?_
            rotate_left
            · (intro wq hSq; (try dsimp only at hSq); go_split_ands; go_simp; (try with_reducible rfl))
            try simp only [Act.put, q1, q2, q3]
            refine rtk 4 ?_ ?_ ?_
            rotate_left
            · (intro wq hSq; (try dsimp only at hSq); go_split_ands; go_simp; (try with_reducible rfl))
            try simp only [Act.put, q1, q2, q3]
            refine rtk 5 ?_ ?_ ?_
            rotate_left
            · (intro wq hSq; (try dsimp only at hSq); go_split_ands; go_simp; (try with_reducible rfl))
            try simp only [Act.put, q1, q2, q3]
            refine rtk 6 ?_ ?_ ?_
            rotate_left
            · (intro wq hSq; (try dsimp only at hSq); go_split_ands; go_simp; (try with_reducible rfl))
            try simp only [Act.put, q1, q2, q3]
            refine reg_one 7 (by rfl) (by kernel_rfl) (by rfl) (fun K hK => ?_)
            (go_simp)
            refine hK.out _ _ ?_ (fun hHeld => ?_)
            · exact ⟨trivial, trivial⟩
            clear hK K
            try simp only [Act.put, q1, q2, q3]
            refine rtk 8 ?_ ?_ ?_
            rotate_left
            · (intro wq hSq; (try dsimp only at hSq); go_split_ands; go_simp; (try with_reducible rfl))
            try simp only [Act.put, q1, q2, q3]
            refine wpAnyH_done (by kernel_rfl) (noPanic_mk ?_) _
            generalize hW17 : World.drew _ = w17
            rw [hW17] at hXs bjs zjs
            clear hW17 hs5 hs6 gnz c1 cfz hHeld
            go_upto_region 27 with fail
            obtain ⟨Ar, crr, rfl, _, hcrr⟩ := hXs.bg.orow.sg.form
            have c65 := (rd_cells hXs.bg.row hKl).2.1.2.1
            obtain ⟨x, hx⟩ : ∃ x : Rw, x = ⟨bndT Ps F k, bytT Ps F k, .slice (some ⟨bB, o', none⟩) nz ck, d⟩ := ⟨_, rfl⟩
            obtain ⟨xc, hxc⟩ : ∃ xc, xc = (rwC x).toArray := ⟨_, rfl⟩
            have hrX : w17.heap[X]? = some (.cells xc 101 (0, 0)) := by rw [hxc, hx]; exact hXs.rX
            have hxs : xc.size = 34 := by rw [hxc, List.size_toArray]; exact rwC_length x
            have hx1 : ∀ y ∈ [x], ∀ u ∈ rwC y, u.oneCell' = true := fun y hy => by
              rw [List.mem_singleton.1 hy]
              exact rw_one (by rw [hx]; rfl)
            have HXX := Lib.hid (And.intro hx hxc)
            have HXs := Lib.hid hXs
            have hor7 : OG 101 rwC 34 (w17.drew.alloc (.cells xc 101)) w11.heap.size (.slice Ar rows.length crr) rows := hXs.bg.orow.drew.alloc _
            have hsg7 : SG rwC 34 (w17.drew.alloc (.cells xc 101)) (w17.drew.heap.size + 1) (.slice (some ⟨w17.drew.heap.size, 0, none⟩) 1 1) [x] := by
              have := SG.new1 w17.drew rwC 34 101 x (rwC_length x) (g := w17.drew.heap.size) rfl (Nat.lt_succ_self _)
              rw [← hxc] at this
              exact this
            have hRlt := (Array.getElem?_eq_some_iff.1 hXs.bg.row).1
            have c65a : (w17.drew.alloc (.cells xc 101)).cell? ⟨w8.heap.size, 65, none⟩ = some (.slice Ar rows.length crr) := (World.cell?_alloc_lt w17.drew _ _ (by show w8.heap.size < w17.heap.size; omega)).trans c65
            have hlen7 : rows.length + [x].length ≤ maxLen := by have := HRL.out; simp only [List.length_cons, List.length_nil, maxLen]; omega
            have hby7 : (rows.length + [x].length) * 72 ≤ 140737488355328 := by have := HRL.out; simp only [List.length_cons, List.length_nil]; omega
            have hbz7 : w11.heap.size ≤ (w17.drew.alloc (.cells xc 101)).heap.size := by rw [World.size_alloc]; show _ ≤ w17.heap.size + 1; omega
            clear hx hxc hXs
            refine wp_region_noPanic ?_
            refine wp_regionG (fun w' => w'.cell? ⟨w8.heap.size, 65, none⟩ = some (.slice Ar rows.length crr)) [7, 8, 9, 10] (by kernel_rfl) c65 (fun hHeld => ?_)
            refine regG_pure 0 (v := ?_) (by rfl) (by kernel_rfl) (by kernel_rfl) (by kernel_rfl) (by kernel_rfl) (fun _ _ _ h => h) (by rfl) ?_ (by assumption) ?_
            rotate_left
            · (intro wq; go_simp; (try with_reducible rfl))
            try simp only [Act.put, q1, q2, q3]
            refine regG_pure 1 (v := ?_) (by rfl) (by kernel_rfl) (by kernel_rfl) (by kernel_rfl) (by kernel_rfl) (fun _ _ _ h => h) (by rfl) ?_ (by assumption) ?_
            rotate_left
            · (intro wq; go_simp; (try with_reducible rfl))
            try simp only [Act.put, q1, q2, q3]
            refine regG_pure 2 (v := ?_) (by rfl) (by kernel_rfl) (by kernel_rfl) (by kernel_rfl) (by kernel_rfl) (fun _ _ _ h => h) (by rfl) ?_ (by assumption) ?_
            rotate_left
            · (intro wq; go_simp; (try with_reducible rfl))
            try simp only [Act.put, q1, q2, q3]
            refine regG_pure 3 (v := ?_) (by rfl) (by kernel_rfl) (by kernel_rfl) (by kernel_rfl) (by kernel_rfl) (fun _ _ _ h => h) (by rfl) ?_ (by assumption) ?_
            rotate_left
            · (intro wq; go_simp; (try with_reducible rfl))
            try simp only [Act.put, q1, q2, q3]
            refine regG_take 4 (v := ?_) (by rfl) (by kernel_rfl) (by kernel_rfl) (by kernel_rfl) (by kernel_rfl) (by kernel_rfl) (fun _ _ _ h => h) (by rfl) ?_ (by assumption) ?_
            rotate_left
            · (intro wq hSq; (try dsimp only at hSq); go_split_ands; go_simp; (try with_reducible rfl))
            try simp only [Act.put, q1, q2, q3]
            refine regG_one 5 (by rfl) (by kernel_rfl) (by rfl) (fun K hK => ?_)
            (refine wp_of_exec (exec_loadRow 101 (c := 34) Tryz.underlying101 rfl (by kernel_rfl) (.tmp 18) rfl X rfl xc hrX hxs) ?_)
            refine hK.out _ _ ?_ (fun hHeld => ?_)
            · exact c65
            clear hK K
            try simp only [Act.put, q1, q2, q3]
            refine regG_one 6 (by rfl) (by kernel_rfl) (by rfl) (fun K hK => ?_)
            (refine wp_buildG (c := 34) 94 101 _ 72 infoRw Tryz.underlying94 (by omega) (by omega) (by omega) (.tmp 147) rfl xc rfl hxs ?_)
            refine hK.out _ _ ?_ (fun hHeld => ?_)
            · exact c65a
            clear hK K
            try simp only [Act.put, q1, q2, q3]
            refine regG_last (S := fun _ => True ∧ True) 7 (by rfl) (by kernel_rfl) (by rfl) (by kernel_rfl) (fun K hK => ?_)
            (refine wp_appG 94 101 _ 72 infoRw Tryz.underlying94 (by rfl) (by omega) (.tmp 146) (.tmp 148) rfl w11.heap.size _ rows rfl hor7 (w17.drew.heap.size + 1) _ [x] hx1 rfl hsg7 hlen7 hby7 hbz7 ?_; intro vr' w18 ho18 hg18 hs18 hb18)
            refine hK.out _ _ ?_ (fun hHeld => ?_)
            · exact ⟨trivial, trivial⟩
            clear hK K
            try simp only [Act.put, q1, q2, q3]
            obtain ⟨g18, c18, rfl⟩ := ho18.form0 (by simp)
            have gl18 : w17.grownBy w18 (Value.ownBlock (.slice Ar rows.length crr)) := ((show w17.grownBy w17.drew _ from ⟨rfl, rfl, rfl, Nat.le_refl _, fun _ _ _ => rfl⟩).trans (World.grownBy_alloc w17.drew _ _)).trans hg18
            have hfs18 : FS w17.heap.size (.slice Ar rows.length crr) (.slice (some ⟨g18, 0, none⟩) (rows ++ [x]).length c18) := hs18.imp id (fun e => ⟨_, e, by rw [World.size_alloc]; show w17.heap.size ≤ w17.heap.size + 1; omega⟩)
            have hp := HXs.out.bg.push hKl ho18 gl18 hfs18
            have hr18 := HXs.out.bg.rowKeep gl18
            obtain ⟨_, ⟨_, e65, _⟩, fz18, _⟩ := rd_cells hr18 hKl
            have hX18 : w18.heap[X]? = some (.cells xc 101 (0, 0)) := (gl18.block X zjs (fun e => HXs.out.nr e.symm)).trans hrX
            have hX19 : (w18.setCell ⟨w8.heap.size, 65, none⟩ (.slice (some ⟨g18, 0, none⟩) (rows ++ [x]).length c18)).heap[X]? = some (.cells xc 101 (0, 0)) := (Below.heap_setCell _ _ _ _ (by have := HXs.out.bg.lo; have := HXs.out.bg.hi; have := HXs.out.hX; show X ≠ w8.heap.size; omega)).trans hX18
            have b19 := HXs.out.bg.belowPush (v := .slice (some ⟨g18, 0, none⟩) (rows ++ [x]).length c18) bjs gl18 (Nat.le_refl _) (by omega)
            have z19 : w17.heap.size ≤ (w18.setCell ⟨w8.heap.size, 65, none⟩ (.slice (some ⟨g18, 0, none⟩) (rows ++ [x]).length c18)).heap.size := by have := gl18.size; simpa [World.setCell] using this
            have el18 : (rows ++ [x]).length = rows.length + 1 := by simp
            rw [el18] at hp hX19 b19 z19 ⊢
            have HP := Lib.hid (And.intro hp (And.intro hX19 (And.intro b19 z19)))
            clear hp hX19 b19 z19 hr18 hX18 gl18 hfs18 hg18 hs18 hb18 ho18 el18 hx1 hor7 hsg7 c65a c65 hlen7 hby7 hbz7 bjs
            refine rtk 8 ?_ ?_ ?_
            rotate_left
            · (intro wq hSq; (try dsimp only at hSq); go_split_ands; go_simp; (try with_reducible rfl))
            try simp only [Act.put, q1, q2, q3]
            refine rtk 9 ?_ ?_ ?_
            rotate_left
            · (intro wq hSq; (try dsimp only at hSq); go_split_ands; go_simp; (try with_reducible rfl))
            try simp only [Act.put, q1, q2, q3]
            refine reg_one 10 (by rfl) (by kernel_rfl) (by rfl) (fun K hK => ?_)
            (go_simp)
            refine hK.out _ _ ?_ (fun hHeld => ?_)
            · exact ⟨trivial, trivial⟩
            clear hK K
            try simp only [Act.put, q1, q2, q3]
            refine wpAnyH_done (by kernel_rfl) (noPanic_mk ?_) _
            obtain ⟨⟨p1, p2, p3, p4, p5⟩, hX19, b19, z19⟩ := HP.out
            generalize hW19 : World.setCell _ _ _ = w19
            rw [hW19] at p1 p2 p3 p4 hX19 b19 z19
            clear hW19 HP
            obtain ⟨lvs, hlvs⟩ : ∃ lvs, lvs = rows.map (·.leaf) := ⟨_, rfl⟩
            rw [← hlvs] at p3
            have hlvl : lvs.length ≤ 1001 := by have := HRL.out; rw [hlvs, List.length_map]; omega
            obtain ⟨Al, cl, rfl, _⟩ := p3.sd.form
            have HLV := Lib.hid hlvs
            have HP5 := Lib.hid (And.intro p1 (And.intro p2 (And.intro p4 (And.intro p5 b19))))
            have hrg19 : w19.rangeAt X 2 (bv d.1) := by
              have h := (rw_cells (x := x) hX19 HXX.out.2.symm).2.2
              rw [HXX.out.1] at h
              exact h
            have hdd : dgA d.1 = dgA d.1 := rfl
            have hbz19 : w11.heap.size ≤ w19.heap.size := by omega
            have hll : (lvs.length + 1) * 32 ≤ 140737488355328 := by omega
            have gk : IntKind.u64.wrap ((k : Int) + 1) = (k : Int) + 1 := by rw [IntKind.wrap_u64]; omega
            clear p1 p2 p4 p5 hX19 hlvs e65 fz18
            go_upto_region 15 with (first | (refine wl_loadM rfl (.tmp 153) rfl X 2 rfl d hrg19 ?_) | (refine wl_buildD rfl (.tmp 154) rfl (dgA d.1) rfl (dgA_n d) ?_) | (at_builtin; go_loud (refine wl_appD1 rfl (.tmp 152) (.tmp 155) rfl w11.heap.size _ lvs rfl p3 d _ rfl rfl rfl hll hbz19 ?_); intro vl' w20 ho20 hg20 hs20 hb20))
            have hz20 := hb20.size
            have HBG' : Hid (BgAt w20 w11.heap.size w8.heap.size RI K va (.slice Ai li ci) (.slice (some ⟨g18, 0, none⟩) (rows.length + 1) c18) vl' (rows ++ [x]) (idxT Ps F (k + 1))) := Lib.hid (by
              obtain ⟨p1, p2, p4, p5, _⟩ := HP5.out
              exact BgAt.leaf p1 p2 p3 p4 p5 HXs.out.bg.lo HXs.out.bg.hi ho20 hg20 (hs20.imp id (fun e => ⟨_, e, by omega⟩)) (by rw [HLV.out, List.map_append, HXX.out.1]; rfl))
            have HRW' : Hid ((rows ++ [x]).map (fun x => (x.bound, x.bytes)) = (rowsT Ps F).take (k + 1) ∧ ∀ y ∈ rows ++ [x], SB w w.heap.size y.v y.bytes ∧ y.leaf = leafD y.bytes) := Lib.hid (by
              refine ⟨by rw [List.map_append, HRW.out.1, rowsT_take Ps F k hkp, HXX.out.1]; rfl, fun y hy => ?_⟩
              rcases List.mem_append.1 hy with hy | hy
              · exact HRW.out.2 y hy
              · rw [List.mem_singleton.1 hy, HXX.out.1]
                exact ⟨HSz.out.1, HD.out.1⟩)
            have HRL' : Hid ((rows ++ [x]).length = k + 1) := Lib.hid (by have := HRL.out; simp; omega)
            have b20 : Below w8.heap.size w8 w20 := HP5.out.2.2.2.2.trans (hb20.mono (by omega))
            have hn3l : n3 ≤ n' := by have := HN3.out.1; omega
            have hn3c : n3 + 8 ≤ ck - nz := by have := HN3.out.1; omega
            have hz11 : w11.heap.size ≤ w20.heap.size := by omega
            clear p3 ho20 hg20 hs20 hb20 hz20 hrg19 hdd hll
            go_wp2_with fail
            clear gk
            go_roundw
            case rel => exact ⟨k + 1, rows ++ [x], _, o' + nz, n3, ck - nz, by go_num, by omega, rfl, hn3c, by omega, by omega, Lib.hid ⟨HN3.out.2, HSz.out.2⟩, HRW', HBG', HRL', b20, hz11⟩
            case measure => simp [intOf]; omega
    · obtain rfl : k = np + 1 := by omega
      have hnp : np = Ps.length := HTX.out.2.2
      obtain rfl : n' = 0 := by
        have h := HSB.out.1
        rw [hnp, bodT_end] at h
        exact h
      have HRW2 : Hid (rows.map (fun x => (x.bound, x.bytes)) = rowsT Ps F) := Lib.hid (by rw [HRW.out.1, hnp, List.take_of_length_le (by rw [rowsT_length]; omega)])
      have hrdE : RdrAt wr RI [] 0 := by
        have h := HBG.out.rdr
        rw [hnp, idxT_end] at h
        exact h
      obtain ⟨lvs, hlvs⟩ : ∃ lvs, lvs = rows.map (·.leaf) := ⟨_, rfl⟩
      have hlvl : lvs.length ≤ 1001 := by have := HRL.out; rw [hlvs, List.length_map]; omega
      have HLE : Hid (lvs ++ [leafD II] = Ps.map (fun p => leafD p.bytes) ++ [leafD F, leafD II]) := Lib.hid (by
        have h1 : rows.map (·.leaf) = (rows.map (fun x => (x.bound, x.bytes))).map (fun q => leafD q.2) := by
          rw [List.map_map]
          exact List.map_congr_left (fun x hx => (HRW.out.2 x hx).2)
        rw [hlvs, h1, HRW2.out]
        simp [rowsT])
      have hod := HBG.out.olv
      rw [← hlvs] at hod
      obtain ⟨Al, cl, rfl, _⟩ := hod.sd.form
      obtain ⟨rt, hrt⟩ : ∃ rt : Dg, rt = rootR jnD zD (lvs ++ [leafD II]) := ⟨_, rfl⟩
      have HMR : Hid (m.root = rt.1) := Lib.hid (by rw [hrt, HLE.out]; exact HALL.out.2.2.2.2.2.2.1)
      have HB8 : Hid (Below w2.heap.size w2 wr) := Lib.hid (b8.trans (hbr.mono b8.size))
      have bw8r : Below w.heap.size w wr := bw8.trans (hbr.mono bw8.size)
      have z8 := bw8.size
      have hMlt : w.heap.size + 1 < w8.heap.size := by have := b8.size; omega
      have KS : Hid (∀ W, Below w8.heap.size wr W → W.heap[w8.heap.size]? = wr.heap[w8.heap.size]? → W.cell? ⟨w8.heap.size, 66, none⟩ = some (.slice Ai li ci) ∧ W.rangeAt (w.heap.size + 1) 8 (bv rt.1)) := Lib.hid (fun W hW hR => by
        refine ⟨(rd_cells (hR.trans HBG.out.row) hKl).2.1.2.2, ?_⟩
        have h1 := (HKS.out _ HB8.out).2.1
        have h2 := (mt_cells ((hW.block _ hMlt).trans h1) HALL.out.2.2.2.2.2.2.2.2.1).2
        rw [HMR.out] at h2
        exact h2)
      obtain ⟨cI, hcI⟩ : ∃ cI, dgA (leafD II).1 = cI := ⟨_, rfl⟩
      have HcI : Hid (cI.size = 32) := Lib.hid (by rw [← hcI]; exact dgA_n _)
      have HLfI : Hid (Calls Tryz.prog 80 #[.slice Ai li ci] wr.drew fun e w' => e = .returned (.agg cI) ∧ Below wr.drew.heap.size wr.drew w') := Lib.hid (kLeaf_any II cI hcI _ wr.drew (HIdx.out.on (bdrew bw8r)) (by have := HBT.out.2.1; omega) (hk.on (bdrew bw8r) h1) (by show _ < wr.heap.size; have := bw8r.size; omega))
      have HEnd : Hid (Calls Tryz.prog 79 #[.pointer (some ⟨RI, 0, none⟩)] wr.drew fun e w' => e = .returned (.int .i64 0) ∧ w' = wr.drew) := Lib.hid (mEnd_any RI [] 0 wr.drew (hrdE.drewN 1))
      have HEq : Hid (∀ w', (Op.equalIn 10000 53 (.agg (dgA rt.1)) (.agg (dgA rt.1))).run Tryz.prog w' = .ok true w') := Lib.hid (fun w' => run_eqC w' _ rt.1 rt.2 rfl)
      have hEq := HEq.out
      have hll : (lvs.length + 1) * 32 ≤ 140737488355328 := by omega
      have HLV := Lib.hid (And.intro hlvs (And.intro hrt hcI))
      have HOD := Lib.hid hod
      clear hlvs hrt hcI hod hrdE
      go_upto_region 29 with fail
      refine wp_region_noPanic ?_
      refine wp_region_held_drew (S := fun W => True ∧ W.cell? ⟨w8.heap.size, 66, none⟩ = some (.slice Ai li ci) ∧ W.rangeAt (w.heap.size + 1) 8 (bv rt.1)) (by kernel_rfl) ⟨trivial, KS.out _ (bdrew' (Below.refl _ _)) rfl⟩ (fun hHeld => ?_)
      refine rtk 0 ?_ ?_ ?_
      rotate_left
      · (intro wq hSq; (try dsimp only at hSq); go_split_ands; go_simp; (try with_reducible rfl))
      try simp only [Act.put, q1, q2, q3]
      refine reg_one 1 (by rfl) (by kernel_rfl) (by rfl) (fun K hK => ?_)
      (go_simp; go_at_call 79; refine HEnd.out.mono ?_; rintro _ w21 ⟨rfl, rfl⟩; go_wp2_with fail)
      refine hK.out _ _ ?_ (fun hHeld => ?_)
      · exact ⟨trivial, KS.out _ (bdrew' (Below.refl _ _)) rfl⟩
      clear hK K
      try simp only [Act.put, q1, q2, q3]
      refine rtk 2 ?_ ?_ ?_
      rotate_left
      · (intro wq hSq; (try dsimp only at hSq); go_split_ands; go_simp; (try with_reducible rfl))
      try simp only [Act.put, q1, q2, q3]
      refine rtk 3 ?_ ?_ ?_
      rotate_left
      · (intro wq hSq; (try dsimp only at hSq); go_split_ands; go_simp; (try with_reducible rfl))
      try simp only [Act.put, q1, q2, q3]
      refine rtk 4 ?_ ?_ ?_
      rotate_left
      · (intro wq hSq; (try dsimp only at hSq); go_split_ands; go_simp; (try with_reducible rfl))
      try simp only [Act.put, q1, q2, q3]
      refine rtk 5 ?_ ?_ ?_
      rotate_left
      · (intro wq hSq; (try dsimp only at hSq); go_split_ands; go_simp; (try with_reducible rfl))
      try simp only [Act.put, q1, q2, q3]
      refine rtk 6 ?_ ?_ ?_
      rotate_left
      · (intro wq hSq; (try dsimp only at hSq); go_split_ands; go_simp; (try with_reducible rfl))
      try simp only [Act.put, q1, q2, q3]
      refine rtk 7 ?_ ?_ ?_
      rotate_left
      · (intro wq hSq; (try dsimp only at hSq); go_split_ands; go_simp; (try with_reducible rfl))
      try simp only [Act.put, q1, q2, q3]
      refine rtk 8 ?_ ?_ ?_
      rotate_left
      · (intro wq hSq; (try dsimp only at hSq); go_split_ands; go_simp; (try with_reducible rfl))
      try simp only [Act.put, q1, q2, q3]
      refine rtk 9 ?_ ?_ ?_
      rotate_left
      · (intro wq hSq; (try dsimp only at hSq); go_split_ands; go_simp; (try with_reducible rfl))
      try simp only [Act.put, q1, q2, q3]
      refine rtk 10 ?_ ?_ ?_
      rotate_left
      · (intro wq hSq; (try dsimp only at hSq); go_split_ands; go_simp; (try with_reducible rfl))
      try simp only [Act.put, q1, q2, q3]
      refine rtk 11 ?_ ?_ ?_
      rotate_left
      · (intro wq hSq; (try dsimp only at hSq); go_split_ands; go_simp; (try with_reducible rfl))
      try simp only [Act.put, q1, q2, q3]
      refine rtk 12 ?_ ?_ ?_
      rotate_left
      · (intro wq hSq; (try dsimp only at hSq); go_split_ands; go_simp; (try with_reducible rfl))
      try simp only [Act.put, q1, q2, q3]
      refine rtk 13 ?_ ?_ ?_
      rotate_left
      · (intro wq hSq; (try dsimp only at hSq); go_split_ands; go_simp; (try with_reducible rfl))
      try simp only [Act.put, q1, q2, q3]
      refine rtk 18 ?_ ?_ ?_
      rotate_left
      · (intro wq hSq; (try dsimp only at hSq); go_split_ands; go_simp; (try with_reducible rfl))
      try simp only [Act.put, q1, q2, q3]
      refine reg_take 19 (v := .agg (dgA rt.1)) (by rfl) (by kernel_rfl) (by kernel_rfl) (by kernel_rfl) (fun _ _ _ h => h) (by rfl) ?_ (by assumption) ?_
      · (intro wq hSq; exact exec_loadM (.tmp 175) rfl (w.heap.size + 1) 8 rfl rt hSq.2.2)
      try simp only [Act.put, q1, q2, q3]
      have hRw : w8.heap.size < wr.heap.size := (Array.getElem?_eq_some_iff.1 HBG.out.row).1
      have hz8r : w8.heap.size ≤ wr.heap.size := Nat.le_of_lt hRw
      have KS1 : Hid (∀ W, Below wr.heap.size wr W → W.cell? ⟨w8.heap.size, 66, none⟩ = some (.slice Ai li ci) ∧ W.rangeAt (w.heap.size + 1) 8 (bv rt.1)) := Lib.hid (fun W hW => KS.out W (hW.mono hz8r) (hW.block _ hRw))
      refine reg_one 14 (by rfl) (by kernel_rfl) (by rfl) (fun K hK => ?_)
      (go_simp; go_at_call 80; refine HLfI.out.mono ?_; rintro _ w22 ⟨rfl, hb22⟩; have b22 := bstep (bdrew (bself wr)) hb22; go_wp2_with fail)
      refine hK.out _ _ ?_ (fun hHeld => ?_)
      · exact ⟨trivial, KS1.out _ b22⟩
      clear hK K
      try simp only [Act.put, q1, q2, q3]
      have b22a : Below wr.heap.size wr (w22.alloc (.cells cI 53)) := balloc b22 _
      have z22 := b22.size
      refine reg_one 15 (by rfl) (by kernel_rfl) (by rfl) (fun K hK => ?_)
      (refine wp_buildD (.tmp 171) rfl cI rfl HcI.out ?_)
      refine hK.out _ _ ?_ (fun hHeld => ?_)
      · exact ⟨trivial, KS1.out _ b22a⟩
      clear hK K
      try simp only [Act.put, q1, q2, q3]
      have hod22 : OD (w22.alloc (.cells cI 53)) w11.heap.size (.slice Al lvs.length cl) lvs := OD.below HOD.out b22a (Nat.le_refl _)
      have hsd22 : SD (w22.alloc (.cells cI 53)) (w22.heap.size + 1) (.slice (some ⟨w22.heap.size, 0, none⟩) 1 1) [leafD II] := by rw [← HLV.out.2.2]; exact SD.new1 w22 (leafD II) rfl (Nat.lt_succ_self _)
      have hbz22 : w11.heap.size ≤ (w22.alloc (.cells cI 53)).heap.size := by rw [World.size_alloc]; omega
      have hbg22 : BgAt (w22.alloc (.cells cI 53)) w11.heap.size w8.heap.size RI K va (.slice Ai li ci) vr (.slice Al lvs.length cl) rows _ := HBG.out.on b22a
      have HG24 : Hid (∀ W, (w22.alloc (.cells cI 53)).grownBy W (Value.ownBlock (.slice Al lvs.length cl)) → Below w11.heap.size (w22.alloc (.cells cI 53)) W → W.heap[w8.heap.size]? = some (rowRd K va vr (.slice Ai li ci)) ∧ OG 101 rwC 34 W w11.heap.size vr rows ∧ Below w8.heap.size wr W ∧ Below w8.heap.size w8 W) := Lib.hid (fun W hg hb => by
        have hlo := hbg22.lo
        have hhi := hbg22.hi
        have hb2 : Below w8.heap.size wr W := (b22a.mono hz8r).trans (hb.mono (by omega))
        refine ⟨(hg.block _ (Array.getElem?_eq_some_iff.1 hbg22.row).1 (fun e => by have := (hod22.lt _ e.symm).1; omega)).trans hbg22.row, hbg22.orow.grown hg hbg22.ap, hb2, hbr.trans hb2⟩)
      have KS2 : Hid (∀ W, (w22.alloc (.cells cI 53)).grownBy W (Value.ownBlock (.slice Al lvs.length cl)) → Below w11.heap.size (w22.alloc (.cells cI 53)) W → W.cell? ⟨w8.heap.size, 66, none⟩ = some (.slice Ai li ci) ∧ W.rangeAt (w.heap.size + 1) 8 (bv rt.1)) := Lib.hid (fun W hg hb => by
        obtain ⟨h1, _, h3, _⟩ := HG24.out W hg hb
        exact KS.out W h3 (h1.trans HBG.out.row.symm))
      refine reg_one 16 (by rfl) (by kernel_rfl) (by rfl) (fun K hK => ?_)
      (refine wp_appD (.tmp 166) (.tmp 172) rfl w11.heap.size _ lvs rfl hod22 (w22.heap.size + 1) _ [leafD II] rfl hsd22 hll hbz22 ?_; intro v24 w24 ho24 hg24 hs24 hb24)
      refine hK.out _ _ ?_ (fun hHeld => ?_)
      · exact ⟨trivial, KS2.out _ hg24 hb24⟩
      clear hK K
      try simp only [Act.put, q1, q2, q3]
      obtain ⟨hr24, hor24, hb24r, hb248⟩ := HG24.out _ hg24 hb24
      have hz24 : w8.heap.size ≤ w24.heap.size := hb248.size
      obtain ⟨g24, c24, rfl⟩ := ho24.form0 (by simp)
      have el24 : (lvs ++ [leafD II]).length = lvs.length + 1 := by simp
      have hbw24 : Below w.heap.size w w24 := bw8.trans (hb248.mono z8)
      have HRt : Hid (Calls Tryz.prog 61 #[.slice (some ⟨g24, 0, none⟩) (lvs.length + 1) c24] w24 fun e w' => e = .returned (.agg (dgA rt.1)) ∧ Below w24.heap.size w24 w') := Lib.hid (by
        have h2 := kRoot_any (lvs ++ [leafD II]) (by omega) _ (dgA rt.1) (by rw [HLV.out.2.1]) w24 ho24.sd (hk.on hbw24 h1) (by omega)
        rw [el24] at h2
        exact h2)
      rw [el24]
      have HRTR : Hid (∀ W, Below w24.heap.size w24 W → BegPost w K ad Ps F (.returned (.pointer (some ⟨w8.heap.size, 0, none⟩))) W) := Lib.hid (fun W hW => by
        have hbW : Below w8.heap.size w8 W := hb248.trans (hW.mono hz24)
        have hbwW : Below w.heap.size w W := bw8.trans (hbW.mono z8)
        exact ⟨w8.heap.size, rows, rfl, ⟨va, vr, _, (hW.block _ (Array.getElem?_eq_some_iff.1 hr24).1).trans hr24, HHoa.out.sb.on hbW, hor24.sg.on hW, fun x hx => ⟨(HRW.out.2 x hx).1.on hbwW, (HRW.out.2 x hx).2⟩⟩, HRW2.out, hbwW⟩)
      clear el24 hbw24 hr24 hor24 hb24r hb248 hs24 ho24 hbg22 hsd22 hod22 hg24
      have KS3 : Hid (∀ W, Below w24.heap.size w24 W → W.cell? ⟨w8.heap.size, 66, none⟩ = some (.slice Ai li ci) ∧ W.rangeAt (w.heap.size + 1) 8 (bv rt.1)) := Lib.hid (fun W hW => ⟨(hW.cell (p := ⟨w8.heap.size, 66, none⟩) (by show w8.heap.size < _; have := hb24.size; omega)).trans hHeld.2.1, fun j v hv => (hW.cell (p := ⟨w.heap.size + 1, 8 + j, none⟩) (by show w.heap.size + 1 < _; omega)).trans (hHeld.2.2 j v hv)⟩)
      refine reg_one 17 (by rfl) (by kernel_rfl) (by rfl) (fun K hK => ?_)
      (go_simp; go_at_call 61; refine HRt.out.mono ?_; rintro _ w25 ⟨rfl, hb25⟩; go_wp2_with fail)
      refine hK.out _ _ ?_ (fun hHeld => ?_)
      · exact ⟨trivial, KS3.out _ hb25⟩
      clear hK K
      try simp only [Act.put, q1, q2, q3]
      refine rtk 20 ?_ ?_ ?_
      rotate_left
      · (intro wq hSq; (try dsimp only at hSq); go_split_ands; go_simp; (try with_reducible rfl))
      try simp only [Act.put, q1, q2, q3]
      refine rtk 21 ?_ ?_ ?_
      rotate_left
      · (intro wq hSq; (try dsimp only at hSq); go_split_ands; go_simp; (try with_reducible rfl))
      try simp only [Act.put, q1, q2, q3]
      refine reg_one 22 (by rfl) (by kernel_rfl) (by rfl) (fun K hK => ?_)
      (go_simp; go_at_call 62; refine (HNd.out _).mono ?_; rintro _ w26 ⟨rfl, rfl⟩; go_wp2_with fail)
      refine hK.out _ _ ?_ (fun hHeld => ?_)
      · exact ⟨trivial, KS3.out _ hb25⟩
      clear hK K
      try simp only [Act.put, q1, q2, q3]
      refine wpAnyH_done (by kernel_rfl) (noPanic_mk ?_) _
      have HPO := HRTR.out _ hb25
      clear hEq hHeld KS KS1 KS2 KS3 HRTR HRt HG24
      have HPO2 := Lib.hid HPO
      clear HPO
      go_wp2_with fail
      go_ret
      exact HPO2.out
end Go.Proofs.YtchjknbideoieaaGreatDoor
