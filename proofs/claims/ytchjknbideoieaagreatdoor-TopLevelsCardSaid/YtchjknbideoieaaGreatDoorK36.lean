/-
  What is proved here: what fits, before and the comparison of package version come to, and a copy of a nil list, at this seat's numbers. Conditions: as the state is.
-/
import Derived.Test.YtchjknbideoieaaGreatDoorK35
import Derived.Test.YtchjknbideoieaaGreatDoorK26
namespace Go.Proofs.YtchjknbideoieaaGreatDoor
open Go.RowKit Go.Great Go.Proofs
def stC (v : Value) (N : Nat) : List Value := [.slice none 0 0, v, .slice none 0 0, .slice none 0 0, .slice none 0 0, .int .u64 0, .int .u64 (N : Int), .int .u64 0, .int .u64 0, .int .u64 0, .int .u64 0, .int .u64 0, .int .u64 0, .int .u64 0]
def edC (v : Value) (N : Nat) : List Value := [.int .u64 0, .int .u64 (N : Int), .int .u64 0, .int .u64 0, .int .u64 0, .int .u64 0, .int .u64 0, .int .u64 0, .int .u64 0, v, .slice none 0 0]
structure FitM (N : Nat) (m : Mt) : Prop where
  lv : m.lv = 1
  g : m.g = 0
  n : m.n < N
  ord : ltB m.mx.toList m.mn.toList = false
  mn : m.mn.size ≤ 1024
  mx : m.mx.size ≤ 1024
  c1 : 1 ≤ m.count
  c2 : m.count ≤ 1000000
  s1 : 1 ≤ m.size
  s2 : m.size ≤ 1000000000
set_option maxRecDepth 100000 in
set_option maxHeartbeats 2000000 in
theorem kFits_any (X : Md) (S N : Nat) (v : Value) (w : World) (h : FitM N X.1) (_hN : N < 18446744073709551616) (hS : w.heap[S]? = some (.cells (stC v N).toArray 40 (0, 0))) :
    Calls Tryz.prog 66 #[.pointer (some ⟨S, 0, none⟩), .agg (mdC X).toArray] w fun e w' => e = .returned (.bool true) ∧ Below w.heap.size w w' := by
  obtain ⟨cm, hcm⟩ : ∃ cm, cm = (mdC X).toArray := ⟨_, rfl⟩
  have HA : Hid (cm[0]? = some (.int .u8 1) ∧ cm[1]? = some (.int .u64 0) ∧ cm[3]? = some (.int .u64 (X.1.n : Int)) ∧ cm[4]? = some (.int .i64 (X.1.size : Int)) ∧ cm[5]? = some (.int .i64 (X.1.count : Int)) ∧ cm[6]? = some (.string X.1.mn) ∧ cm[7]? = some (.string X.1.mx)) := Lib.hid (by
    have h1 := h.lv
    have h2 := h.g
    rw [hcm]
    refine ⟨?_, ?_, rfl, rfl, rfl, rfl, rfl⟩
    · show some (Value.int .u8 (X.1.lv : Int)) = _; rw [h1]; rfl
    · show some (Value.int .u64 (X.1.g : Int)) = _; rw [h2]; rfl)
  rw [← hcm]
  have HSt := Lib.hid hS
  have hSl := (Array.getElem?_eq_some_iff.1 hS).1
  have t1 : (!(ltB X.1.mx.toList X.1.mn.toList)) = true := by rw [h.ord]; rfl
  obtain ⟨mn, hmn⟩ : ∃ mn, mn = X.1.mn := ⟨_, rfl⟩
  obtain ⟨mx, hmx⟩ : ∃ mx, mx = X.1.mx := ⟨_, rfl⟩
  obtain ⟨n, hn⟩ : ∃ n, n = X.1.n := ⟨_, rfl⟩
  obtain ⟨cnt, hcnt⟩ : ∃ c, c = X.1.count := ⟨_, rfl⟩
  obtain ⟨siz, hsiz⟩ : ∃ s, s = X.1.size := ⟨_, rfl⟩
  have hnN : n < N := by rw [hn]; exact h.n
  have hord : ltB mx.toList mn.toList = false := by rw [hmx, hmn]; exact h.ord
  have b1 : mn.size ≤ 1024 := by rw [hmn]; exact h.mn
  have b2 : mx.size ≤ 1024 := by rw [hmx]; exact h.mx
  have b3 : 1 ≤ cnt ∧ cnt ≤ 1000000 := by rw [hcnt]; exact ⟨h.c1, h.c2⟩
  have b4 : 1 ≤ siz ∧ siz ≤ 1000000000 := by rw [hsiz]; exact ⟨h.s1, h.s2⟩
  rw [← hmn, ← hmx, ← hn, ← hcnt, ← hsiz] at HA
  clear hmn hmx hn hcnt hsiz t1 hS hcm h
  go_enter Tryz.func66, Tryz.ntmps66
  go_upto_region 1 with fail
  have rA := heap_alloc_new w (.cells cm 55)
  have bA := balloc (bself w) (.cells cm 55)
  have rS := (bA.block S hSl).trans HSt.out
  generalize World.alloc _ _ = wA at rA bA rS ⊢
  have x0 := (cell_of_row _ _ 0 _ _ _ rA).trans HA.out.1
  have x1 := (cell_of_row _ _ 1 _ _ _ rA).trans HA.out.2.1
  have x3 := (cell_of_row _ _ 3 _ _ _ rA).trans HA.out.2.2.1
  have x4 := (cell_of_row _ _ 4 _ _ _ rA).trans HA.out.2.2.2.1
  have x5 := (cell_of_row _ _ 5 _ _ _ rA).trans HA.out.2.2.2.2.1
  have x6 := (cell_of_row _ _ 6 _ _ _ rA).trans HA.out.2.2.2.2.2.1
  have x7 := (cell_of_row _ _ 7 _ _ _ rA).trans HA.out.2.2.2.2.2.2
  have y2 : wA.cell? ⟨S, 6, none⟩ = some (.int .u64 (N : Int)) := cell_of_row _ _ 6 _ _ _ rS
  have y10 : wA.cell? ⟨S, 10, none⟩ = some (.int .u64 0) := cell_of_row _ _ 10 _ _ _ rS
  have i1 : ¬ (1024 : Int) < max (mn.size : Int) (mx.size : Int) := by omega
  have i2 : ¬ (cnt : Int) < 1 := by omega
  have i3 : ¬ (siz : Int) < 1 := by omega
  have i4 : (n : Int) < (N : Int) := by omega
  have i5 : (0 : Int) ≤ 0 := by omega
  have HS7 : Hid (wA.cell? ⟨w.heap.size, 0, none⟩ = some (.int .u8 1) ∧ wA.cell? ⟨w.heap.size, 1, none⟩ = some (.int .u64 0) ∧ wA.cell? ⟨w.heap.size, 3, none⟩ = some (.int .u64 (n : Int)) ∧ wA.cell? ⟨S, 6, none⟩ = some (.int .u64 (N : Int)) ∧ wA.cell? ⟨S, 10, none⟩ = some (.int .u64 0)) := Lib.hid ⟨x0, x1, x3, y2, y10⟩
  clear rA rS
  cases hlt : ltB mn.toList mx.toList with
  | true =>
    go_upto_region 7 with fail
    refine wp_region_noPanic ?_
    refine wp_region_held_drew (S := fun W => True ∧ W.cell? ⟨w.heap.size, 0, none⟩ = some (.int .u8 1) ∧ W.cell? ⟨w.heap.size, 1, none⟩ = some (.int .u64 0) ∧ W.cell? ⟨w.heap.size, 3, none⟩ = some (.int .u64 (n : Int)) ∧ W.cell? ⟨S, 6, none⟩ = some (.int .u64 (N : Int)) ∧ W.cell? ⟨S, 10, none⟩ = some (.int .u64 0)) (by kernel_rfl) ⟨trivial, HS7.out⟩ (fun hHeld => ?_)
    refine rtk 0 ?_ ?_ ?_
    rotate_left
    · (intro wq hSq; (try dsimp only at hSq); go_split_ands; go_simp; (try with_reducible rfl))
    try simp only [Act.put, q1, q2, q3]
    refine rtk 1 ?_ ?_ ?_
    rotate_left
    · (intro wq hSq; (try dsimp only at hSq); go_split_ands; go_simp; (try with_reducible rfl))
    try simp only [Act.put, q1, q2, q3]
    refine rtk 2 ?_ ?_ ?_
    rotate_left
    · (intro wq hSq; (try dsimp only at hSq); go_split_ands; go_simp; (try with_reducible rfl))
    try simp only [Act.put, q1, q2, q3]
    refine rtk 3 ?_ ?_ ?_
    rotate_left
    · (intro wq hSq; (try dsimp only at hSq); go_split_ands; go_simp; (try with_reducible rfl))
    try simp only [Act.put, q1, q2, q3]
    refine rtk 4 ?_ ?_ ?_
    rotate_left
    · (intro wq hSq; (try dsimp only at hSq); go_split_ands; go_simp; (try with_reducible rfl))
    try simp only [Act.put, q1, q2, q3]
    refine rtk 5 ?_ ?_ ?_
    rotate_left
    · (intro wq hSq; (try dsimp only at hSq); go_split_ands; go_simp; (try with_reducible rfl))
    try simp only [Act.put, q1, q2, q3]
    refine rtk 6 ?_ ?_ ?_
    rotate_left
    · (intro wq hSq; (try dsimp only at hSq); go_split_ands; go_simp; (try with_reducible rfl))
    try simp only [Act.put, q1, q2, q3]
    refine rtk 7 ?_ ?_ ?_
    rotate_left
    · (intro wq hSq; (try dsimp only at hSq); go_split_ands; go_simp; (try with_reducible rfl))
    try simp only [Act.put, q1, q2, q3]
    refine rtk 8 ?_ ?_ ?_
    rotate_left
    · (intro wq hSq; (try dsimp only at hSq); go_split_ands; go_simp; (try with_reducible rfl))
    try simp only [Act.put, q1, q2, q3]
    refine rtk 9 ?_ ?_ ?_
    rotate_left
    · (intro wq hSq; (try dsimp only at hSq); go_split_ands; go_simp; (try with_reducible rfl))
    try simp only [Act.put, q1, q2, q3]
    refine rtk 10 ?_ ?_ ?_
    rotate_left
    · (intro wq hSq; (try dsimp only at hSq); go_split_ands; go_simp; (try with_reducible rfl))
    try simp only [Act.put, q1, q2, q3]
    refine rtk 11 ?_ ?_ ?_
    rotate_left
    · (intro wq hSq; (try dsimp only at hSq); go_split_ands; go_simp; (try with_reducible rfl))
    try simp only [Act.put, q1, q2, q3]
    refine rtk 12 ?_ ?_ ?_
    rotate_left
    · (intro wq hSq; (try dsimp only at hSq); go_split_ands; go_simp; (try with_reducible rfl))
    try simp only [Act.put, q1, q2, q3]
    refine rtk 13 ?_ ?_ ?_
    rotate_left
    · (intro wq hSq; (try dsimp only at hSq); go_split_ands; go_simp; (try with_reducible rfl))
    try simp only [Act.put, q1, q2, q3]
    refine rtk 14 ?_ ?_ ?_
    rotate_left
    · (intro wq hSq; (try dsimp only at hSq); go_split_ands; go_simp; (try with_reducible rfl))
    try simp only [Act.put, q1, q2, q3]
    refine rtk 15 ?_ ?_ ?_
    rotate_left
    · (intro wq hSq; (try dsimp only at hSq); go_split_ands; go_simp; (try with_reducible rfl))
    try simp only [Act.put, q1, q2, q3]
    refine rtk 16 ?_ ?_ ?_
    rotate_left
    · (intro wq hSq; (try dsimp only at hSq); go_split_ands; go_simp; (try with_reducible rfl))
    try simp only [Act.put, q1, q2, q3]
    refine rtk 17 ?_ ?_ ?_
    rotate_left
    · (intro wq hSq; (try dsimp only at hSq); go_split_ands; go_simp; (try with_reducible rfl))
    try simp only [Act.put, q1, q2, q3]
    refine rtk 18 ?_ ?_ ?_
    rotate_left
    · (intro wq hSq; (try dsimp only at hSq); go_split_ands; go_simp; (try with_reducible rfl))
    try simp only [Act.put, q1, q2, q3]
    refine rtk 19 ?_ ?_ ?_
    rotate_left
    · (intro wq hSq; (try dsimp only at hSq); go_split_ands; go_simp; (try with_reducible rfl))
    try simp only [Act.put, q1, q2, q3]
    refine wpAnyH_done (by kernel_rfl) (noPanic_mk ?_) _
    clear hHeld
    go_wp2_with fail
    go_ret
    exact ⟨rfl, bdrew bA⟩
  | false =>
    have he : (mn.toList == mx.toList) = true := by rw [ltB_tri _ _ hlt hord]; simp
    go_upto_region 7 with fail
    refine wp_region_noPanic ?_
    refine wp_region_held_drew (S := fun W => True ∧ W.cell? ⟨w.heap.size, 0, none⟩ = some (.int .u8 1) ∧ W.cell? ⟨w.heap.size, 1, none⟩ = some (.int .u64 0) ∧ W.cell? ⟨w.heap.size, 3, none⟩ = some (.int .u64 (n : Int)) ∧ W.cell? ⟨S, 6, none⟩ = some (.int .u64 (N : Int)) ∧ W.cell? ⟨S, 10, none⟩ = some (.int .u64 0)) (by kernel_rfl) ⟨trivial, HS7.out⟩ (fun hHeld => ?_)
    refine rtk 0 ?_ ?_ ?_
    rotate_left
    · (intro wq hSq; (try dsimp only at hSq); go_split_ands; go_simp; (try with_reducible rfl))
    try simp only [Act.put, q1, q2, q3]
    refine rtk 1 ?_ ?_ ?_
    rotate_left
    · (intro wq hSq; (try dsimp only at hSq); go_split_ands; go_simp; (try with_reducible rfl))
    try simp only [Act.put, q1, q2, q3]
    refine rtk 2 ?_ ?_ ?_
    rotate_left
    · (intro wq hSq; (try dsimp only at hSq); go_split_ands; go_simp; (try with_reducible rfl))
    try simp only [Act.put, q1, q2, q3]
    refine rtk 3 ?_ ?_ ?_
    rotate_left
    · (intro wq hSq; (try dsimp only at hSq); go_split_ands; go_simp; (try with_reducible rfl))
    try simp only [Act.put, q1, q2, q3]
    refine rtk 4 ?_ ?_ ?_
    rotate_left
    · (intro wq hSq; (try dsimp only at hSq); go_split_ands; go_simp; (try with_reducible rfl))
    try simp only [Act.put, q1, q2, q3]
    refine rtk 5 ?_ ?_ ?_
    rotate_left
    · (intro wq hSq; (try dsimp only at hSq); go_split_ands; go_simp; (try with_reducible rfl))
    try simp only [Act.put, q1, q2, q3]
    refine rtk 6 ?_ ?_ ?_
    rotate_left
    · (intro wq hSq; (try dsimp only at hSq); go_split_ands; go_simp; (try with_reducible rfl))
    try simp only [Act.put, q1, q2, q3]
    refine rtk 7 ?_ ?_ ?_
    rotate_left
    · (intro wq hSq; (try dsimp only at hSq); go_split_ands; go_simp; (try with_reducible rfl))
    try simp only [Act.put, q1, q2, q3]
    refine rtk 8 ?_ ?_ ?_
    rotate_left
    · (intro wq hSq; (try dsimp only at hSq); go_split_ands; go_simp; (try with_reducible rfl))
    try simp only [Act.put, q1, q2, q3]
    refine rtk 9 ?_ ?_ ?_
    rotate_left
    · (intro wq hSq; (try dsimp only at hSq); go_split_ands; go_simp; (try with_reducible rfl))
    try simp only [Act.put, q1, q2, q3]
    refine rtk 10 ?_ ?_ ?_
    rotate_left
    · (intro wq hSq; (try dsimp only at hSq); go_split_ands; go_simp; (try with_reducible rfl))
    try simp only [Act.put, q1, q2, q3]
    refine rtk 11 ?_ ?_ ?_
    rotate_left
    · (intro wq hSq; (try dsimp only at hSq); go_split_ands; go_simp; (try with_reducible rfl))
    try simp only [Act.put, q1, q2, q3]
    refine rtk 12 ?_ ?_ ?_
    rotate_left
    · (intro wq hSq; (try dsimp only at hSq); go_split_ands; go_simp; (try with_reducible rfl))
    try simp only [Act.put, q1, q2, q3]
    refine rtk 13 ?_ ?_ ?_
    rotate_left
    · (intro wq hSq; (try dsimp only at hSq); go_split_ands; go_simp; (try with_reducible rfl))
    try simp only [Act.put, q1, q2, q3]
    refine rtk 14 ?_ ?_ ?_
    rotate_left
    · (intro wq hSq; (try dsimp only at hSq); go_split_ands; go_simp; (try with_reducible rfl))
    try simp only [Act.put, q1, q2, q3]
    refine rtk 15 ?_ ?_ ?_
    rotate_left
    · (intro wq hSq; (try dsimp only at hSq); go_split_ands; go_simp; (try with_reducible rfl))
    try simp only [Act.put, q1, q2, q3]
    refine rtk 16 ?_ ?_ ?_
    rotate_left
    · (intro wq hSq; (try dsimp only at hSq); go_split_ands; go_simp; (try with_reducible rfl))
    try simp only [Act.put, q1, q2, q3]
    refine rtk 17 ?_ ?_ ?_
    rotate_left
    · (intro wq hSq; (try dsimp only at hSq); go_split_ands; go_simp; (try with_reducible rfl))
    try simp only [Act.put, q1, q2, q3]
    refine rtk 18 ?_ ?_ ?_
    rotate_left
    · (intro wq hSq; (try dsimp only at hSq); go_split_ands; go_simp; (try with_reducible rfl))
    try simp only [Act.put, q1, q2, q3]
    refine rtk 19 ?_ ?_ ?_
    rotate_left
    · (intro wq hSq; (try dsimp only at hSq); go_split_ands; go_simp; (try with_reducible rfl))
    try simp only [Act.put, q1, q2, q3]
    refine wpAnyH_done (by kernel_rfl) (noPanic_mk ?_) _
    clear hHeld
    go_wp2_with fail
    go_ret
    exact ⟨rfl, bdrew bA⟩
abbrev z5 : Value := .agg #[.int .u64 0, .int .u64 0, .int .u64 0, .int .u64 0, .int .u64 0]
set_option maxRecDepth 100000 in
theorem run_idx5u (i : Nat) (h : i < 5) (w : World) : (Instr.index 38 z5 (.int .i64 (i : Int))).run Tryz.prog w = .ok (.int .u64 0) w := by
  have hu := Tryz.underlying38
  match i, h with
  | 0, _ | 1, _ | 2, _ | 3, _ | 4, _ => simp [Instr.index, run_underlying hu, asIntOf, go_sem]
def lvV (v : Value) (i : Nat) : Value := if i = 1 then v else .slice none 0 0
abbrev s5 (v : Value) : Value := .agg #[.slice none 0 0, v, .slice none 0 0, .slice none 0 0, .slice none 0 0]
set_option maxRecDepth 100000 in
theorem run_idx5s (v : Value) (_hv : v.oneCell' = true) (i : Nat) (h : i < 5) (w : World) : (Instr.index 37 (s5 v) (.int .i64 (i : Int))).run Tryz.prog w = .ok (lvV v i) w := by
  have hu := Tryz.underlying37
  match i, h with
  | 0, _ | 1, _ | 2, _ | 3, _ | 4, _ => simp [Instr.index, run_underlying hu, asIntOf, go_sem, lvV]
theorem stC_gens (v : Value) (N i : Nat) (h : i < 5) : (stC v N)[9 + i]? = some (.int .u64 0) := by
  match i, h with
  | 0, _ | 1, _ | 2, _ | 3, _ | 4, _ => rfl
theorem stC_lv (v : Value) (N i : Nat) (h : i < 5) : (stC v N)[i]? = some (lvV v i) := by
  match i, h with
  | 0, _ | 1, _ | 2, _ | 3, _ | 4, _ => rfl
set_option maxRecDepth 100000 in
set_option maxHeartbeats 2000000 in
theorem kBefore_any (v u : Value) (M N : Nat) (hMN : M ≤ N) (_hN : N < 18446744073709551616) (cs ce : Array Value) (hcs : cs = (stC v M).toArray) (hce : ce = (edC u N).toArray) (w : World) :
    Calls Tryz.prog 23 #[.agg cs, .agg ce] w fun e w' => e = .returned (.bool false) ∧ Below w.heap.size w w' := by
  have HC := Lib.hid (And.intro hcs hce)
  clear hcs hce
  go_enter Tryz.func23, Tryz.ntmps23
  go_upto_region 1 with fail
  have rS := heap_alloc2_old w (.cells cs 40) (.cells ce 46)
  have rE := heap_alloc2_new w (.cells cs 40) (.cells ce 46)
  have bA := balloc (balloc (bself w) (.cells cs 40)) (.cells ce 46)
  generalize World.alloc _ _ = wA at rS rE bA ⊢
  rw [HC.out.1] at rS
  rw [HC.out.2] at rE
  have hG : Hid (∀ i < 5, wA.cell? ⟨w.heap.size, 9 + i, none⟩ = some (.int .u64 0)) := Lib.hid (fun i hi => (cell_of_row _ _ (9 + i) _ _ _ rS).trans (by rw [List.getElem?_toArray]; exact stC_gens v M i hi))
  have x5 : wA.cell? ⟨w.heap.size, 5, none⟩ = some (.int .u64 0) := cell_of_row _ _ 5 _ _ _ rS
  have x6 : wA.cell? ⟨w.heap.size, 6, none⟩ = some (.int .u64 (M : Int)) := cell_of_row _ _ 6 _ _ _ rS
  have x7 : wA.cell? ⟨w.heap.size, 7, none⟩ = some (.int .u64 0) := cell_of_row _ _ 7 _ _ _ rS
  have x8 : wA.cell? ⟨w.heap.size, 8, none⟩ = some (.int .u64 0) := cell_of_row _ _ 8 _ _ _ rS
  have y0 : wA.cell? ⟨w.heap.size + 1, 0, none⟩ = some (.int .u64 0) := cell_of_row _ _ 0 _ _ _ rE
  have y1 : wA.cell? ⟨w.heap.size + 1, 1, none⟩ = some (.int .u64 (N : Int)) := cell_of_row _ _ 1 _ _ _ rE
  have y2 : wA.cell? ⟨w.heap.size + 1, 2, none⟩ = some (.int .u64 0) := cell_of_row _ _ 2 _ _ _ rE
  have y3 : wA.cell? ⟨w.heap.size + 1, 3, none⟩ = some (.int .u64 0) := cell_of_row _ _ 3 _ _ _ rE
  have y4 : wA.cell? ⟨w.heap.size + 1, 4, none⟩ = some (.int .u64 0) := cell_of_row _ _ 4 _ _ _ rE
  have y5 : wA.cell? ⟨w.heap.size + 1, 5, none⟩ = some (.int .u64 0) := cell_of_row _ _ 5 _ _ _ rE
  have y6 : wA.cell? ⟨w.heap.size + 1, 6, none⟩ = some (.int .u64 0) := cell_of_row _ _ 6 _ _ _ rE
  have y7 : wA.cell? ⟨w.heap.size + 1, 7, none⟩ = some (.int .u64 0) := cell_of_row _ _ 7 _ _ _ rE
  have y8 : wA.cell? ⟨w.heap.size + 1, 8, none⟩ = some (.int .u64 0) := cell_of_row _ _ 8 _ _ _ rE
  have hMNi : ¬ (N : Int) < (M : Int) := by omega
  have hMNn : ¬ N < M := by omega
  clear rS rE
  go_wp2_with fail
  go_loopw [9] (fun iv wr => ∃ i : Nat, iv = .int .i64 (i : Int) ∧ i ≤ 5 ∧ wr = wA) (fun iv _ => 5 - (intOf iv).toNat)
  case atStart => exact ⟨0, rfl, by omega, by first | rfl | trivial⟩
  case round =>
    obtain ⟨i, rfl, hi, rfl⟩ := hrel
    by_cases hlt : i < 5
    · have hidx := run_idx5u i hlt
      have xi := hG.out i hlt
      have hii : (i : Int) < 5 := by omega
      go_wp2_with fail
      go_roundw
      case rel => exact ⟨i + 1, by go_num, by omega, by first | rfl | trivial⟩
      case measure => simp [intOf]; omega
    · have hii : ¬ (i : Int) < 5 := by omega
      go_wp2_with fail
      go_ret
      exact ⟨rfl, bA⟩
set_option maxRecDepth 100000 in
theorem run_nilMetas (w : World) : (binOp .eql 30 (.slice none 0 0) (.slice none 0 0)).run Tryz.prog w = .ok (.bool true) w := by
  have h : (Op.equalIn 10000 30 (.slice none 0 0) (.slice none 0 0)).run Tryz.prog w = .ok true w := run_equalIn_slice_nil w 9999 30 55 none 0 0 Tryz.underlying30
  simp [binOp, Op.equal, Op.maxDepth, h]
set_option maxRecDepth 100000 in
set_option maxHeartbeats 1000000 in
theorem kCloneNil (w : World) : Calls Tryz.prog 24 #[.slice none 0 0] w fun e w' => e = .returned (.slice none 0 0) ∧ Below w.heap.size w w' := by
  have hnil := run_nilMetas
  go_enter Tryz.func24, Tryz.ntmps24
  go_wp2_with fail
  go_ret
  exact ⟨rfl, bself w⟩
set_option maxRecDepth 100000 in
set_option maxHeartbeats 2000000 in
theorem kCmpMd (X Y : Md) (I : Nat) (w : World) (h : ltB Y.1.mn.toList X.1.mn.toList = true) (hI : w.cell? ⟨I, 0, none⟩ = some (.int .i64 1)) (hIl : I < w.heap.size) :
    Calls Tryz.prog 29 #[.agg (mdC X).toArray, .agg (mdC Y).toArray, .pointer (some ⟨I, 0, none⟩)] w fun e w' => e = .returned (.int .i64 1) ∧ Below w.heap.size w w' := by
  obtain ⟨cx, hcx⟩ : ∃ cx, cx = (mdC X).toArray := ⟨_, rfl⟩
  obtain ⟨cy, hcy⟩ : ∃ cy, cy = (mdC Y).toArray := ⟨_, rfl⟩
  have HX : Hid (cx[6]? = some (.string X.1.mn) ∧ cy[6]? = some (.string Y.1.mn)) := Lib.hid (by rw [hcx, hcy]; exact ⟨rfl, rfl⟩)
  rw [← hcx, ← hcy]
  have HCmp : Hid (∀ W, Calls Tryz.prog 31 #[.string X.1.mn, .string Y.1.mn] W fun e w' => e = .returned (.int .i64 1) ∧ w' = W) := Lib.hid (fun W => by
    have := kCmpS_any X.1.mn Y.1.mn W
    unfold sgnB at this
    rw [if_neg (by rw [ltB_asymm _ _ h]; simp), if_pos h] at this
    exact this)
  obtain ⟨mx, hmx⟩ : ∃ m, m = X.1.mn := ⟨_, rfl⟩
  obtain ⟨my, hmy⟩ : ∃ m, m = Y.1.mn := ⟨_, rfl⟩
  rw [← hmx, ← hmy] at HX HCmp
  clear hcx hcy hmx hmy h
  go_enter Tryz.func29, Tryz.ntmps29
  go_upto_region 1 with fail
  have rX := heap_alloc2_old w (.cells cx 55) (.cells cy 55)
  have rY := heap_alloc2_new w (.cells cx 55) (.cells cy 55)
  have bA := balloc (balloc (bself w) (.cells cx 55)) (.cells cy 55)
  have cI := (bA.cell (p := ⟨I, 0, none⟩) hIl).trans hI
  generalize World.alloc _ _ = wA at rX rY bA cI ⊢
  have x6 := (cell_of_row _ _ 6 _ _ _ rX).trans HX.out.1
  have y6 := (cell_of_row _ _ 6 _ _ _ rY).trans HX.out.2
  clear rX rY hI
  go_wp2_with (go_at_call 31; refine (HCmp.out _).mono ?_; rintro _ w3 ⟨rfl, rfl⟩)
  go_ret
  exact ⟨rfl, bA⟩
end Go.Proofs.YtchjknbideoieaaGreatDoor
