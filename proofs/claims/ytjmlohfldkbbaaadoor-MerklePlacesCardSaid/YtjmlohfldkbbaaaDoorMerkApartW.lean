/-
  What is proved here: what MerkleApart of tantaluslaw11 comes to, at this seat's numbers. Condition: the table of constants.
-/
import Derived.Test.YtjmlohfldkbbaaaDoorMerkClash
namespace Go.Proofs.YtjmlohfldkbbaaaDoor
open Go.RowKit

theorem same_ne (a b : List Dg) (hne : ¬ a = b) (v u : Value) (w : World) (B : Nat) (hv : SD w B v a) (hu : SD w B u b) (hB : B ≤ w.heap.size) : Calls Tryd.prog 13 #[v, u] w fun e w' => e = .returned (.bool false) ∧ Below w.heap.size w w' := by
  have h := same_any a b v u w B hv hu hB
  rw [show decide (a = b) = false by simp [hne]] at h
  exact h
theorem same_eq (a b : List Dg) (he : a = b) (v u : Value) (w : World) (B : Nat) (hv : SD w B v a) (hu : SD w B u b) (hB : B ≤ w.heap.size) : Calls Tryd.prog 13 #[v, u] w fun e w' => e = .returned (.bool true) ∧ Below w.heap.size w w' := by
  have h := same_any a b v u w B hv hu hB
  rw [show decide (a = b) = true by simp [he]] at h
  exact h
theorem andThen_id (r : Result Value) : (r.andThen fun a w' => .ok a w') = r := by cases r <;> rfl
theorem run_min3 (w : World) (t : TypeId) (x y z : Int) (n : Int) (h : min (min x y) z = n) : (Builtin.min_ #[t, t, t] t #[.int .i64 x, .int .i64 y, .int .i64 z]).run Tryd.prog w = .ok (.int .i64 n) w := by
  have h1 := run_min_int2 (P := Tryd.prog) w #[t, t] t .i64 .i64 x y
  have h2 := run_min_int2 (P := Tryd.prog) w #[t, t] t .i64 .i64 (if y < x then y else x) z
  simp only [Builtin.min_, List.foldlM_cons, List.foldlM_nil, Sem.run_bind] at h1 h2 ⊢
  have e1 : (Builtin.min2 (.int .i64 x) (.int .i64 y)).run Tryd.prog w = .ok (.int .i64 (if y < x then y else x)) w := by have h3 := h1; simp at h3; rw [andThen_id] at h3; exact h3
  have e2 : (Builtin.min2 (.int .i64 (if y < x then y else x)) (.int .i64 z)).run Tryd.prog w = .ok (.int .i64 (if z < (if y < x then y else x) then z else (if y < x then y else x))) w := by have h3 := h2; simp at h3; rw [andThen_id] at h3; exact h3
  rw [e1, Result.andThen_ok, e2, Result.andThen_ok, Sem.run_pure]
  have e3 : (if z < (if y < x then y else x) then z else (if y < x then y else x)) = n := by
    rw [← h]
    split <;> split <;> omega
  rw [e3]
set_option maxRecDepth 100000 in
set_option maxHeartbeats 1000000 in
theorem merkleApart_any (l m : List Dg) (v u : Value) (W : World) (hv : SD W W.heap.size v l) (hu : SD W W.heap.size u m) (hk : KTab W 1) (h1 : 1 < W.heap.size) :
    Calls Tryd.prog 6 #[v, u] W fun e W' => e = .returned (.bool true) ∧ Below W.heap.size W W' := by
  obtain ⟨A, c0, rfl, hlc, hcm⟩ := hv.form
  obtain ⟨A2, c2, rfl, hlc2, hcm2⟩ := hu.form
  obtain ⟨n, hn⟩ : ∃ n : Nat, min (min (l.length : Int) (m.length : Int)) 200 = (n : Int) := ⟨(min (min (l.length : Int) (m.length : Int)) 200).toNat, by omega⟩
  have hn1 : n ≤ l.length := by omega
  have hn2 : n ≤ m.length := by omega
  have hn3 : n ≤ 200 := by omega
  have s1 : SD W W.heap.size (.slice A n c0) (l.take n) := hv.take hn1 rfl
  have s2 : SD W W.heap.size (.slice A2 n c2) (m.take n) := hu.take hn2 rfl
  have l1 : (l.take n).length = n := by rw [List.length_take]; omega
  have l2 : (m.take n).length = n := by rw [List.length_take]; omega
  obtain ⟨x, hx⟩ : ∃ x, x = l.take n := ⟨_, rfl⟩
  obtain ⟨y, hy⟩ : ∃ y, y = m.take n := ⟨_, rfl⟩
  rw [← hx] at s1 l1
  rw [← hy] at s2 l2
  have z1 : (n : Int) ≤ (c0 : Int) := by omega
  have z2 : (n : Int) ≤ (c2 : Int) := by omega
  clear hx hy hv hu
  go_enter Tryd.func6, Tryd.ntmps6
  go_wp2_with fail
  refine (shown11_any _ hk h1).mono ?_
  rintro e w1 ⟨rfl, hb1⟩
  have zw1 := hb1.size
  have hmin := run_min3 w1 3 (l.length : Int) (m.length : Int) 200 (n : Int) hn
  obtain ⟨rx, hrx⟩ : ∃ rx, rx = rootR jnD zD x := ⟨_, rfl⟩
  obtain ⟨ry, hry⟩ : ∃ ry, ry = rootR jnD zD y := ⟨_, rfl⟩
  have HKT : Hid (∀ w', Below w1.heap.size w1 w' → KTab w' 1 ∧ 1 < w'.heap.size) := Lib.hid (fun w' h => ⟨hk.on (bstep hb1 h) h1, by have := (bstep hb1 h).size; omega⟩)
  have HS : Hid (∀ w', Below w1.heap.size w1 w' → SD w' w'.heap.size (.slice A n c0) x ∧ SD w' w'.heap.size (.slice A2 n c2) y) := Lib.hid (fun w' h => ⟨s1.on (bstep hb1 h), s2.on (bstep hb1 h)⟩)
  have HR1 : Hid (∀ w', Below w1.heap.size w1 w' → Calls Tryd.prog 16 #[.slice A n c0] w' fun e w'' => e = .returned (.agg (dgA rx.1)) ∧ Below w'.heap.size w' w'') := Lib.hid (fun w' h => kRoot_any x (by omega) _ _ (by rw [hrx]) w' (HS.out w' h).1 (HKT.out w' h).1 (HKT.out w' h).2)
  have HR2 : Hid (∀ w', Below w1.heap.size w1 w' → Calls Tryd.prog 16 #[.slice A2 n c2] w' fun e w'' => e = .returned (.agg (dgA ry.1)) ∧ Below w'.heap.size w' w'') := Lib.hid (fun w' h => kRoot_any y (by omega) _ _ (by rw [hry]) w' (HS.out w' h).2 (HKT.out w' h).1 (HKT.out w' h).2)
  have HSA : Hid (∀ w', Below w1.heap.size w1 w' → Calls Tryd.prog 13 #[.slice A n c0, .slice A2 n c2] w' fun e w'' => e = .returned (.bool (decide (x = y))) ∧ Below w'.heap.size w' w'') := Lib.hid (fun w' h => same_any x y _ _ w' _ (HS.out w' h).1 (HS.out w' h).2 (Nat.le_refl _))
  have HCLA : Hid (∀ w', Below w1.heap.size w1 w' → Calls Tryd.prog 17 #[.slice A n c0, .slice A2 n c2] w' fun e w'' => BoolPost (clashR jnD zD x y) w' w'' e) := Lib.hid (fun w' h => clash_n x.length x y rfl (by omega) (by omega) _ _ w' (HS.out w' h).1 (HS.out w' h).2 (HKT.out w' h).1 (HKT.out w' h).2)
  have HXY : Hid (x = y → rx = ry) := Lib.hid (fun h => by rw [hrx, hry, h])
  have HAP : Hid (rx = ry → ¬ x = y → clashR jnD zD x y) := Lib.hid (fun h hne => (root_apart jnD zD x y (by omega) (by rw [← hrx, ← hry, h])).resolve_left hne)
  clear hrx hry s1 s2 l1 l2 hk
  go_upto_region 3 with fail
  refine wp_region_noPanic ?_
  refine wp_region_held_drew (S := fun _ => True) (by kernel_rfl) trivial (fun hHeld => ?_)
  refine reg_take 0 (v := ?_) (by rfl) (by kernel_rfl) (by kernel_rfl) (by kernel_rfl) (fun _ _ _ h => h) (by rfl) ?_ (by assumption) ?_
  rotate_left
  · (intro wq hSq; (try dsimp only at hSq); go_split_ands; go_simp; (try with_reducible rfl))
  try simp only [Act.put, List.setIfInBounds_toArray, List.set_cons_zero, List.set_cons_succ]
  refine reg_take 1 (v := ?_) (by rfl) (by kernel_rfl) (by kernel_rfl) (by kernel_rfl) (fun _ _ _ h => h) (by rfl) ?_ (by assumption) ?_
  rotate_left
  · (intro wq hSq; (try dsimp only at hSq); go_split_ands; go_simp; (try with_reducible rfl))
  try simp only [Act.put, List.setIfInBounds_toArray, List.set_cons_zero, List.set_cons_succ]
  refine reg_take 2 (v := ?_) (by rfl) (by kernel_rfl) (by kernel_rfl) (by kernel_rfl) (fun _ _ _ h => h) (by rfl) ?_ (by assumption) ?_
  rotate_left
  · (intro wq hSq; (try dsimp only at hSq); go_split_ands; go_simp; (try with_reducible rfl))
  try simp only [Act.put, List.setIfInBounds_toArray, List.set_cons_zero, List.set_cons_succ]
  refine reg_take 3 (v := ?_) (by rfl) (by kernel_rfl) (by kernel_rfl) (by kernel_rfl) (fun _ _ _ h => h) (by rfl) ?_ (by assumption) ?_
  rotate_left
  · (intro wq hSq; (try dsimp only at hSq); go_split_ands; go_simp; (try with_reducible rfl))
  try simp only [Act.put, List.setIfInBounds_toArray, List.set_cons_zero, List.set_cons_succ]
  refine reg_take 4 (v := ?_) (by rfl) (by kernel_rfl) (by kernel_rfl) (by kernel_rfl) (fun _ _ _ h => h) (by rfl) ?_ (by assumption) ?_
  rotate_left
  · (intro wq hSq; (try dsimp only at hSq); go_split_ands; go_simp; (try with_reducible rfl))
  try simp only [Act.put, List.setIfInBounds_toArray, List.set_cons_zero, List.set_cons_succ]
  refine reg_take 5 (v := ?_) (by rfl) (by kernel_rfl) (by kernel_rfl) (by kernel_rfl) (fun _ _ _ h => h) (by rfl) ?_ (by assumption) ?_
  rotate_left
  · (intro wq hSq; (try dsimp only at hSq); go_split_ands; go_simp; (try with_reducible rfl))
  try simp only [Act.put, List.setIfInBounds_toArray, List.set_cons_zero, List.set_cons_succ]
  refine reg_take 6 (v := ?_) (by rfl) (by kernel_rfl) (by kernel_rfl) (by kernel_rfl) (fun _ _ _ h => h) (by rfl) ?_ (by assumption) ?_
  rotate_left
  · (intro wq hSq; (try dsimp only at hSq); go_split_ands; go_simp; (try with_reducible rfl))
  try simp only [Act.put, List.setIfInBounds_toArray, List.set_cons_zero, List.set_cons_succ]
  refine reg_take 7 (v := ?_) (by rfl) (by kernel_rfl) (by kernel_rfl) (by kernel_rfl) (fun _ _ _ h => h) (by rfl) ?_ (by assumption) ?_
  rotate_left
  · (intro wq hSq; (try dsimp only at hSq); go_split_ands; go_simp; (try with_reducible rfl))
  try simp only [Act.put, List.setIfInBounds_toArray, List.set_cons_zero, List.set_cons_succ]
  refine wpAnyH_done (by kernel_rfl) (noPanic_mk ?_) _
  have b2 := bdrew (bself w1)
  by_cases hxy : x = y
  · have hrr := HXY.out hxy
    have hEq : ∀ w', (Op.equalIn 10000 31 (.agg (dgA rx.1)) (.agg (dgA ry.1))).run Tryd.prog w' = .ok true w' := fun w' => by rw [show true = decide (rx = ry) by simp [hrr], ← dg_eq]; exact run_eqD w' rx.1 ry.1 rx.2 ry.2
    have HSB : Hid (∀ w', Below w1.heap.size w1 w' → Calls Tryd.prog 13 #[.slice A n c0, .slice A2 n c2] w' fun e w'' => e = .returned (.bool true) ∧ Below w'.heap.size w' w'') := Lib.hid (fun w' h => same_eq x y hxy _ _ w' _ (HS.out w' h).1 (HS.out w' h).2 (Nat.le_refl _))
    clear hrr hxy
    go_upto_region 4 with fail
    refine wp_region_noPanic ?_
    refine wp_region_held_drew (S := fun _ => True) (by kernel_rfl) trivial (fun hHeld => ?_)
    refine reg_take 0 (v := ?_) (by rfl) (by kernel_rfl) (by kernel_rfl) (by kernel_rfl) (fun _ _ _ h => h) (by rfl) ?_ (by assumption) ?_
    rotate_left
    · (intro wq hSq; (try dsimp only at hSq); go_split_ands; go_simp; (try with_reducible rfl))
    try simp only [Act.put, List.setIfInBounds_toArray, List.set_cons_zero, List.set_cons_succ]
    refine reg_take 2 (v := ?_) (by rfl) (by kernel_rfl) (by kernel_rfl) (by kernel_rfl) (fun _ _ _ h => h) (by rfl) ?_ (by assumption) ?_
    rotate_left
    · (intro wq hSq; (try dsimp only at hSq); go_split_ands; go_simp; (try with_reducible rfl))
    try simp only [Act.put, List.setIfInBounds_toArray, List.set_cons_zero, List.set_cons_succ]
    refine reg_take 5 (v := ?_) (by rfl) (by kernel_rfl) (by kernel_rfl) (by kernel_rfl) (fun _ _ _ h => h) (by rfl) ?_ (by assumption) ?_
    rotate_left
    · (intro wq hSq; (try dsimp only at hSq); go_split_ands; go_simp; (try with_reducible rfl))
    try simp only [Act.put, List.setIfInBounds_toArray, List.set_cons_zero, List.set_cons_succ]
    refine reg_take 6 (v := ?_) (by rfl) (by kernel_rfl) (by kernel_rfl) (by kernel_rfl) (fun _ _ _ h => h) (by rfl) ?_ (by assumption) ?_
    rotate_left
    · (intro wq hSq; (try dsimp only at hSq); go_split_ands; go_simp; (try with_reducible rfl))
    try simp only [Act.put, List.setIfInBounds_toArray, List.set_cons_zero, List.set_cons_succ]
    have b20 := bdrew b2
    refine reg_one 1 (by rfl) (by kernel_rfl) (by rfl) (fun K hK => ?_)
    (go_simp; go_at_call 16; refine (HR1.out _ b20).mono ?_; rintro e w3 ⟨rfl, hb3⟩; have b3 := bstep b20 hb3; go_wp2_with fail)
    refine hK.out _ _ ?_ (fun hHeld => ?_)
    · trivial
    clear hK K
    try simp only [Act.put, List.setIfInBounds_toArray, List.set_cons_zero, List.set_cons_succ]
    refine reg_one 3 (by rfl) (by kernel_rfl) (by rfl) (fun K hK => ?_)
    (go_simp; go_at_call 16; refine (HR2.out _ b3).mono ?_; rintro e w4 ⟨rfl, hb4⟩; have b4 := bstep b3 hb4; go_wp2_with fail)
    refine hK.out _ _ ?_ (fun hHeld => ?_)
    · trivial
    clear hK K
    try simp only [Act.put, List.setIfInBounds_toArray, List.set_cons_zero, List.set_cons_succ]
    refine reg_take 4 (v := ?_) (by rfl) (by kernel_rfl) (by kernel_rfl) (by kernel_rfl) (fun _ _ _ h => h) (by rfl) ?_ (by assumption) ?_
    rotate_left
    · (intro wq hSq; (try dsimp only at hSq); go_split_ands; go_simp; (try with_reducible rfl))
    try simp only [Act.put, List.setIfInBounds_toArray, List.set_cons_zero, List.set_cons_succ]
    refine reg_one 7 (by rfl) (by kernel_rfl) (by rfl) (fun K hK => ?_)
    (go_simp; go_at_call 13; refine (HSB.out _ b4).mono ?_; rintro e w5 ⟨rfl, hb5⟩; have b5 := bstep b4 hb5; go_wp2_with fail)
    refine hK.out _ _ ?_ (fun hHeld => ?_)
    · trivial
    clear hK K
    try simp only [Act.put, List.setIfInBounds_toArray, List.set_cons_zero, List.set_cons_succ]
    refine reg_take 8 (v := ?_) (by rfl) (by kernel_rfl) (by kernel_rfl) (by kernel_rfl) (fun _ _ _ h => h) (by rfl) ?_ (by assumption) ?_
    rotate_left
    · (intro wq hSq; (try dsimp only at hSq); go_split_ands; go_simp; (try with_reducible rfl))
    try simp only [Act.put, List.setIfInBounds_toArray, List.set_cons_zero, List.set_cons_succ]
    refine wpAnyH_done (by kernel_rfl) (noPanic_mk ?_) _
    go_wp2_with fail
    go_ret
    exact ⟨rfl, bstep hb1 b5⟩
  · have HSB : Hid (∀ w', Below w1.heap.size w1 w' → Calls Tryd.prog 13 #[.slice A n c0, .slice A2 n c2] w' fun e w'' => e = .returned (.bool false) ∧ Below w'.heap.size w' w'') := Lib.hid (fun w' h => same_ne x y hxy _ _ w' _ (HS.out w' h).1 (HS.out w' h).2 (Nat.le_refl _))
    by_cases hrr : rx = ry
    · have hEq : ∀ w', (Op.equalIn 10000 31 (.agg (dgA rx.1)) (.agg (dgA ry.1))).run Tryd.prog w' = .ok true w' := fun w' => by rw [show true = decide (rx = ry) by simp [hrr], ← dg_eq]; exact run_eqD w' rx.1 ry.1 rx.2 ry.2
      have HCT := Lib.hid (HAP.out hrr hxy)
      clear hrr hxy
      go_upto_region 4 with fail
      refine wp_region_noPanic ?_
      refine wp_region_held_drew (S := fun _ => True) (by kernel_rfl) trivial (fun hHeld => ?_)
      refine reg_take 0 (v := ?_) (by rfl) (by kernel_rfl) (by kernel_rfl) (by kernel_rfl) (fun _ _ _ h => h) (by rfl) ?_ (by assumption) ?_
      rotate_left
      · (intro wq hSq; (try dsimp only at hSq); go_split_ands; go_simp; (try with_reducible rfl))
      try simp only [Act.put, List.setIfInBounds_toArray, List.set_cons_zero, List.set_cons_succ]
      refine reg_take 2 (v := ?_) (by rfl) (by kernel_rfl) (by kernel_rfl) (by kernel_rfl) (fun _ _ _ h => h) (by rfl) ?_ (by assumption) ?_
      rotate_left
      · (intro wq hSq; (try dsimp only at hSq); go_split_ands; go_simp; (try with_reducible rfl))
      try simp only [Act.put, List.setIfInBounds_toArray, List.set_cons_zero, List.set_cons_succ]
      refine reg_take 5 (v := ?_) (by rfl) (by kernel_rfl) (by kernel_rfl) (by kernel_rfl) (fun _ _ _ h => h) (by rfl) ?_ (by assumption) ?_
      rotate_left
      · (intro wq hSq; (try dsimp only at hSq); go_split_ands; go_simp; (try with_reducible rfl))
      try simp only [Act.put, List.setIfInBounds_toArray, List.set_cons_zero, List.set_cons_succ]
      refine reg_take 6 (v := ?_) (by rfl) (by kernel_rfl) (by kernel_rfl) (by kernel_rfl) (fun _ _ _ h => h) (by rfl) ?_ (by assumption) ?_
      rotate_left
      · (intro wq hSq; (try dsimp only at hSq); go_split_ands; go_simp; (try with_reducible rfl))
      try simp only [Act.put, List.setIfInBounds_toArray, List.set_cons_zero, List.set_cons_succ]
      have b20 := bdrew b2
      refine reg_one 1 (by rfl) (by kernel_rfl) (by rfl) (fun K hK => ?_)
      (go_simp; go_at_call 16; refine (HR1.out _ b20).mono ?_; rintro e w3 ⟨rfl, hb3⟩; have b3 := bstep b20 hb3; go_wp2_with fail)
      refine hK.out _ _ ?_ (fun hHeld => ?_)
      · trivial
      clear hK K
      try simp only [Act.put, List.setIfInBounds_toArray, List.set_cons_zero, List.set_cons_succ]
      refine reg_one 3 (by rfl) (by kernel_rfl) (by rfl) (fun K hK => ?_)
      (go_simp; go_at_call 16; refine (HR2.out _ b3).mono ?_; rintro e w4 ⟨rfl, hb4⟩; have b4 := bstep b3 hb4; go_wp2_with fail)
      refine hK.out _ _ ?_ (fun hHeld => ?_)
      · trivial
      clear hK K
      try simp only [Act.put, List.setIfInBounds_toArray, List.set_cons_zero, List.set_cons_succ]
      refine reg_take 4 (v := ?_) (by rfl) (by kernel_rfl) (by kernel_rfl) (by kernel_rfl) (fun _ _ _ h => h) (by rfl) ?_ (by assumption) ?_
      rotate_left
      · (intro wq hSq; (try dsimp only at hSq); go_split_ands; go_simp; (try with_reducible rfl))
      try simp only [Act.put, List.setIfInBounds_toArray, List.set_cons_zero, List.set_cons_succ]
      refine reg_one 7 (by rfl) (by kernel_rfl) (by rfl) (fun K hK => ?_)
      (go_simp; go_at_call 13; refine (HSB.out _ b4).mono ?_; rintro e w5 ⟨rfl, hb5⟩; have b5 := bstep b4 hb5; go_wp2_with fail)
      refine hK.out _ _ ?_ (fun hHeld => ?_)
      · trivial
      clear hK K
      try simp only [Act.put, List.setIfInBounds_toArray, List.set_cons_zero, List.set_cons_succ]
      refine reg_take 8 (v := ?_) (by rfl) (by kernel_rfl) (by kernel_rfl) (by kernel_rfl) (fun _ _ _ h => h) (by rfl) ?_ (by assumption) ?_
      rotate_left
      · (intro wq hSq; (try dsimp only at hSq); go_split_ands; go_simp; (try with_reducible rfl))
      try simp only [Act.put, List.setIfInBounds_toArray, List.set_cons_zero, List.set_cons_succ]
      refine wpAnyH_done (by kernel_rfl) (noPanic_mk ?_) _
      go_wp2_with fail
      refine (HSB.out _ b5).mono ?_
      rintro e w6 ⟨rfl, hb6⟩
      have b6 := bstep b5 hb6
      go_wp2_with fail
      refine (HCLA.out _ b6).mono ?_
      rintro e w7 ⟨q, rfl, hq, hb7⟩
      have hqt := hq.2 HCT.out
      subst hqt
      clear hq
      go_wp2_with fail
      go_ret
      exact ⟨rfl, bstep hb1 (bstep b6 hb7)⟩
    · have hEq : ∀ w', (Op.equalIn 10000 31 (.agg (dgA rx.1)) (.agg (dgA ry.1))).run Tryd.prog w' = .ok false w' := fun w' => by rw [show false = decide (rx = ry) by simp [hrr], ← dg_eq]; exact run_eqD w' rx.1 ry.1 rx.2 ry.2
      clear hrr hxy
      go_upto_region 4 with fail
      refine wp_region_noPanic ?_
      refine wp_region_held_drew (S := fun _ => True) (by kernel_rfl) trivial (fun hHeld => ?_)
      refine reg_take 0 (v := ?_) (by rfl) (by kernel_rfl) (by kernel_rfl) (by kernel_rfl) (fun _ _ _ h => h) (by rfl) ?_ (by assumption) ?_
      rotate_left
      · (intro wq hSq; (try dsimp only at hSq); go_split_ands; go_simp; (try with_reducible rfl))
      try simp only [Act.put, List.setIfInBounds_toArray, List.set_cons_zero, List.set_cons_succ]
      refine reg_take 2 (v := ?_) (by rfl) (by kernel_rfl) (by kernel_rfl) (by kernel_rfl) (fun _ _ _ h => h) (by rfl) ?_ (by assumption) ?_
      rotate_left
      · (intro wq hSq; (try dsimp only at hSq); go_split_ands; go_simp; (try with_reducible rfl))
      try simp only [Act.put, List.setIfInBounds_toArray, List.set_cons_zero, List.set_cons_succ]
      refine reg_take 5 (v := ?_) (by rfl) (by kernel_rfl) (by kernel_rfl) (by kernel_rfl) (fun _ _ _ h => h) (by rfl) ?_ (by assumption) ?_
      rotate_left
      · (intro wq hSq; (try dsimp only at hSq); go_split_ands; go_simp; (try with_reducible rfl))
      try simp only [Act.put, List.setIfInBounds_toArray, List.set_cons_zero, List.set_cons_succ]
      refine reg_take 6 (v := ?_) (by rfl) (by kernel_rfl) (by kernel_rfl) (by kernel_rfl) (fun _ _ _ h => h) (by rfl) ?_ (by assumption) ?_
      rotate_left
      · (intro wq hSq; (try dsimp only at hSq); go_split_ands; go_simp; (try with_reducible rfl))
      try simp only [Act.put, List.setIfInBounds_toArray, List.set_cons_zero, List.set_cons_succ]
      have b20 := bdrew b2
      refine reg_one 1 (by rfl) (by kernel_rfl) (by rfl) (fun K hK => ?_)
      (go_simp; go_at_call 16; refine (HR1.out _ b20).mono ?_; rintro e w3 ⟨rfl, hb3⟩; have b3 := bstep b20 hb3; go_wp2_with fail)
      refine hK.out _ _ ?_ (fun hHeld => ?_)
      · trivial
      clear hK K
      try simp only [Act.put, List.setIfInBounds_toArray, List.set_cons_zero, List.set_cons_succ]
      refine reg_one 3 (by rfl) (by kernel_rfl) (by rfl) (fun K hK => ?_)
      (go_simp; go_at_call 16; refine (HR2.out _ b3).mono ?_; rintro e w4 ⟨rfl, hb4⟩; have b4 := bstep b3 hb4; go_wp2_with fail)
      refine hK.out _ _ ?_ (fun hHeld => ?_)
      · trivial
      clear hK K
      try simp only [Act.put, List.setIfInBounds_toArray, List.set_cons_zero, List.set_cons_succ]
      refine reg_take 4 (v := ?_) (by rfl) (by kernel_rfl) (by kernel_rfl) (by kernel_rfl) (fun _ _ _ h => h) (by rfl) ?_ (by assumption) ?_
      rotate_left
      · (intro wq hSq; (try dsimp only at hSq); go_split_ands; go_simp; (try with_reducible rfl))
      try simp only [Act.put, List.setIfInBounds_toArray, List.set_cons_zero, List.set_cons_succ]
      refine reg_one 7 (by rfl) (by kernel_rfl) (by rfl) (fun K hK => ?_)
      (go_simp; go_at_call 13; refine (HSB.out _ b4).mono ?_; rintro e w5 ⟨rfl, hb5⟩; have b5 := bstep b4 hb5; go_wp2_with fail)
      refine hK.out _ _ ?_ (fun hHeld => ?_)
      · trivial
      clear hK K
      try simp only [Act.put, List.setIfInBounds_toArray, List.set_cons_zero, List.set_cons_succ]
      refine reg_take 8 (v := ?_) (by rfl) (by kernel_rfl) (by kernel_rfl) (by kernel_rfl) (fun _ _ _ h => h) (by rfl) ?_ (by assumption) ?_
      rotate_left
      · (intro wq hSq; (try dsimp only at hSq); go_split_ands; go_simp; (try with_reducible rfl))
      try simp only [Act.put, List.setIfInBounds_toArray, List.set_cons_zero, List.set_cons_succ]
      refine wpAnyH_done (by kernel_rfl) (noPanic_mk ?_) _
      go_wp2_with fail
      go_ret
      exact ⟨rfl, bstep hb1 b5⟩
end Go.Proofs.YtjmlohfldkbbaaaDoor
