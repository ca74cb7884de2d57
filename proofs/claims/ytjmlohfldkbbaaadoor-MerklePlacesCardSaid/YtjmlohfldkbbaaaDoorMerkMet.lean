/-
  What is proved here: what joined, met and clash of tantaluslaw11 come to, at this seat's numbers. Conditions: the lists' lengths; the table of constants.
-/
import Derived.Test.YtjmlohfldkbbaaaDoorMerkShown
namespace Go.Proofs.YtjmlohfldkbbaaaDoor
open Go.RowKit

section
variable {P : Program} {ops : Array Oper} {Q : Exit → Act → World → Prop} {md : Region.Mode} {S : World → Prop}
/-- number i is passed over: it is guarded, and not wanted -/
theorem reg_skip (i : Nat) {oi : Oper} {r : List Oper} {fuel : Nat} {listed : Array Bool} {a : Act} {w : World} (hi : ops.toList.drop i = oi :: r)
    (hs : Region.noSelect ops = true) (hf : Region.free md ops listed i = true) (hr : (Region.ready md ops listed).contains i = true)
    (hQ : ∀ c a w, Q (.panic c) (a.put oi.dst undef) w → Q (.panic c) a w) (hw : Region.wanted oi (yielded ops a.tmps) = false) (hS : S w)
    (h : wpAnyH P md ops Q S fuel (listed.setIfInBounds i true) (a.put oi.dst undef) w) : wpAnyH P md ops Q S (fuel + 1) listed a w :=
  wpAnyH_take (get_of_drop hi) hs hf hr hQ (.inr ⟨hw, rfl⟩) hS h
end
set_option maxRecDepth 100000 in
set_option maxHeartbeats 2000000 in
theorem kJoined_any (a b : Dg) (ca cb c : Array Value) (ha : dgA a.1 = ca) (hb : dgA b.1 = cb) (hc : dgA (jnD a b).1 = c) (w : World) (hk : KTab w 1) (h1 : 1 < w.heap.size) :
    Calls Tryd.prog 34 #[.agg ca, .agg cb] w fun e w' => e = .returned (.agg c) ∧ Below w.heap.size w w' := by
  have hna : ca.size = 32 := by rw [← ha]; exact dgA_n a
  have hnb : cb.size = 32 := by rw [← hb]; exact dgA_n b
  have HN : Hid (c.size = 32 ∧ ∀ v ∈ c.toList, v.oneCell' = true) := Lib.hid (by rw [← hc]; exact ⟨dgA_n _, dgA_one _⟩)
  have HA := Lib.hid (And.intro ha (And.intro hb hc))
  clear ha hb hc
  go_enter Tryd.func34, Tryd.ntmps34
  go_upto_region 1 with fail
  clear hna hnb
  generalize hWA : World.alloc _ _ = wA
  have rA : wA.heap[w.heap.size]? = some (rowO ca) := by rw [← hWA]; exact (alloc3 w _ _ _).1.1
  have rB : wA.heap[w.heap.size + 1]? = some (rowO cb) := by rw [← hWA]; exact (alloc3 w _ _ _).1.2.1
  have rR : wA.heap[w.heap.size + 2]? = some (rowO (dgA (List.replicate 32 0))) := by rw [← hWA]; exact ((alloc3 w _ _ _).1.2.2).trans (by kernel_rfl)
  have bA : Below w.heap.size w wA := by rw [← hWA]; exact balloc (balloc (balloc (bself w) _) _) _
  have zA : w.heap.size + 2 < wA.heap.size := by rw [← hWA, (alloc3 w _ _ _).2]; omega
  clear hWA
  obtain ⟨w1, hw1⟩ : ∃ w1, w1 = wA.drew.alloc (.cells #[.int .u8 1] 5) := ⟨_, rfl⟩
  have z1 : w1.heap.size = wA.heap.size + 1 := by rw [hw1]; exact World.size_alloc _ _
  have bA1 : Below wA.heap.size wA w1 := by rw [hw1]; exact balloc (bdrew (bself wA)) _
  have s1 : SB w1 w1.heap.size (.slice (some ⟨wA.heap.size, 0, none⟩) 1 1) [1] := by
    have := SB.new1 wA.drew 1
    rw [← show w1 = wA.drew.alloc (.cells #[u8v 1] 5) from hw1] at this
    exact this.more (by rw [z1]; exact Nat.le_refl _)
  have s2 : SB w1 w1.heap.size (.slice (some ⟨w.heap.size, 0, none⟩) 32 32) a.1 := SB.ofRow ((bA1.block w.heap.size (by omega)).trans rA) HA.out.1 a.2.symm (by omega) (by rw [a.2]; simp [maxLen])
  have s3 : SB w1 w1.heap.size (.slice (some ⟨w.heap.size + 1, 0, none⟩) 32 32) b.1 := SB.ofRow ((bA1.block (w.heap.size + 1) (by omega)).trans rB) HA.out.2.1 b.2.symm (by omega) (by rw [b.2]; simp [maxLen])
  have hL := LLthree (g := wA.heap.size + 1) 40 z1.symm s1 s2 s3
  have bw1 : Below w.heap.size w w1 := bA.trans (bA1.mono bA.size)
  have bw2 := balloc bw1 (.cells #[.slice (some ⟨wA.heap.size, 0, none⟩) 1 1, .slice (some ⟨w.heap.size, 0, none⟩) 32 32, .slice (some ⟨w.heap.size + 1, 0, none⟩) 32 32] 40)
  have bA2 : Below wA.heap.size wA _ := balloc bA1 (.cells #[.slice (some ⟨wA.heap.size, 0, none⟩) 1 1, .slice (some ⟨w.heap.size, 0, none⟩) 32 32, .slice (some ⟨w.heap.size + 1, 0, none⟩) 32 32] 40)
  have ef : [[1], a.1, b.1].flatten = 1 :: (a.1 ++ b.1) := by simp
  have HCALL := Lib.hid (kSumC [[1], a.1, b.1] c (by rw [ef]; exact HA.out.2.2) _ _ hL (by rw [ef, List.length_cons, List.length_append, a.2, b.2]; omega) (hk.on bw2 h1) (by have := bw2.size; omega))
  have HRL : Hid (∀ w', Below (w1.alloc (.cells #[.slice (some ⟨wA.heap.size, 0, none⟩) 1 1, .slice (some ⟨w.heap.size, 0, none⟩) 32 32, .slice (some ⟨w.heap.size + 1, 0, none⟩) 32 32] 40)).heap.size (w1.alloc (.cells #[.slice (some ⟨wA.heap.size, 0, none⟩) 1 1, .slice (some ⟨w.heap.size, 0, none⟩) 32 32, .slice (some ⟨w.heap.size + 1, 0, none⟩) 32 32] 40)) w' → w'.heap[w.heap.size + 2]? = some (rowO (dgA (List.replicate 32 0))) ∧ (w'.setRow (w.heap.size + 2) c).heap[w.heap.size + 2]? = some (rowO c) ∧ Below w.heap.size w (w'.setRow (w.heap.size + 2) c)) := Lib.hid (fun w' h => by
    have h2 := ((bstep bA2 h).block (w.heap.size + 2) (by omega)).trans rR
    exact ⟨h2, setRow_heap _ _ _ _ _ _ h2, below_setRow (bstep bw2 h) (by omega) _⟩)
  rw [hw1] at HCALL HRL
  clear hL s1 s2 s3 bw1 bw2 bA2 rA rB rR bA1 z1 hw1 ef
  refine wp_region_noPanic ?_
  refine wp_region_held_drew (S := fun _ => True) (by kernel_rfl) trivial (fun hHeld => ?_)
  refine reg_take 1 (v := ?_) (by rfl) (by kernel_rfl) (by kernel_rfl) (by kernel_rfl) (fun _ _ _ h => h) (by rfl) ?_ (by assumption) ?_
  rotate_left
  · (intro wq hSq; (try dsimp only at hSq); go_split_ands; go_simp; (try with_reducible rfl))
  try simp only [Act.put, List.setIfInBounds_toArray, List.set_cons_zero, List.set_cons_succ]
  refine reg_take 2 (v := ?_) (by rfl) (by kernel_rfl) (by kernel_rfl) (by kernel_rfl) (fun _ _ _ h => h) (by rfl) ?_ (by assumption) ?_
  rotate_left
  · (intro wq hSq; (try dsimp only at hSq); go_split_ands; go_simp; (try with_reducible rfl))
  try simp only [Act.put, List.setIfInBounds_toArray, List.set_cons_zero, List.set_cons_succ]
  refine reg_one 0 (by rfl) (by kernel_rfl) (by rfl) (fun K hK => ?_)
  (go_simp)
  refine hK.out _ _ ?_ (fun hHeld => ?_)
  · trivial
  clear hK K
  try simp only [Act.put, List.setIfInBounds_toArray, List.set_cons_zero, List.set_cons_succ]
  refine reg_one 3 (by rfl) (by kernel_rfl) (by rfl) (fun K hK => ?_)
  (go_simp)
  refine hK.out _ _ ?_ (fun hHeld => ?_)
  · trivial
  clear hK K
  try simp only [Act.put, List.setIfInBounds_toArray, List.set_cons_zero, List.set_cons_succ]
  refine reg_one 4 (by rfl) (by kernel_rfl) (by rfl) (fun K hK => ?_)
  (go_simp; go_at_call 25; refine HCALL.out.mono ?_; rintro e w11 ⟨rfl, hb11⟩; obtain ⟨r11, r12, b11⟩ := HRL.out w11 hb11; go_wp2_with fail)
  refine hK.out _ _ ?_ (fun hHeld => ?_)
  · trivial
  clear hK K
  try simp only [Act.put, List.setIfInBounds_toArray, List.set_cons_zero, List.set_cons_succ]
  refine reg_one 5 (by rfl) (by kernel_rfl) (by rfl) (fun K hK => ?_)
  (refine wp_storeR 31 (.tmp 4) (.tmp 9) rfl _ rfl _ c rfl r11 (by rw [HN.out.1]; kernel_rfl) (by rw [HN.out.1, dgA_size]; rfl) (Array.all_eq_true_iff_forall_mem.2 (fun v hv => HN.out.2 v (by simpa using hv))) ?_)
  refine hK.out _ _ ?_ (fun hHeld => ?_)
  · trivial
  clear hK K
  try simp only [Act.put, List.setIfInBounds_toArray, List.set_cons_zero, List.set_cons_succ]
  refine wpAnyH_done (by kernel_rfl) (noPanic_mk ?_) _
  go_wp2_with fail
  exact bodyPost_ret (v := .agg c) (res_dig Tryd.results34 _ _ _ c rfl r12 HN.out.1) rfl ⟨rfl, b11⟩
theorem alloc4 (w : World) (x y z u : Obj) : ((((w.alloc x).alloc y).alloc z).alloc u).heap[w.heap.size]? = some x ∧ ((((w.alloc x).alloc y).alloc z).alloc u).heap[w.heap.size + 1]? = some y ∧ ((((w.alloc x).alloc y).alloc z).alloc u).heap[w.heap.size + 2]? = some z ∧ ((((w.alloc x).alloc y).alloc z).alloc u).heap[w.heap.size + 3]? = some u := by
  obtain ⟨⟨h1, h2, h3⟩, h4⟩ := alloc3 w x y z
  refine ⟨?_, ?_, ?_, ?_⟩
  · rw [Below.heap_alloc _ _ _ (by omega)]; exact h1
  · rw [Below.heap_alloc _ _ _ (by omega)]; exact h2
  · rw [Below.heap_alloc _ _ _ (by omega)]; exact h3
  · have := heap_alloc_new (((w.alloc x).alloc y).alloc z) u
    rw [h4] at this
    exact this
def metD (a b c d : Dg) : Prop := (a ≠ c ∨ b ≠ d) ∧ jnD a b = jnD c d
set_option maxRecDepth 100000 in
set_option maxHeartbeats 1000000 in
theorem met_any (a b c d : Dg) (w : World) (hk : KTab w 1) (h1 : 1 < w.heap.size) :
    Calls Tryd.prog 26 #[.agg (dgA a.1), .agg (dgA b.1), .agg (dgA c.1), .agg (dgA d.1)] w fun e w' => ∃ q : Bool, e = .returned (.bool q) ∧ (q = true ↔ metD a b c d) ∧ Below w.heap.size w w' := by
  have na := dgA_n a
  have nb := dgA_n b
  have nc := dgA_n c
  have nd := dgA_n d
  go_enter Tryd.func26, Tryd.ntmps26
  go_upto_region 1 with fail
  generalize hw1 : World.alloc _ _ = w1
  have hR : w1.heap[w.heap.size]? = some (rowO (dgA a.1)) ∧ w1.heap[w.heap.size + 1]? = some (rowO (dgA b.1)) ∧ w1.heap[w.heap.size + 1 + 1]? = some (rowO (dgA c.1)) ∧ w1.heap[w.heap.size + 1 + 1 + 1]? = some (rowO (dgA d.1)) := by rw [← hw1]; exact alloc4 w _ _ _ _
  have b1 : Below w.heap.size w w1 := by rw [← hw1]; exact balloc (balloc (balloc (balloc (bself w) _) _) _) _
  have z1 : w.heap.size + 3 < w1.heap.size := by rw [← hw1]; simp
  clear hw1
  have KS : Hid (∀ w', Below w1.heap.size w1 w' → w'.heap[w.heap.size]? = some (rowO (dgA a.1)) ∧ w'.heap[w.heap.size + 1]? = some (rowO (dgA b.1)) ∧ w'.heap[w.heap.size + 1 + 1]? = some (rowO (dgA c.1)) ∧ w'.heap[w.heap.size + 1 + 1 + 1]? = some (rowO (dgA d.1))) := Lib.hid (fun w' h => ⟨(h.block _ (by omega)).trans hR.1, (h.block _ (by omega)).trans hR.2.1, (h.block _ (by omega)).trans hR.2.2.1, (h.block _ (by omega)).trans hR.2.2.2⟩)
  obtain ⟨j1, hj1⟩ : ∃ j1, j1 = jnD a b := ⟨_, rfl⟩
  obtain ⟨j2, hj2⟩ : ∃ j2, j2 = jnD c d := ⟨_, rfl⟩
  have HM1 : Hid (∀ w', Below w1.heap.size w1 w' → Calls Tryd.prog 34 #[.agg (dgA a.1), .agg (dgA b.1)] w' fun e w'' => e = .returned (.agg (dgA j1.1)) ∧ Below w1.heap.size w1 w'') := Lib.hid (fun w' h => (kJoined_any a b _ _ _ rfl rfl (by rw [hj1]) w' (hk.on (bstep b1 h) h1) (by have := (bstep b1 h).size; omega)).mono fun e w'' ⟨he, hb⟩ => ⟨he, bstep h hb⟩)
  have HM2 : Hid (∀ w', Below w1.heap.size w1 w' → Calls Tryd.prog 34 #[.agg (dgA c.1), .agg (dgA d.1)] w' fun e w'' => e = .returned (.agg (dgA j2.1)) ∧ Below w1.heap.size w1 w'') := Lib.hid (fun w' h => (kJoined_any c d _ _ _ rfl rfl (by rw [hj2]) w' (hk.on (bstep b1 h) h1) (by have := (bstep b1 h).size; omega)).mono fun e w'' ⟨he, hb⟩ => ⟨he, bstep h hb⟩)
  have HMET : Hid (metD a b c d ↔ (a ≠ c ∨ b ≠ d) ∧ j1 = j2) := Lib.hid (by rw [hj1, hj2]; exact Iff.rfl)
  have hEqJ : ∀ w', (Op.equalIn 10000 31 (.agg (dgA j1.1)) (.agg (dgA j2.1))).run Tryd.prog w' = .ok (decide (j1 = j2)) w' := fun w' => by rw [← dg_eq]; exact run_eqD w' j1.1 j2.1 j1.2 j2.2
  clear hj1 hj2 hR
  refine wp_region_noPanic ?_
  refine wp_region_held_drew (S := fun w' => w'.heap[w.heap.size]? = some (rowO (dgA a.1)) ∧ w'.heap[w.heap.size + 1]? = some (rowO (dgA b.1)) ∧ w'.heap[w.heap.size + 1 + 1]? = some (rowO (dgA c.1)) ∧ w'.heap[w.heap.size + 1 + 1 + 1]? = some (rowO (dgA d.1))) (by kernel_rfl) (KS.out _ (bdrew (bself w1))) (fun hHeld => ?_)
  refine reg_take 0 (v := .agg (dgA a.1)) (by rfl) (by kernel_rfl) (by kernel_rfl) (by kernel_rfl) (fun _ _ _ h => h) (by rfl) ?_ (by assumption) ?_
  · (intro wq hSq; exact exec_loadDr (.tmp 4) rfl _ rfl _ hSq.1 na)
  try simp only [Act.put, List.setIfInBounds_toArray, List.set_cons_zero, List.set_cons_succ]
  refine reg_take 1 (v := .agg (dgA c.1)) (by rfl) (by kernel_rfl) (by kernel_rfl) (by kernel_rfl) (fun _ _ _ h => h) (by rfl) ?_ (by assumption) ?_
  · (intro wq hSq; exact exec_loadDr (.tmp 6) rfl _ rfl _ hSq.2.2.1 nc)
  try simp only [Act.put, List.setIfInBounds_toArray, List.set_cons_zero, List.set_cons_succ]
  by_cases hac : a = c
  · have hE1 : ∀ w', (Op.equalIn 10000 31 (.agg (dgA a.1)) (.agg (dgA c.1))).run Tryd.prog w' = .ok true w' := fun w' => by rw [show true = decide (a = c) by simp [hac], ← dg_eq]; exact run_eqD w' a.1 c.1 a.2 c.2
    have HAC := Lib.hid hac
    clear hac
    refine reg_take 2 (v := ?_) (by rfl) (by kernel_rfl) (by kernel_rfl) (by kernel_rfl) (fun _ _ _ h => h) (by rfl) ?_ (by assumption) ?_
    rotate_left
    · (intro wq hSq; (try dsimp only at hSq); go_split_ands; go_simp; (try with_reducible rfl))
    try simp only [Act.put, List.setIfInBounds_toArray, List.set_cons_zero, List.set_cons_succ]
    refine reg_take 3 (v := ?_) (by rfl) (by kernel_rfl) (by kernel_rfl) (by kernel_rfl) (fun _ _ _ h => h) (by rfl) ?_ (by assumption) ?_
    rotate_left
    · (intro wq hSq; (try dsimp only at hSq); go_split_ands; go_simp; (try with_reducible rfl))
    try simp only [Act.put, List.setIfInBounds_toArray, List.set_cons_zero, List.set_cons_succ]
    refine reg_take 4 (v := .agg (dgA b.1)) (by rfl) (by kernel_rfl) (by kernel_rfl) (by kernel_rfl) (fun _ _ _ h => h) (by rfl) ?_ (by assumption) ?_
    · (intro wq hSq; exact exec_loadDr (.tmp 5) rfl _ rfl _ hSq.2.1 nb)
    try simp only [Act.put, List.setIfInBounds_toArray, List.set_cons_zero, List.set_cons_succ]
    refine reg_take 5 (v := .agg (dgA d.1)) (by rfl) (by kernel_rfl) (by kernel_rfl) (by kernel_rfl) (fun _ _ _ h => h) (by rfl) ?_ (by assumption) ?_
    · (intro wq hSq; exact exec_loadDr (.tmp 7) rfl _ rfl _ hSq.2.2.2 nd)
    try simp only [Act.put, List.setIfInBounds_toArray, List.set_cons_zero, List.set_cons_succ]
    by_cases hbd : b = d
    · have hE2 : ∀ w', (Op.equalIn 10000 31 (.agg (dgA b.1)) (.agg (dgA d.1))).run Tryd.prog w' = .ok true w' := fun w' => by rw [show true = decide (b = d) by simp [hbd], ← dg_eq]; exact run_eqD w' b.1 d.1 b.2 d.2
      have HF : Hid (¬ metD a b c d) := Lib.hid (by rw [HMET.out]; intro h; rcases h.1 with h | h; exact h HAC.out; exact h hbd)
      clear hbd
      refine reg_take 6 (v := ?_) (by rfl) (by kernel_rfl) (by kernel_rfl) (by kernel_rfl) (fun _ _ _ h => h) (by rfl) ?_ (by assumption) ?_
      rotate_left
      · (intro wq hSq; (try dsimp only at hSq); go_split_ands; go_simp; (try with_reducible rfl))
      try simp only [Act.put, List.setIfInBounds_toArray, List.set_cons_zero, List.set_cons_succ]
      refine reg_take 7 (v := ?_) (by rfl) (by kernel_rfl) (by kernel_rfl) (by kernel_rfl) (fun _ _ _ h => h) (by rfl) ?_ (by assumption) ?_
      rotate_left
      · (intro wq hSq; (try dsimp only at hSq); go_split_ands; go_simp; (try with_reducible rfl))
      try simp only [Act.put, List.setIfInBounds_toArray, List.set_cons_zero, List.set_cons_succ]
      refine reg_take 8 (v := ?_) (by rfl) (by kernel_rfl) (by kernel_rfl) (by kernel_rfl) (fun _ _ _ h => h) (by rfl) ?_ (by assumption) ?_
      rotate_left
      · (intro wq hSq; (try dsimp only at hSq); go_split_ands; go_simp; (try with_reducible rfl))
      try simp only [Act.put, List.setIfInBounds_toArray, List.set_cons_zero, List.set_cons_succ]
      refine reg_skip 9 (by rfl) (by kernel_rfl) (by kernel_rfl) (by kernel_rfl) (fun _ _ _ h => h) (by rfl) (by assumption) ?_
      try simp only [Act.put, List.setIfInBounds_toArray, List.set_cons_zero, List.set_cons_succ]
      refine reg_skip 10 (by rfl) (by kernel_rfl) (by kernel_rfl) (by kernel_rfl) (fun _ _ _ h => h) (by rfl) (by assumption) ?_
      try simp only [Act.put, List.setIfInBounds_toArray, List.set_cons_zero, List.set_cons_succ]
      refine reg_skip 11 (by rfl) (by kernel_rfl) (by kernel_rfl) (by kernel_rfl) (fun _ _ _ h => h) (by rfl) (by assumption) ?_
      try simp only [Act.put, List.setIfInBounds_toArray, List.set_cons_zero, List.set_cons_succ]
      refine reg_skip 12 (by rfl) (by kernel_rfl) (by kernel_rfl) (by kernel_rfl) (fun _ _ _ h => h) (by rfl) (by assumption) ?_
      try simp only [Act.put, List.setIfInBounds_toArray, List.set_cons_zero, List.set_cons_succ]
      refine reg_skip 13 (by rfl) (by kernel_rfl) (by kernel_rfl) (by kernel_rfl) (fun _ _ _ h => h) (by rfl) (by assumption) ?_
      try simp only [Act.put, List.setIfInBounds_toArray, List.set_cons_zero, List.set_cons_succ]
      refine reg_skip 14 (by rfl) (by kernel_rfl) (by kernel_rfl) (by kernel_rfl) (fun _ _ _ h => h) (by rfl) (by assumption) ?_
      try simp only [Act.put, List.setIfInBounds_toArray, List.set_cons_zero, List.set_cons_succ]
      refine reg_skip 15 (by rfl) (by kernel_rfl) (by kernel_rfl) (by kernel_rfl) (fun _ _ _ h => h) (by rfl) (by assumption) ?_
      try simp only [Act.put, List.setIfInBounds_toArray, List.set_cons_zero, List.set_cons_succ]
      refine reg_take 16 (v := ?_) (by rfl) (by kernel_rfl) (by kernel_rfl) (by kernel_rfl) (fun _ _ _ h => h) (by rfl) ?_ (by assumption) ?_
      rotate_left
      · (intro wq hSq; (try dsimp only at hSq); go_split_ands; go_simp; (try with_reducible rfl))
      try simp only [Act.put, List.setIfInBounds_toArray, List.set_cons_zero, List.set_cons_succ]
      refine reg_take 17 (v := ?_) (by rfl) (by kernel_rfl) (by kernel_rfl) (by kernel_rfl) (fun _ _ _ h => h) (by rfl) ?_ (by assumption) ?_
      rotate_left
      · (intro wq hSq; (try dsimp only at hSq); go_split_ands; go_simp; (try with_reducible rfl))
      try simp only [Act.put, List.setIfInBounds_toArray, List.set_cons_zero, List.set_cons_succ]
      refine wpAnyH_done (by kernel_rfl) (noPanic_mk ?_) _
      go_wp2_with fail
      go_ret
      exact ⟨false, rfl, ⟨fun h => (by cases h), fun h => absurd h HF.out⟩, bdrew b1⟩
    · have hE2 : ∀ w', (Op.equalIn 10000 31 (.agg (dgA b.1)) (.agg (dgA d.1))).run Tryd.prog w' = .ok false w' := fun w' => by rw [show false = decide (b = d) by simp [hbd], ← dg_eq]; exact run_eqD w' b.1 d.1 b.2 d.2
      have HF : Hid (decide (j1 = j2) = true ↔ metD a b c d) := Lib.hid (by rw [HMET.out, decide_eq_true_iff]; exact ⟨fun h => ⟨Or.inr hbd, h⟩, fun h => h.2⟩)
      clear hbd
      refine reg_take 6 (v := ?_) (by rfl) (by kernel_rfl) (by kernel_rfl) (by kernel_rfl) (fun _ _ _ h => h) (by rfl) ?_ (by assumption) ?_
      rotate_left
      · (intro wq hSq; (try dsimp only at hSq); go_split_ands; go_simp; (try with_reducible rfl))
      try simp only [Act.put, List.setIfInBounds_toArray, List.set_cons_zero, List.set_cons_succ]
      refine reg_take 7 (v := ?_) (by rfl) (by kernel_rfl) (by kernel_rfl) (by kernel_rfl) (fun _ _ _ h => h) (by rfl) ?_ (by assumption) ?_
      rotate_left
      · (intro wq hSq; (try dsimp only at hSq); go_split_ands; go_simp; (try with_reducible rfl))
      try simp only [Act.put, List.setIfInBounds_toArray, List.set_cons_zero, List.set_cons_succ]
      refine reg_take 8 (v := ?_) (by rfl) (by kernel_rfl) (by kernel_rfl) (by kernel_rfl) (fun _ _ _ h => h) (by rfl) ?_ (by assumption) ?_
      rotate_left
      · (intro wq hSq; (try dsimp only at hSq); go_split_ands; go_simp; (try with_reducible rfl))
      try simp only [Act.put, List.setIfInBounds_toArray, List.set_cons_zero, List.set_cons_succ]
      refine reg_take 9 (v := .agg (dgA a.1)) (by rfl) (by kernel_rfl) (by kernel_rfl) (by kernel_rfl) (fun _ _ _ h => h) (by rfl) ?_ (by assumption) ?_
      · (intro wq hSq; exact exec_loadDr (.tmp 4) rfl _ rfl _ hSq.1 na)
      try simp only [Act.put, List.setIfInBounds_toArray, List.set_cons_zero, List.set_cons_succ]
      refine reg_take 10 (v := .agg (dgA b.1)) (by rfl) (by kernel_rfl) (by kernel_rfl) (by kernel_rfl) (fun _ _ _ h => h) (by rfl) ?_ (by assumption) ?_
      · (intro wq hSq; exact exec_loadDr (.tmp 5) rfl _ rfl _ hSq.2.1 nb)
      try simp only [Act.put, List.setIfInBounds_toArray, List.set_cons_zero, List.set_cons_succ]
      refine reg_take 12 (v := .agg (dgA c.1)) (by rfl) (by kernel_rfl) (by kernel_rfl) (by kernel_rfl) (fun _ _ _ h => h) (by rfl) ?_ (by assumption) ?_
      · (intro wq hSq; exact exec_loadDr (.tmp 6) rfl _ rfl _ hSq.2.2.1 nc)
      try simp only [Act.put, List.setIfInBounds_toArray, List.set_cons_zero, List.set_cons_succ]
      refine reg_take 13 (v := .agg (dgA d.1)) (by rfl) (by kernel_rfl) (by kernel_rfl) (by kernel_rfl) (fun _ _ _ h => h) (by rfl) ?_ (by assumption) ?_
      · (intro wq hSq; exact exec_loadDr (.tmp 7) rfl _ rfl _ hSq.2.2.2 nd)
      try simp only [Act.put, List.setIfInBounds_toArray, List.set_cons_zero, List.set_cons_succ]
      refine reg_one 11 (by rfl) (by kernel_rfl) (by rfl) (fun K hK => ?_)
      (go_simp; go_at_call 34; refine (HM1.out _ (bdrew (bself w1))).mono ?_; rintro e w4 ⟨rfl, b4⟩; go_wp2_with fail)
      refine hK.out _ _ ?_ (fun hHeld => ?_)
      · exact KS.out _ b4
      clear hK K
      try simp only [Act.put, List.setIfInBounds_toArray, List.set_cons_zero, List.set_cons_succ]
      refine reg_one 14 (by rfl) (by kernel_rfl) (by rfl) (fun K hK => ?_)
      (go_simp; go_at_call 34; refine (HM2.out _ b4).mono ?_; rintro e w5 ⟨rfl, b5⟩; go_wp2_with fail)
      refine hK.out _ _ ?_ (fun hHeld => ?_)
      · exact KS.out _ b5
      clear hK K
      try simp only [Act.put, List.setIfInBounds_toArray, List.set_cons_zero, List.set_cons_succ]
      refine reg_take 15 (v := ?_) (by rfl) (by kernel_rfl) (by kernel_rfl) (by kernel_rfl) (fun _ _ _ h => h) (by rfl) ?_ (by assumption) ?_
      rotate_left
      · (intro wq hSq; (try dsimp only at hSq); go_split_ands; go_simp; (try with_reducible rfl))
      try simp only [Act.put, List.setIfInBounds_toArray, List.set_cons_zero, List.set_cons_succ]
      refine reg_take 16 (v := ?_) (by rfl) (by kernel_rfl) (by kernel_rfl) (by kernel_rfl) (fun _ _ _ h => h) (by rfl) ?_ (by assumption) ?_
      rotate_left
      · (intro wq hSq; (try dsimp only at hSq); go_split_ands; go_simp; (try with_reducible rfl))
      try simp only [Act.put, List.setIfInBounds_toArray, List.set_cons_zero, List.set_cons_succ]
      refine reg_take 17 (v := ?_) (by rfl) (by kernel_rfl) (by kernel_rfl) (by kernel_rfl) (fun _ _ _ h => h) (by rfl) ?_ (by assumption) ?_
      rotate_left
      · (intro wq hSq; (try dsimp only at hSq); go_split_ands; go_simp; (try with_reducible rfl))
      try simp only [Act.put, List.setIfInBounds_toArray, List.set_cons_zero, List.set_cons_succ]
      refine wpAnyH_done (by kernel_rfl) (noPanic_mk ?_) _
      go_wp2_with fail
      go_ret
      exact ⟨decide (j1 = j2), rfl, HF.out, bstep b1 b5⟩
  · have hE1 : ∀ w', (Op.equalIn 10000 31 (.agg (dgA a.1)) (.agg (dgA c.1))).run Tryd.prog w' = .ok false w' := fun w' => by rw [show false = decide (a = c) by simp [hac], ← dg_eq]; exact run_eqD w' a.1 c.1 a.2 c.2
    have HF : Hid (decide (j1 = j2) = true ↔ metD a b c d) := Lib.hid (by rw [HMET.out, decide_eq_true_iff]; exact ⟨fun h => ⟨Or.inl hac, h⟩, fun h => h.2⟩)
    clear hac
    refine reg_take 2 (v := ?_) (by rfl) (by kernel_rfl) (by kernel_rfl) (by kernel_rfl) (fun _ _ _ h => h) (by rfl) ?_ (by assumption) ?_
    rotate_left
    · (intro wq hSq; (try dsimp only at hSq); go_split_ands; go_simp; (try with_reducible rfl))
    try simp only [Act.put, List.setIfInBounds_toArray, List.set_cons_zero, List.set_cons_succ]
    refine reg_take 3 (v := ?_) (by rfl) (by kernel_rfl) (by kernel_rfl) (by kernel_rfl) (fun _ _ _ h => h) (by rfl) ?_ (by assumption) ?_
    rotate_left
    · (intro wq hSq; (try dsimp only at hSq); go_split_ands; go_simp; (try with_reducible rfl))
    try simp only [Act.put, List.setIfInBounds_toArray, List.set_cons_zero, List.set_cons_succ]
    refine reg_skip 4 (by rfl) (by kernel_rfl) (by kernel_rfl) (by kernel_rfl) (fun _ _ _ h => h) (by rfl) (by assumption) ?_
    try simp only [Act.put, List.setIfInBounds_toArray, List.set_cons_zero, List.set_cons_succ]
    refine reg_skip 5 (by rfl) (by kernel_rfl) (by kernel_rfl) (by kernel_rfl) (fun _ _ _ h => h) (by rfl) (by assumption) ?_
    try simp only [Act.put, List.setIfInBounds_toArray, List.set_cons_zero, List.set_cons_succ]
    refine reg_skip 6 (by rfl) (by kernel_rfl) (by kernel_rfl) (by kernel_rfl) (fun _ _ _ h => h) (by rfl) (by assumption) ?_
    try simp only [Act.put, List.setIfInBounds_toArray, List.set_cons_zero, List.set_cons_succ]
    refine reg_take 7 (v := ?_) (by rfl) (by kernel_rfl) (by kernel_rfl) (by kernel_rfl) (fun _ _ _ h => h) (by rfl) ?_ (by assumption) ?_
    rotate_left
    · (intro wq hSq; (try dsimp only at hSq); go_split_ands; go_simp; (try with_reducible rfl))
    try simp only [Act.put, List.setIfInBounds_toArray, List.set_cons_zero, List.set_cons_succ]
    refine reg_take 8 (v := ?_) (by rfl) (by kernel_rfl) (by kernel_rfl) (by kernel_rfl) (fun _ _ _ h => h) (by rfl) ?_ (by assumption) ?_
    rotate_left
    · (intro wq hSq; (try dsimp only at hSq); go_split_ands; go_simp; (try with_reducible rfl))
    try simp only [Act.put, List.setIfInBounds_toArray, List.set_cons_zero, List.set_cons_succ]
    refine reg_take 9 (v := .agg (dgA a.1)) (by rfl) (by kernel_rfl) (by kernel_rfl) (by kernel_rfl) (fun _ _ _ h => h) (by rfl) ?_ (by assumption) ?_
    · (intro wq hSq; exact exec_loadDr (.tmp 4) rfl _ rfl _ hSq.1 na)
    try simp only [Act.put, List.setIfInBounds_toArray, List.set_cons_zero, List.set_cons_succ]
    refine reg_take 10 (v := .agg (dgA b.1)) (by rfl) (by kernel_rfl) (by kernel_rfl) (by kernel_rfl) (fun _ _ _ h => h) (by rfl) ?_ (by assumption) ?_
    · (intro wq hSq; exact exec_loadDr (.tmp 5) rfl _ rfl _ hSq.2.1 nb)
    try simp only [Act.put, List.setIfInBounds_toArray, List.set_cons_zero, List.set_cons_succ]
    refine reg_take 12 (v := .agg (dgA c.1)) (by rfl) (by kernel_rfl) (by kernel_rfl) (by kernel_rfl) (fun _ _ _ h => h) (by rfl) ?_ (by assumption) ?_
    · (intro wq hSq; exact exec_loadDr (.tmp 6) rfl _ rfl _ hSq.2.2.1 nc)
    try simp only [Act.put, List.setIfInBounds_toArray, List.set_cons_zero, List.set_cons_succ]
    refine reg_take 13 (v := .agg (dgA d.1)) (by rfl) (by kernel_rfl) (by kernel_rfl) (by kernel_rfl) (fun _ _ _ h => h) (by rfl) ?_ (by assumption) ?_
    · (intro wq hSq; exact exec_loadDr (.tmp 7) rfl _ rfl _ hSq.2.2.2 nd)
    try simp only [Act.put, List.setIfInBounds_toArray, List.set_cons_zero, List.set_cons_succ]
    refine reg_one 11 (by rfl) (by kernel_rfl) (by rfl) (fun K hK => ?_)
    (go_simp; go_at_call 34; refine (HM1.out _ (bdrew (bself w1))).mono ?_; rintro e w4 ⟨rfl, b4⟩; go_wp2_with fail)
    refine hK.out _ _ ?_ (fun hHeld => ?_)
    · exact KS.out _ b4
    clear hK K
    try simp only [Act.put, List.setIfInBounds_toArray, List.set_cons_zero, List.set_cons_succ]
    refine reg_one 14 (by rfl) (by kernel_rfl) (by rfl) (fun K hK => ?_)
    (go_simp; go_at_call 34; refine (HM2.out _ b4).mono ?_; rintro e w5 ⟨rfl, b5⟩; go_wp2_with fail)
    refine hK.out _ _ ?_ (fun hHeld => ?_)
    · exact KS.out _ b5
    clear hK K
    try simp only [Act.put, List.setIfInBounds_toArray, List.set_cons_zero, List.set_cons_succ]
    refine reg_take 15 (v := ?_) (by rfl) (by kernel_rfl) (by kernel_rfl) (by kernel_rfl) (fun _ _ _ h => h) (by rfl) ?_ (by assumption) ?_
    rotate_left
    · (intro wq hSq; (try dsimp only at hSq); go_split_ands; go_simp; (try with_reducible rfl))
    try simp only [Act.put, List.setIfInBounds_toArray, List.set_cons_zero, List.set_cons_succ]
    refine reg_take 16 (v := ?_) (by rfl) (by kernel_rfl) (by kernel_rfl) (by kernel_rfl) (fun _ _ _ h => h) (by rfl) ?_ (by assumption) ?_
    rotate_left
    · (intro wq hSq; (try dsimp only at hSq); go_split_ands; go_simp; (try with_reducible rfl))
    try simp only [Act.put, List.setIfInBounds_toArray, List.set_cons_zero, List.set_cons_succ]
    refine reg_take 17 (v := ?_) (by rfl) (by kernel_rfl) (by kernel_rfl) (by kernel_rfl) (fun _ _ _ h => h) (by rfl) ?_ (by assumption) ?_
    rotate_left
    · (intro wq hSq; (try dsimp only at hSq); go_split_ands; go_simp; (try with_reducible rfl))
    try simp only [Act.put, List.setIfInBounds_toArray, List.set_cons_zero, List.set_cons_succ]
    refine wpAnyH_done (by kernel_rfl) (noPanic_mk ?_) _
    go_wp2_with fail
    go_ret
    exact ⟨decide (j1 = j2), rfl, HF.out, bstep b1 b5⟩
end Go.Proofs.YtjmlohfldkbbaaaDoor
