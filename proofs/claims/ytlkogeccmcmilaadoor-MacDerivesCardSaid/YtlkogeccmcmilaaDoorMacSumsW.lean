/-
  What is proved here: what Extract of package mac and MacSums of tantaluslaw04 come to, at this seat's numbers. Conditions: the lengths; the tables of constants.
-/
import Derived.Test.YtlkogeccmcmilaaDoorMacRefW2
import Derived.Test.YtlkogeccmcmilaaDoorMacTellsW
namespace Go.Proofs.YtlkogeccmcmilaaDoor
open Go.RowKit

set_option maxRecDepth 100000 in
set_option maxHeartbeats 2000000 in
theorem kExtract_any (key b : List UInt8) (d : Array Value) (hd : dgA (macOf key b) = d) (v u : Value) (w : World) (hv : SB w w.heap.size v key) (hu : SB w w.heap.size u b) (hl : key.length ≤ 1152921504606846000) (hl2 : b.length ≤ 1152921504606845000) (hk : KTab w 0) (h1 : 0 < w.heap.size) :
    Calls Tryd.prog 18 #[v, u] w fun e w' => e = .returned (.agg d) ∧ Below w.heap.size w w' := by
  have HN : Hid (d.size = 32 ∧ ∀ v ∈ d.toList, v.oneCell' = true) := Lib.hid (by rw [← hd]; exact ⟨by rw [dgA_size, macOf_length], dgA_one _⟩)
  have HD := Lib.hid hd
  clear hd
  obtain ⟨A2, c2, rfl, _, _, _⟩ := id hu
  go_enter Tryd.func18, Tryd.ntmps18
  go_upto_region 1 with fail
  generalize hWA : w.alloc _ = wA
  have rR : wA.heap[w.heap.size]? = some (rowO (dgA (List.replicate 32 0))) := by rw [← hWA]; exact (heap_alloc_new w _).trans (by kernel_rfl)
  have bA : Below w.heap.size w wA := by rw [← hWA]; exact balloc (bself w) _
  have zA : w.heap.size < wA.heap.size := by rw [← hWA]; simp
  clear hWA
  have hL : LL (wA.alloc (.cells #[.slice A2 b.length c2] 22)) _ (.slice (some ⟨wA.heap.size, 0, none⟩) 1 1) [b] := LL.one 22 rfl ((hu.below bA).more (by omega))
  have bB := balloc bA (.cells #[.slice A2 b.length c2] 22)
  have HM := Lib.hid (kMacC key [b] d (by rw [flat1]; exact HD.out) v _ _ ((hv.below bB).more (by rw [World.size_alloc]; omega)) hL hl (by rw [flat1]; exact hl2) (hk.on bB h1) (by rw [World.size_alloc]; omega))
  have HR : Hid (∀ w', Below (wA.alloc (.cells #[.slice A2 b.length c2] 22)).heap.size (wA.alloc (.cells #[.slice A2 b.length c2] 22)) w' → w'.heap[w.heap.size]? = some (rowO (dgA (List.replicate 32 0))) ∧ (w'.setRow w.heap.size d).heap[w.heap.size]? = some (rowO d) ∧ Below w.heap.size w (w'.setRow w.heap.size d)) := Lib.hid (fun w' h => by
    have h2 : Below wA.heap.size wA w' := bstep (balloc (bself wA) _) h
    have h3 := (h2.block w.heap.size (by omega)).trans rR
    exact ⟨h3, setRow_heap _ _ _ _ _ _ h3, below_setRow (bA.trans (h2.mono bA.size)) (Nat.le_refl _) _⟩)
  have HZ : Hid ((dgA (List.replicate 32 0)).size = 32) := Lib.hid (by rw [dgA_size]; rfl)
  clear hL bB rR bA hv hu
  go_wp2_with fail
  refine HM.out.mono ?_
  rintro e w7 ⟨rfl, hb7⟩
  have h7 := Lib.hid (HR.out w7 hb7)
  clear HM HR hb7
  go_wp2_with (refine wl_storeD rfl (.tmp 4) (.tmp 8) rfl _ rfl _ d rfl h7.out.1 HZ.out HN.out.1 HN.out.2 ?_)
  exact bodyPost_ret (v := .agg d) (res_dig Tryd.results18 _ _ _ d rfl h7.out.2.1 HN.out.1) rfl ⟨rfl, h7.out.2.2⟩

theorem exec_loadD' {o : Oper} {a : Act} {w : World} (x : Operand) (ho : o.op = .load 33 x) (g : Nat) (hx : a.eval x = .pointer (some ⟨g, 0, none⟩)) (cs : Array Value) (hg : w.heap[g]? = some (rowO cs)) (hn : cs.size = 32) :
    (execOp a.eval o).run Tryd.prog w = .ok (.value (.agg cs)) w := by
  unfold execOp
  simp only [ho, hx, Instr.loadAt, Instr.sureAddr, Sem.run_bind, Sem.run_pure, Result.andThen_ok, run_loadVar_row w g 33 33 cs (0, 0) _ hg Tryd.underlying33 rfl (by rw [hn]; kernel_rfl)]
theorem LL3 {w : World} {x y z : Value} {a b c : List UInt8} {g : Nat} (t : TypeId) (hg : g = w.heap.size) (hx : SB w w.heap.size x a) (hy : SB w w.heap.size y b) (hz : SB w w.heap.size z c) : LL (w.alloc (.cells #[x, y, z] t)) (w.alloc (.cells #[x, y, z] t)).heap.size (.slice (some ⟨g, 0, none⟩) 3 3) [a, b, c] :=
  LL.new [x, y, z] [a, b, c] t hg rfl rfl (by simp [maxLen]) (fun i u l h1 h2 => by
    rcases i with _ | _ | _ | i
    · simp at h1 h2; subst h1; subst h2; exact hx
    · simp at h1 h2; subst h1; subst h2; exact hy
    · simp at h1 h2; subst h1; subst h2; exact hz
    · simp at h1)
theorem flat3 (a b c : List UInt8) : [a, b, c].flatten = a ++ (b ++ c) := by simp
set_option maxRecDepth 100000 in
set_option maxHeartbeats 2000000 in
theorem macSums_any (a b : List UInt8) (v u : Value) (cut : UInt64) (W : World) (hv : SB W W.heap.size v a) (hu : SB W W.heap.size u b) (hl : a.length ≤ 140737488351232) (hl2 : b.length ≤ 140737488351232) (hk : KTab W 0) (h1 : 0 < W.heap.size) (hk0 : KTab W 1) (h0 : 1 < W.heap.size) :
    Calls Tryd.prog 8 #[v, u, .int .u64 (cut.toNat : Int)] W fun e W' => e = .returned (.bool true) ∧ Below W.heap.size W W' := by
  obtain ⟨A, c0, rfl, _, _, _⟩ := id hv
  obtain ⟨A2, c2, rfl, hlc2, hcm2, _⟩ := id hu
  obtain ⟨d, hd⟩ : ∃ d, dgA (macOf a b) = d := ⟨_, rfl⟩
  have hEq : ∀ w', (Op.equalIn 10000 33 (.agg d) (.agg d)).run Tryd.prog w' = .ok true w' := fun w' => run_eqC w' d _ (macOf_length a b) hd
  have HN : Hid (d.size = 32 ∧ ∀ v ∈ d.toList, v.oneCell' = true) := Lib.hid (by rw [← hd]; exact ⟨by rw [dgA_size, macOf_length], dgA_one _⟩)
  have HD := Lib.hid hd
  clear hd
  have hcm : c2 ≤ 9223372036854775807 := by unfold maxLen at hcm2; omega
  clear hcm2
  obtain ⟨k, hk0'⟩ : ∃ k, k = cut.toNat % (b.length + 1) := ⟨_, rfl⟩
  have hkl : k ≤ b.length := by have := Nat.mod_lt cut.toNat (show 0 < b.length + 1 by omega); omega
  have e1 : (cut.toNat : Int) % ((b.length : Int) + 1) = (k : Int) := by rw [hk0']; norm_cast
  have hcl := cut.toNat_lt
  clear hk0'
  have HR := Lib.hid (rMac_any a b d HD.out _ _ W hv hu (by omega) (by omega) hk0 h0)
  go_enter Tryd.func8, Tryd.ntmps8
  go_wp2_with fail
  refine HR.out.mono ?_
  rintro e w1 ⟨rfl, hb1⟩
  go_upto_region 3 with (refine wl_storeD rfl (.tmp 8) (.tmp 18) rfl _ rfl _ d rfl (heap_alloc_new w1 _) (by kernel_rfl) HN.out.1 HN.out.2 ?_)
  generalize hw2 : World.setRow _ _ _ = w2
  have rD : w2.heap[w1.heap.size]? = some (rowO d) := by rw [← hw2]; exact setRow_heap _ _ _ _ _ _ (heap_alloc_new w1 _)
  have b12 : Below w1.heap.size w1 w2 := by rw [← hw2]; exact below_setRow (balloc (bself w1) _) (Nat.le_refl _) _
  have z2 : Hid (w2.heap.size = w1.heap.size + 1) := Lib.hid (by rw [← hw2]; simp)
  clear hw2
  have b2 := bstep hb1 b12
  have KS : Hid (∀ w', Below w2.heap.size w2 w' → w'.heap[w1.heap.size]? = some (rowO d)) := Lib.hid (fun w' h => (h.block w1.heap.size (by have := z2.out; omega)).trans rD)
  have HSH : Hid (∀ w', Below w2.heap.size w2 w' → Calls Tryd.prog 12 #[] w' fun e w'' => e = .returned (.bool true) ∧ Below w2.heap.size w2 w'') := Lib.hid (fun w' h => (shown4_any w' (hk.on (bstep b2 h) h1) (by have := (bstep b2 h).size; omega)).mono fun e w'' ⟨he, hb⟩ => ⟨he, bstep h hb⟩)
  have HM1 : Hid (∀ x, Below w2.heap.size w2 x → Calls Tryd.prog 16 #[.slice A a.length c0, .slice (some ⟨x.heap.size, 0, none⟩) 1 1] (x.alloc (.cells #[.slice A2 b.length c2] 22)) fun e w'' => e = .returned (.agg d) ∧ Below w2.heap.size w2 w'') := Lib.hid (fun x hx => by
    have hX := bstep b2 hx
    have h3 := balloc hX (.cells #[.slice A2 b.length c2] 22)
    refine (kMacC a [b] d (by rw [flat1]; exact HD.out) _ _ _ (hv.on h3) (LL.one 22 rfl (hu.on hX)) (by omega) (by rw [flat1]; omega) (hk.on h3 h1) (by have := h3.size; omega)).mono fun e w'' ⟨he, hb⟩ => ⟨he, bstep (balloc hx _) hb⟩)
  have HM2 : Hid (∀ x, Below w2.heap.size w2 x → Calls Tryd.prog 18 #[.slice A a.length c0, .slice A2 b.length c2] x fun e w'' => e = .returned (.agg d) ∧ Below w2.heap.size w2 w'') := Lib.hid (fun x hx => by
    have h3 := bstep b2 hx
    refine (kExtract_any a b d HD.out _ _ _ (hv.on h3) (hu.on h3) (by omega) (by omega) (hk.on h3 h1) (by have := h3.size; omega)).mono fun e w'' ⟨he, hb⟩ => ⟨he, bstep hx hb⟩)
  have HM3 : Hid (∀ x, Below w2.heap.size w2 x → Calls Tryd.prog 16 #[.slice A a.length c0, .slice (some ⟨x.heap.size, 0, none⟩) 3 3] (x.alloc (.cells #[.slice A2 k c2, .slice none 0 0, .slice (if c2 = k then A2 else A2.map (·.add k)) (b.length - k) (c2 - k)] 22)) fun e w'' => e = .returned (.agg d) ∧ Below w2.heap.size w2 w'') := Lib.hid (fun x hx => by
    have hX := bstep b2 hx
    have h3 := balloc hX (.cells #[.slice A2 k c2, .slice none 0 0, .slice (if c2 = k then A2 else A2.map (·.add k)) (b.length - k) (c2 - k)] 22)
    have s1 : SB x x.heap.size (.slice A2 k c2) (b.take k) := by
      have h := Sl.take (hu.on hX) (k := k) hkl rfl
      unfold SB
      rw [List.length_take, Nat.min_eq_left hkl, bv_take]
      rw [Nat.mul_one] at h
      exact h
    have s3 : SB x x.heap.size (.slice (if c2 = k then A2 else A2.map (·.add k)) (b.length - k) (c2 - k)) (b.drop k) := by
      have h := Sl.cut (hu.on hX) (k := k) hkl rfl
      unfold SB
      rw [List.length_drop, bv_drop]
      rw [Nat.mul_one] at h
      exact h
    refine (kMacC a [b.take k, [], b.drop k] d (by rw [flat3, List.nil_append, List.take_append_drop]; exact HD.out) _ _ _ (hv.on h3) (LL3 22 rfl s1 (SB.nil_ _ _) s3) (by omega) (by rw [flat3, List.nil_append, List.take_append_drop]; omega) (hk.on h3 h1) (by have := h3.size; omega)).mono fun e w'' ⟨he, hb⟩ => ⟨he, bstep (balloc hx _) hb⟩)
  obtain ⟨A9, hA9⟩ : ∃ A9, A9 = if c2 = k then A2 else A2.map (·.add k) := ⟨_, rfl⟩
  rw [← hA9] at HM3
  have HA9 := Lib.hid hA9
  clear hA9
  have y1 : (k : Int) ≤ (c2 : Int) := by omega
  have y2 : (k : Int) ≤ (b.length : Int) := by omega
  have y3 : (b.length : Int) ≤ (c2 : Int) := by omega
  clear rD b12 hcl e1
  refine wp_region_noPanic ?_
  refine wp_region_held_drew (S := fun w' => w'.heap[w1.heap.size]? = some (rowO d)) (by kernel_rfl) (KS.out _ (bdrew (bself w2))) (fun hHeld => ?_)
  refine reg_one 0 (by rfl) (by kernel_rfl) (by rfl) (fun K hK => ?_)
  (go_simp; go_at_call 12; refine (HSH.out _ (bdrew (bself w2))).mono ?_; rintro e w3 ⟨rfl, b3⟩; go_wp2_with fail)
  refine hK.out _ _ ?_ (fun hHeld => ?_)
  · exact KS.out _ b3
  clear hK K
  try simp only [Act.put, List.setIfInBounds_toArray, List.set_cons_zero, List.set_cons_succ]
  refine reg_take 1 (v := ?_) (by rfl) (by kernel_rfl) (by kernel_rfl) (by kernel_rfl) (fun _ _ _ h => h) (by rfl) ?_ (by assumption) ?_
  rotate_left
  · (intro wq hSq; (try dsimp only at hSq); go_split_ands; go_simp; (try with_reducible rfl))
  try simp only [Act.put, List.setIfInBounds_toArray, List.set_cons_zero, List.set_cons_succ]
  refine reg_take 2 (v := ?_) (by rfl) (by kernel_rfl) (by kernel_rfl) (by kernel_rfl) (fun _ _ _ h => h) (by rfl) ?_ (by assumption) ?_
  rotate_left
  · (intro wq hSq; (try dsimp only at hSq); go_split_ands; go_simp; (try with_reducible rfl))
  try simp only [Act.put, List.setIfInBounds_toArray, List.set_cons_zero, List.set_cons_succ]
  refine reg_take 3 (v := ?_) (by rfl) (by kernel_rfl) (by kernel_rfl) (by kernel_rfl) (fun _ _ _ h => h) (by rfl) ?_ (by assumption) ?_
  rotate_left
  · (intro wq hSq; (try dsimp only at hSq); go_split_ands; go_simp; (try with_reducible rfl))
  try simp only [Act.put, List.setIfInBounds_toArray, List.set_cons_zero, List.set_cons_succ]
  refine reg_take 6 (v := .agg d) (by rfl) (by kernel_rfl) (by kernel_rfl) (by kernel_rfl) (fun _ _ _ h => h) (by rfl) ?_ (by assumption) ?_
  · (intro wq hSq; exact exec_loadD' (.tmp 8) rfl _ rfl d hSq HN.out.1)
  try simp only [Act.put, List.setIfInBounds_toArray, List.set_cons_zero, List.set_cons_succ]
  refine reg_one 4 (by rfl) (by kernel_rfl) (by rfl) (fun K hK => ?_)
  (go_simp)
  refine hK.out _ _ ?_ (fun hHeld => ?_)
  · exact KS.out _ (balloc b3 _)
  clear hK K
  try simp only [Act.put, List.setIfInBounds_toArray, List.set_cons_zero, List.set_cons_succ]
  refine reg_one 5 (by rfl) (by kernel_rfl) (by rfl) (fun K hK => ?_)
  (go_simp; go_at_call 16; refine (HM1.out _ b3).mono ?_; rintro e w4 ⟨rfl, b4⟩; go_wp2_with fail)
  refine hK.out _ _ ?_ (fun hHeld => ?_)
  · exact KS.out _ b4
  clear hK K
  try simp only [Act.put, List.setIfInBounds_toArray, List.set_cons_zero, List.set_cons_succ]
  refine reg_take 7 (v := ?_) (by rfl) (by kernel_rfl) (by kernel_rfl) (by kernel_rfl) (fun _ _ _ h => h) (by rfl) ?_ (by assumption) ?_
  rotate_left
  · (intro wq hSq; (try dsimp only at hSq); go_split_ands; go_simp; (try with_reducible rfl))
  try simp only [Act.put, List.setIfInBounds_toArray, List.set_cons_zero, List.set_cons_succ]
  refine reg_take 8 (v := ?_) (by rfl) (by kernel_rfl) (by kernel_rfl) (by kernel_rfl) (fun _ _ _ h => h) (by rfl) ?_ (by assumption) ?_
  rotate_left
  · (intro wq hSq; (try dsimp only at hSq); go_split_ands; go_simp; (try with_reducible rfl))
  try simp only [Act.put, List.setIfInBounds_toArray, List.set_cons_zero, List.set_cons_succ]
  refine reg_take 9 (v := ?_) (by rfl) (by kernel_rfl) (by kernel_rfl) (by kernel_rfl) (fun _ _ _ h => h) (by rfl) ?_ (by assumption) ?_
  rotate_left
  · (intro wq hSq; (try dsimp only at hSq); go_split_ands; go_simp; (try with_reducible rfl))
  try simp only [Act.put, List.setIfInBounds_toArray, List.set_cons_zero, List.set_cons_succ]
  refine reg_take 10 (v := ?_) (by rfl) (by kernel_rfl) (by kernel_rfl) (by kernel_rfl) (fun _ _ _ h => h) (by rfl) ?_ (by assumption) ?_
  rotate_left
  · (intro wq hSq; (try dsimp only at hSq); go_split_ands; go_simp; (try with_reducible rfl))
  try simp only [Act.put, List.setIfInBounds_toArray, List.set_cons_zero, List.set_cons_succ]
  refine reg_take 11 (v := ?_) (by rfl) (by kernel_rfl) (by kernel_rfl) (by kernel_rfl) (fun _ _ _ h => h) (by rfl) ?_ (by assumption) ?_
  rotate_left
  · (intro wq hSq; (try dsimp only at hSq); go_split_ands; go_simp; (try with_reducible rfl))
  try simp only [Act.put, List.setIfInBounds_toArray, List.set_cons_zero, List.set_cons_succ]
  refine reg_take 12 (v := ?_) (by rfl) (by kernel_rfl) (by kernel_rfl) (by kernel_rfl) (fun _ _ _ h => h) (by rfl) ?_ (by assumption) ?_
  rotate_left
  · (intro wq hSq; (try dsimp only at hSq); go_split_ands; go_simp; (try with_reducible rfl))
  try simp only [Act.put, List.setIfInBounds_toArray, List.set_cons_zero, List.set_cons_succ]
  refine reg_take 13 (v := ?_) (by rfl) (by kernel_rfl) (by kernel_rfl) (by kernel_rfl) (fun _ _ _ h => h) (by rfl) ?_ (by assumption) ?_
  rotate_left
  · (intro wq hSq; (try dsimp only at hSq); go_split_ands; go_simp; (try with_reducible rfl))
  try simp only [Act.put, List.setIfInBounds_toArray, List.set_cons_zero, List.set_cons_succ]
  refine reg_take 14 (v := ?_) (by rfl) (by kernel_rfl) (by kernel_rfl) (by kernel_rfl) (fun _ _ _ h => h) (by rfl) ?_ (by assumption) ?_
  rotate_left
  · (intro wq hSq; (try dsimp only at hSq); go_split_ands; go_simp; (try with_reducible rfl))
  try simp only [Act.put, List.setIfInBounds_toArray, List.set_cons_zero, List.set_cons_succ]
  refine reg_take 15 (v := ?_) (by rfl) (by kernel_rfl) (by kernel_rfl) (by kernel_rfl) (fun _ _ _ h => h) (by rfl) ?_ (by assumption) ?_
  rotate_left
  · (intro wq hSq; (try dsimp only at hSq); go_split_ands; go_simp; (try with_reducible rfl))
  try simp only [Act.put, List.setIfInBounds_toArray, List.set_cons_zero, List.set_cons_succ]
  refine reg_take 16 (v := .slice A9 (b.length - k) (c2 - k)) (by rfl) (by kernel_rfl) (by kernel_rfl) (by kernel_rfl) (fun _ _ _ h => h) (by rfl) ?_ (by assumption) ?_
  · (intro wq hSq; rw [HA9.out]; go_simp; try with_reducible rfl)
  try simp only [Act.put, List.setIfInBounds_toArray, List.set_cons_zero, List.set_cons_succ]
  refine reg_take 19 (v := .agg d) (by rfl) (by kernel_rfl) (by kernel_rfl) (by kernel_rfl) (fun _ _ _ h => h) (by rfl) ?_ (by assumption) ?_
  · (intro wq hSq; exact exec_loadD' (.tmp 8) rfl _ rfl d hSq HN.out.1)
  try simp only [Act.put, List.setIfInBounds_toArray, List.set_cons_zero, List.set_cons_succ]
  refine reg_one 17 (by rfl) (by kernel_rfl) (by rfl) (fun K hK => ?_)
  (go_simp)
  refine hK.out _ _ ?_ (fun hHeld => ?_)
  · exact KS.out _ (balloc b4 _)
  clear hK K
  try simp only [Act.put, List.setIfInBounds_toArray, List.set_cons_zero, List.set_cons_succ]
  refine reg_one 18 (by rfl) (by kernel_rfl) (by rfl) (fun K hK => ?_)
  (go_simp; go_at_call 16; refine (HM3.out _ b4).mono ?_; rintro e w5 ⟨rfl, b5⟩; go_wp2_with fail)
  refine hK.out _ _ ?_ (fun hHeld => ?_)
  · exact KS.out _ b5
  clear hK K
  try simp only [Act.put, List.setIfInBounds_toArray, List.set_cons_zero, List.set_cons_succ]
  refine reg_take 20 (v := ?_) (by rfl) (by kernel_rfl) (by kernel_rfl) (by kernel_rfl) (fun _ _ _ h => h) (by rfl) ?_ (by assumption) ?_
  rotate_left
  · (intro wq hSq; (try dsimp only at hSq); go_split_ands; go_simp; (try with_reducible rfl))
  try simp only [Act.put, List.setIfInBounds_toArray, List.set_cons_zero, List.set_cons_succ]
  refine reg_take 21 (v := ?_) (by rfl) (by kernel_rfl) (by kernel_rfl) (by kernel_rfl) (fun _ _ _ h => h) (by rfl) ?_ (by assumption) ?_
  rotate_left
  · (intro wq hSq; (try dsimp only at hSq); go_split_ands; go_simp; (try with_reducible rfl))
  try simp only [Act.put, List.setIfInBounds_toArray, List.set_cons_zero, List.set_cons_succ]
  refine reg_take 22 (v := ?_) (by rfl) (by kernel_rfl) (by kernel_rfl) (by kernel_rfl) (fun _ _ _ h => h) (by rfl) ?_ (by assumption) ?_
  rotate_left
  · (intro wq hSq; (try dsimp only at hSq); go_split_ands; go_simp; (try with_reducible rfl))
  try simp only [Act.put, List.setIfInBounds_toArray, List.set_cons_zero, List.set_cons_succ]
  refine reg_take 23 (v := ?_) (by rfl) (by kernel_rfl) (by kernel_rfl) (by kernel_rfl) (fun _ _ _ h => h) (by rfl) ?_ (by assumption) ?_
  rotate_left
  · (intro wq hSq; (try dsimp only at hSq); go_split_ands; go_simp; (try with_reducible rfl))
  try simp only [Act.put, List.setIfInBounds_toArray, List.set_cons_zero, List.set_cons_succ]
  refine reg_take 24 (v := ?_) (by rfl) (by kernel_rfl) (by kernel_rfl) (by kernel_rfl) (fun _ _ _ h => h) (by rfl) ?_ (by assumption) ?_
  rotate_left
  · (intro wq hSq; (try dsimp only at hSq); go_split_ands; go_simp; (try with_reducible rfl))
  try simp only [Act.put, List.setIfInBounds_toArray, List.set_cons_zero, List.set_cons_succ]
  refine reg_take 26 (v := .agg d) (by rfl) (by kernel_rfl) (by kernel_rfl) (by kernel_rfl) (fun _ _ _ h => h) (by rfl) ?_ (by assumption) ?_
  · (intro wq hSq; exact exec_loadD' (.tmp 8) rfl _ rfl d hSq HN.out.1)
  try simp only [Act.put, List.setIfInBounds_toArray, List.set_cons_zero, List.set_cons_succ]
  refine reg_one 25 (by rfl) (by kernel_rfl) (by rfl) (fun K hK => ?_)
  (go_simp; go_at_call 18; refine (HM2.out _ b5).mono ?_; rintro e w6 ⟨rfl, b6⟩; go_wp2_with fail)
  refine hK.out _ _ ?_ (fun hHeld => ?_)
  · exact KS.out _ b6
  clear hK K
  try simp only [Act.put, List.setIfInBounds_toArray, List.set_cons_zero, List.set_cons_succ]
  refine reg_take 27 (v := ?_) (by rfl) (by kernel_rfl) (by kernel_rfl) (by kernel_rfl) (fun _ _ _ h => h) (by rfl) ?_ (by assumption) ?_
  rotate_left
  · (intro wq hSq; (try dsimp only at hSq); go_split_ands; go_simp; (try with_reducible rfl))
  try simp only [Act.put, List.setIfInBounds_toArray, List.set_cons_zero, List.set_cons_succ]
  refine reg_take 28 (v := ?_) (by rfl) (by kernel_rfl) (by kernel_rfl) (by kernel_rfl) (fun _ _ _ h => h) (by rfl) ?_ (by assumption) ?_
  rotate_left
  · (intro wq hSq; (try dsimp only at hSq); go_split_ands; go_simp; (try with_reducible rfl))
  try simp only [Act.put, List.setIfInBounds_toArray, List.set_cons_zero, List.set_cons_succ]
  refine reg_take 29 (v := ?_) (by rfl) (by kernel_rfl) (by kernel_rfl) (by kernel_rfl) (fun _ _ _ h => h) (by rfl) ?_ (by assumption) ?_
  rotate_left
  · (intro wq hSq; (try dsimp only at hSq); go_split_ands; go_simp; (try with_reducible rfl))
  try simp only [Act.put, List.setIfInBounds_toArray, List.set_cons_zero, List.set_cons_succ]
  refine wpAnyH_done (by kernel_rfl) (noPanic_mk ?_) _
  go_wp2_with fail
  go_ret
  exact ⟨rfl, bstep b2 b6⟩
end Go.Proofs.YtlkogeccmcmilaaDoor
