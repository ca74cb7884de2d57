/-
  What is proved here: the calls of the statements IkeyShort, IkeyCompares, IkeyOrder, IkeyBack of layer 8 return true and turn nothing that was there. Conditions: the texts' lengths.
-/
import Derived.Test.YtfdmemfdhakcbaaIkeyLawsW
import Derived.Test.YtfdmemfdhakcbaaIkeyLaw2
namespace Go.Proofs.Ytfdmemfdhakcbaa
open Go.RowKit

set_option maxRecDepth 100000 in
set_option maxHeartbeats 2000000 in
theorem ikeyShort_any (a b : ByteArray) (w : World) (ha : a.size ≤ 140737488351232) (hb : b.size ≤ 140737488351232) :
    Calls Try.prog 8 #[.string a, .string b] w fun e w' => e = .returned (.bool true) ∧ Below w.heap.size w w' := by
  have h1 := fun W => iBetween_any a b W ha hb
  have h2 := fun W => iAfter_any a W ha
  obtain ⟨X, hX⟩ : ∃ X, X = between a.data.toList b.data.toList := ⟨_, rfl⟩
  obtain ⟨Y, hY⟩ : ∃ Y, Y = after a.data.toList := ⟨_, rfl⟩
  rw [← hX] at h1
  rw [← hY] at h2
  have x1 : Op.bytesLess X a.toList = false := by rw [Lib.toList_data, hX]; exact between_ge _ _
  have x2 : Op.bytesLess a.toList b.toList = true → Op.bytesLess X b.toList = true := by rw [Lib.toList_data, Lib.toList_data, hX]; exact between_lt
  have x3 : X.length ≤ a.size := by rw [hX, ← toList_size a]; exact between_le _ _
  have y1 : Op.bytesLess Y a.toList = false := by rw [Lib.toList_data, hY]; exact after_ge _
  have y3 : Y.length ≤ a.size := by rw [hY, ← toList_size a]; exact after_le _
  have H1 := Lib.hid h1
  have H2 := Lib.hid h2
  clear h1 h2 hX hY
  cases hab : Op.bytesLess a.toList b.toList with
  | true =>
    have x4 := x2 hab
    clear x2
    go_enter Try.func8, Try.ntmps8
    go_wp2_with fail
    refine (shown_any w).mono ?_
    rintro e w1 ⟨rfl, hb1⟩
    go_wp2_with fail
    refine (H1.out _).mono ?_
    rintro e w2 ⟨rfl, hb2⟩
    have hb2' := bstep hb1 hb2
    go_wp2_with fail
    refine (H2.out _).mono ?_
    rintro e w3 ⟨rfl, hb3⟩
    have hb3' := bstep hb2' hb3
    go_wp2
    go_ret
    exact ⟨rfl, hb3'⟩
  | false =>
    clear x2
    go_enter Try.func8, Try.ntmps8
    go_wp2_with fail
    refine (shown_any w).mono ?_
    rintro e w1 ⟨rfl, hb1⟩
    go_wp2_with fail
    refine (H1.out _).mono ?_
    rintro e w2 ⟨rfl, hb2⟩
    have hb2' := bstep hb1 hb2
    go_wp2_with fail
    refine (H2.out _).mono ?_
    rintro e w3 ⟨rfl, hb3⟩
    have hb3' := bstep hb2' hb3
    go_wp2
    go_ret
    exact ⟨rfl, hb3'⟩

set_option maxRecDepth 100000 in
set_option maxHeartbeats 4000000 in
theorem ikeyCompares_any (a b : Ent) (w : World) (ha : a.user.size ≤ 140737488351232 ∧ a.value.size ≤ 140737488351232) :
    Calls Try.prog 3 #[entV a, entV b] w fun e w' => e = .returned (.bool true) ∧ Below w.heap.size w w' := by
  go_enter Try.func3, Try.ntmps3
  go_wp2_with fail
  obtain ⟨W, hW⟩ : ∃ W, W = (w.alloc (.cells #[.string a.user, .int .u64 (a.seq.toNat : Int), .int .u8 (a.kind.toNat : Int), .string a.value] 24)).alloc (.cells #[.string b.user, .int .u64 (b.seq.toNat : Int), .int .u8 (b.kind.toNat : Int), .string b.value] 24) := ⟨_, rfl⟩
  have hb : Below w.heap.size w W := by rw [hW]; exact balloc (balloc (bself w) _) _
  have hWs : W.heap.size = w.heap.size + 2 := by rw [hW]; simp
  have r1 : W.heap[w.heap.size]? = some (.cells #[.string a.user, .int .u64 (a.seq.toNat : Int), .int .u8 (a.kind.toNat : Int), .string a.value] 24) := by rw [hW]; exact keep_new (balloc (bself _) _)
  have r2 : W.heap[w.heap.size + 1]? = some (.cells #[.string b.user, .int .u64 (b.seq.toNat : Int), .int .u8 (b.kind.toNat : Int), .string b.value] 24) := by
    rw [hW]
    have h := heap_alloc_new (w.alloc (.cells #[.string a.user, .int .u64 (a.seq.toNat : Int), .int .u8 (a.kind.toNat : Int), .string a.value] 24)) (.cells #[.string b.user, .int .u64 (b.seq.toNat : Int), .int .u8 (b.kind.toNat : Int), .string b.value] 24)
    rw [show (w.alloc _).heap.size = w.heap.size + 1 from by simp] at h
    exact h
  have keepS : ∀ w', Below W.heap.size W w' → (w'.cell? ⟨w.heap.size, 0, none⟩ = some (.string a.user) ∧ w'.cell? ⟨w.heap.size, 1, none⟩ = some (.int .u64 (a.seq.toNat : Int)) ∧ w'.cell? ⟨w.heap.size, 2, none⟩ = some (.int .u8 (a.kind.toNat : Int)) ∧ w'.cell? ⟨w.heap.size, 3, none⟩ = some (.string a.value) ∧ w'.cell? ⟨w.heap.size + 1, 0, none⟩ = some (.string b.user) ∧ w'.cell? ⟨w.heap.size + 1, 1, none⟩ = some (.int .u64 (b.seq.toNat : Int)) ∧ w'.cell? ⟨w.heap.size + 1, 2, none⟩ = some (.int .u8 (b.kind.toNat : Int)) ∧ w'.cell? ⟨w.heap.size + 1, 3, none⟩ = some (.string b.value)) := fun w' h' => by
    obtain ⟨p0, _⟩ := cells4 ((h'.block w.heap.size (by omega)).trans r1)
    obtain ⟨p1, _⟩ := cells4 ((h'.block (w.heap.size + 1) (by omega)).trans r2)
    exact ⟨p0.1, p0.2.1, p0.2.2.1, p0.2.2.2, p1.1, p1.2.1, p1.2.2.1, p1.2.2.2⟩
  have KS := Lib.hid keepS
  rw [← hW]
  clear hW hWs keepS r1 r2
  refine wp_region_noPanic ?_
  refine wp_region_held_drew (S := fun w' => w'.cell? ⟨w.heap.size, 0, none⟩ = some (.string a.user) ∧ w'.cell? ⟨w.heap.size, 1, none⟩ = some (.int .u64 (a.seq.toNat : Int)) ∧ w'.cell? ⟨w.heap.size, 2, none⟩ = some (.int .u8 (a.kind.toNat : Int)) ∧ w'.cell? ⟨w.heap.size, 3, none⟩ = some (.string a.value) ∧ w'.cell? ⟨w.heap.size + 1, 0, none⟩ = some (.string b.user) ∧ w'.cell? ⟨w.heap.size + 1, 1, none⟩ = some (.int .u64 (b.seq.toNat : Int)) ∧ w'.cell? ⟨w.heap.size + 1, 2, none⟩ = some (.int .u8 (b.kind.toNat : Int)) ∧ w'.cell? ⟨w.heap.size + 1, 3, none⟩ = some (.string b.value)) (by kernel_rfl) (KS.out _ (bdrew (bself W))) (fun hHeld => ?_)
  refine reg_one 0 (by rfl) (by kernel_rfl) (by rfl) (fun K hK => ?_)
  (go_simp; go_at_call 10; refine (shown_any _).mono ?_; rintro e w1 ⟨rfl, hb1⟩; have hB1 := bstep (bdrew (bself W)) hb1; go_wp2_with fail)
  refine hK.out _ _ ?_ (fun hHeld => ?_)
  · exact KS.out _ hB1
  clear hK K
  try simp only [Act.put, List.setIfInBounds_toArray, List.set_cons_zero, List.set_cons_succ]
  refine reg_take 1 (v := ?_) (by rfl) (by kernel_rfl) (by kernel_rfl) (by kernel_rfl) (fun _ _ _ h => h) (by rfl) ?_ (by assumption) ?_
  rotate_left
  · (intro wq hSq; (try dsimp only at hSq); go_split_ands; go_simp; (try with_reducible rfl))
  try simp only [Act.put, List.setIfInBounds_toArray, List.set_cons_zero, List.set_cons_succ]
  refine reg_take 2 (v := ?_) (by rfl) (by kernel_rfl) (by kernel_rfl) (by kernel_rfl) (fun _ _ _ h => h) (by rfl) ?_ (by assumption) ?_
  rotate_left
  · (intro wq hSq; (try dsimp only at hSq); go_split_ands; go_simp; (try with_reducible rfl))
  try simp only [Act.put, List.setIfInBounds_toArray, List.set_cons_zero, List.set_cons_succ]
  refine reg_take 3 (v := ?_) (by rfl) (by kernel_rfl) (by kernel_rfl) (by kernel_rfl) (fun _ _ _ h => h) (by rfl) ?_ (by assumption) ?_
  rotate_left
  · (intro wq hSq; (try dsimp only at hSq); go_split_ands; go_simp; (try with_reducible rfl))
  try simp only [Act.put, List.setIfInBounds_toArray, List.set_cons_zero, List.set_cons_succ]
  refine reg_take 5 (v := ?_) (by rfl) (by kernel_rfl) (by kernel_rfl) (by kernel_rfl) (fun _ _ _ h => h) (by rfl) ?_ (by assumption) ?_
  rotate_left
  · (intro wq hSq; (try dsimp only at hSq); go_split_ands; go_simp; (try with_reducible rfl))
  try simp only [Act.put, List.setIfInBounds_toArray, List.set_cons_zero, List.set_cons_succ]
  refine reg_take 6 (v := ?_) (by rfl) (by kernel_rfl) (by kernel_rfl) (by kernel_rfl) (fun _ _ _ h => h) (by rfl) ?_ (by assumption) ?_
  rotate_left
  · (intro wq hSq; (try dsimp only at hSq); go_split_ands; go_simp; (try with_reducible rfl))
  try simp only [Act.put, List.setIfInBounds_toArray, List.set_cons_zero, List.set_cons_succ]
  refine reg_one 4 (by rfl) (by kernel_rfl) (by rfl) (fun K hK => ?_)
  (go_simp; go_at_call 11; refine (iCompare_any a b _).mono ?_; rintro e w2 ⟨rfl, hb2⟩; have hB2 := bstep hB1 hb2; go_wp2_with fail)
  refine hK.out _ _ ?_ (fun hHeld => ?_)
  · exact KS.out _ hB2
  clear hK K
  try simp only [Act.put, List.setIfInBounds_toArray, List.set_cons_zero, List.set_cons_succ]
  refine reg_one 7 (by rfl) (by kernel_rfl) (by rfl) (fun K hK => ?_)
  (go_simp; go_at_call 12; refine (rCompare_any a b _).mono ?_; rintro e w3 ⟨rfl, hb3⟩; have hB3 := bstep hB2 hb3; go_wp2_with fail)
  refine hK.out _ _ ?_ (fun hHeld => ?_)
  · exact KS.out _ hB3
  clear hK K
  try simp only [Act.put, List.setIfInBounds_toArray, List.set_cons_zero, List.set_cons_succ]
  refine reg_take 8 (v := ?_) (by rfl) (by kernel_rfl) (by kernel_rfl) (by kernel_rfl) (fun _ _ _ h => h) (by rfl) ?_ (by assumption) ?_
  rotate_left
  · (intro wq hSq; (try dsimp only at hSq); go_split_ands; go_simp; (try with_reducible rfl))
  try simp only [Act.put, List.setIfInBounds_toArray, List.set_cons_zero, List.set_cons_succ]
  refine reg_take 9 (v := ?_) (by rfl) (by kernel_rfl) (by kernel_rfl) (by kernel_rfl) (fun _ _ _ h => h) (by rfl) ?_ (by assumption) ?_
  rotate_left
  · (intro wq hSq; (try dsimp only at hSq); go_split_ands; go_simp; (try with_reducible rfl))
  try simp only [Act.put, List.setIfInBounds_toArray, List.set_cons_zero, List.set_cons_succ]
  refine reg_take 10 (v := ?_) (by rfl) (by kernel_rfl) (by kernel_rfl) (by kernel_rfl) (fun _ _ _ h => h) (by rfl) ?_ (by assumption) ?_
  rotate_left
  · (intro wq hSq; (try dsimp only at hSq); go_split_ands; go_simp; (try with_reducible rfl))
  try simp only [Act.put, List.setIfInBounds_toArray, List.set_cons_zero, List.set_cons_succ]
  refine reg_take 11 (v := ?_) (by rfl) (by kernel_rfl) (by kernel_rfl) (by kernel_rfl) (fun _ _ _ h => h) (by rfl) ?_ (by assumption) ?_
  rotate_left
  · (intro wq hSq; (try dsimp only at hSq); go_split_ands; go_simp; (try with_reducible rfl))
  try simp only [Act.put, List.setIfInBounds_toArray, List.set_cons_zero, List.set_cons_succ]
  refine reg_take 13 (v := ?_) (by rfl) (by kernel_rfl) (by kernel_rfl) (by kernel_rfl) (fun _ _ _ h => h) (by rfl) ?_ (by assumption) ?_
  rotate_left
  · (intro wq hSq; (try dsimp only at hSq); go_split_ands; go_simp; (try with_reducible rfl))
  try simp only [Act.put, List.setIfInBounds_toArray, List.set_cons_zero, List.set_cons_succ]
  refine reg_one 12 (by rfl) (by kernel_rfl) (by rfl) (fun K hK => ?_)
  (go_simp; go_at_call 13; refine (iRight_any a _ (by omega) (by omega)).mono ?_; rintro e w4 ⟨rfl, hb4⟩; have hB4 := bstep hB3 hb4; go_wp2_with fail)
  refine hK.out _ _ ?_ (fun hHeld => ?_)
  · exact KS.out _ hB4
  clear hK K
  try simp only [Act.put, List.setIfInBounds_toArray, List.set_cons_zero, List.set_cons_succ]
  refine reg_one 14 (by rfl) (by kernel_rfl) (by rfl) (fun K hK => ?_)
  (go_simp; go_at_call 14; refine (rRight_any a _ (by omega) (by omega)).mono ?_; rintro e w5 ⟨rfl, hb5⟩; have hB5 := bstep hB4 hb5; go_wp2_with fail)
  refine hK.out _ _ ?_ (fun hHeld => ?_)
  · exact KS.out _ hB5
  clear hK K
  try simp only [Act.put, List.setIfInBounds_toArray, List.set_cons_zero, List.set_cons_succ]
  refine reg_take 15 (v := ?_) (by rfl) (by kernel_rfl) (by kernel_rfl) (by kernel_rfl) (fun _ _ _ h => h) (by rfl) ?_ (by assumption) ?_
  rotate_left
  · (intro wq hSq; (try dsimp only at hSq); go_split_ands; go_simp; (try with_reducible rfl))
  try simp only [Act.put, List.setIfInBounds_toArray, List.set_cons_zero, List.set_cons_succ]
  refine reg_take 16 (v := ?_) (by rfl) (by kernel_rfl) (by kernel_rfl) (by kernel_rfl) (fun _ _ _ h => h) (by rfl) ?_ (by assumption) ?_
  rotate_left
  · (intro wq hSq; (try dsimp only at hSq); go_split_ands; go_simp; (try with_reducible rfl))
  try simp only [Act.put, List.setIfInBounds_toArray, List.set_cons_zero, List.set_cons_succ]
  refine reg_take 17 (v := ?_) (by rfl) (by kernel_rfl) (by kernel_rfl) (by kernel_rfl) (fun _ _ _ h => h) (by rfl) ?_ (by assumption) ?_
  rotate_left
  · (intro wq hSq; (try dsimp only at hSq); go_split_ands; go_simp; (try with_reducible rfl))
  try simp only [Act.put, List.setIfInBounds_toArray, List.set_cons_zero, List.set_cons_succ]
  refine reg_take 18 (v := ?_) (by rfl) (by kernel_rfl) (by kernel_rfl) (by kernel_rfl) (fun _ _ _ h => h) (by rfl) ?_ (by assumption) ?_
  rotate_left
  · (intro wq hSq; (try dsimp only at hSq); go_split_ands; go_simp; (try with_reducible rfl))
  try simp only [Act.put, List.setIfInBounds_toArray, List.set_cons_zero, List.set_cons_succ]
  refine reg_take 20 (v := ?_) (by rfl) (by kernel_rfl) (by kernel_rfl) (by kernel_rfl) (fun _ _ _ h => h) (by rfl) ?_ (by assumption) ?_
  rotate_left
  · (intro wq hSq; (try dsimp only at hSq); go_split_ands; go_simp; (try with_reducible rfl))
  try simp only [Act.put, List.setIfInBounds_toArray, List.set_cons_zero, List.set_cons_succ]
  refine reg_one 19 (by rfl) (by kernel_rfl) (by rfl) (fun K hK => ?_)
  (go_simp; go_at_call 15; refine (iLay_any a _ ha.1).mono ?_; rintro e w6 ⟨rfl, hb6⟩; have hB6 := bstep hB5 hb6; go_wp2_with fail)
  refine hK.out _ _ ?_ (fun hHeld => ?_)
  · exact KS.out _ hB6
  clear hK K
  try simp only [Act.put, List.setIfInBounds_toArray, List.set_cons_zero, List.set_cons_succ]
  refine reg_one 21 (by rfl) (by kernel_rfl) (by rfl) (fun K hK => ?_)
  (go_simp; go_at_call 16; refine (rLay_any a _ ha.1).mono ?_; rintro e w7 ⟨rfl, hb7⟩; have hB7 := bstep hB6 hb7; go_wp2_with fail)
  refine hK.out _ _ ?_ (fun hHeld => ?_)
  · exact KS.out _ hB7
  clear hK K
  try simp only [Act.put, List.setIfInBounds_toArray, List.set_cons_zero, List.set_cons_succ]
  refine reg_take 22 (v := ?_) (by rfl) (by kernel_rfl) (by kernel_rfl) (by kernel_rfl) (fun _ _ _ h => h) (by rfl) ?_ (by assumption) ?_
  rotate_left
  · (intro wq hSq; (try dsimp only at hSq); go_split_ands; go_simp; (try with_reducible rfl))
  try simp only [Act.put, List.setIfInBounds_toArray, List.set_cons_zero, List.set_cons_succ]
  refine reg_take 23 (v := ?_) (by rfl) (by kernel_rfl) (by kernel_rfl) (by kernel_rfl) (fun _ _ _ h => h) (by rfl) ?_ (by assumption) ?_
  rotate_left
  · (intro wq hSq; (try dsimp only at hSq); go_split_ands; go_simp; (try with_reducible rfl))
  try simp only [Act.put, List.setIfInBounds_toArray, List.set_cons_zero, List.set_cons_succ]
  refine reg_take 24 (v := ?_) (by rfl) (by kernel_rfl) (by kernel_rfl) (by kernel_rfl) (fun _ _ _ h => h) (by rfl) ?_ (by assumption) ?_
  rotate_left
  · (intro wq hSq; (try dsimp only at hSq); go_split_ands; go_simp; (try with_reducible rfl))
  try simp only [Act.put, List.setIfInBounds_toArray, List.set_cons_zero, List.set_cons_succ]
  refine wpAnyH_done (by kernel_rfl) (noPanic_mk ?_) _
  go_wp2
  go_ret
  exact ⟨rfl, hb.trans (hB7.mono hb.size)⟩

theorem alike_ways (a b : Ent) : ((cmpE a b == 0) = true ∧ (a.user.toList == b.user.toList) = true ∧ ((a.seq.toNat : Int) == (b.seq.toNat : Int)) = true ∧ ((a.kind.toNat : Int) == (b.kind.toNat : Int)) = true) ∨
    ((cmpE a b == 0) = false ∧ (a.user.toList == b.user.toList) = false) ∨
    ((cmpE a b == 0) = false ∧ (a.user.toList == b.user.toList) = true ∧ ((a.seq.toNat : Int) == (b.seq.toNat : Int)) = false) ∨
    ((cmpE a b == 0) = false ∧ (a.user.toList == b.user.toList) = true ∧ ((a.seq.toNat : Int) == (b.seq.toNat : Int)) = true ∧ ((a.kind.toNat : Int) == (b.kind.toNat : Int)) = false) := by
  have hz := cmp_zero a b
  simp only [beq_iff_eq, beq_eq_false_iff_ne, ne_eq, hz, Alike]
  by_cases h1 : a.user.toList = b.user.toList
  · by_cases h2 : (a.seq.toNat : Int) = (b.seq.toNat : Int)
    · by_cases h3 : (a.kind.toNat : Int) = (b.kind.toNat : Int)
      · left; exact ⟨⟨h1, by omega, by omega⟩, h1, h2, h3⟩
      · right; right; right; exact ⟨by omega, h1, h2, h3⟩
    · right; right; left; exact ⟨by omega, h1, h2⟩
  · right; left; exact ⟨fun h => h1 h.1, h1⟩

set_option maxRecDepth 100000 in
set_option maxHeartbeats 4000000 in
theorem ikeyOrder_any (a b c : Ent) (w : World) :
    Calls Try.prog 6 #[entV a, entV b, entV c] w fun e w' => e = .returned (.bool true) ∧ Below w.heap.size w w' := by
  have hal := alike_ways a b
  have htr := cmp_trans a b c
  have b1 := cmp_bound a b
  have b2 := cmp_bound b c
  have b3 := cmp_bound a c
  have k1 := fun W => iCompare_any a b W
  have k2 := fun W => iCompare_any b c W
  have k3 := fun W => iCompare_any a c W
  have k4 := fun W => iCompare_any b a W
  have k5 := fun W => iCompare_any a a W
  rw [cmp_neg a b] at k4
  rw [cmp_self] at k5
  obtain ⟨x, hx⟩ : ∃ x, x = cmpE a b := ⟨_, rfl⟩
  obtain ⟨y, hy⟩ : ∃ y, y = cmpE b c := ⟨_, rfl⟩
  obtain ⟨z, hz⟩ : ∃ z, z = cmpE a c := ⟨_, rfl⟩
  rw [← hx] at hal htr b1 k1 k4
  rw [← hy] at htr b2 k2
  rw [← hz] at htr b3 k3
  have HK := Lib.hid (And.intro k1 (And.intro k2 (And.intro k3 (And.intro k4 k5))))
  have HTR := Lib.hid htr
  have HAL := Lib.hid hal
  obtain ⟨b11, b12⟩ := b1
  obtain ⟨b21, b22⟩ := b2
  obtain ⟨b31, b32⟩ := b3
  clear hx hy hz k1 k2 k3 k4 k5 htr hal
  go_enter Try.func6, Try.ntmps6
  go_wp2_with fail
  obtain ⟨W, hW⟩ : ∃ W, W = ((w.alloc (.cells #[.string a.user, .int .u64 (a.seq.toNat : Int), .int .u8 (a.kind.toNat : Int), .string a.value] 24)).alloc (.cells #[.string b.user, .int .u64 (b.seq.toNat : Int), .int .u8 (b.kind.toNat : Int), .string b.value] 24)).alloc (.cells #[.string c.user, .int .u64 (c.seq.toNat : Int), .int .u8 (c.kind.toNat : Int), .string c.value] 24) := ⟨_, rfl⟩
  have hb : Below w.heap.size w W := by rw [hW]; exact balloc (balloc (balloc (bself w) _) _) _
  have hWs : W.heap.size = w.heap.size + 3 := by rw [hW]; simp
  have r1 : W.heap[w.heap.size]? = some (.cells #[.string a.user, .int .u64 (a.seq.toNat : Int), .int .u8 (a.kind.toNat : Int), .string a.value] 24) := by rw [hW]; exact keep_new (balloc (balloc (bself _) _) _)
  have r2 : W.heap[w.heap.size + 1]? = some (.cells #[.string b.user, .int .u64 (b.seq.toNat : Int), .int .u8 (b.kind.toNat : Int), .string b.value] 24) := by
    rw [hW]
    have h := keep_new (w := w.alloc (.cells #[.string a.user, .int .u64 (a.seq.toNat : Int), .int .u8 (a.kind.toNat : Int), .string a.value] 24)) (o := .cells #[.string b.user, .int .u64 (b.seq.toNat : Int), .int .u8 (b.kind.toNat : Int), .string b.value] 24) (balloc (bself _) (.cells #[.string c.user, .int .u64 (c.seq.toNat : Int), .int .u8 (c.kind.toNat : Int), .string c.value] 24))
    rw [show (w.alloc _).heap.size = w.heap.size + 1 from by simp] at h
    exact h
  have r3 : W.heap[w.heap.size + 2]? = some (.cells #[.string c.user, .int .u64 (c.seq.toNat : Int), .int .u8 (c.kind.toNat : Int), .string c.value] 24) := by
    rw [hW]
    have h := heap_alloc_new ((w.alloc (.cells #[.string a.user, .int .u64 (a.seq.toNat : Int), .int .u8 (a.kind.toNat : Int), .string a.value] 24)).alloc (.cells #[.string b.user, .int .u64 (b.seq.toNat : Int), .int .u8 (b.kind.toNat : Int), .string b.value] 24)) (.cells #[.string c.user, .int .u64 (c.seq.toNat : Int), .int .u8 (c.kind.toNat : Int), .string c.value] 24)
    rw [show ((w.alloc _).alloc _).heap.size = w.heap.size + 2 from by simp] at h
    exact h
  have keepS : ∀ w', Below W.heap.size W w' → (w'.cell? ⟨w.heap.size, 0, none⟩ = some (.string a.user) ∧ w'.cell? ⟨w.heap.size, 1, none⟩ = some (.int .u64 (a.seq.toNat : Int)) ∧ w'.cell? ⟨w.heap.size, 2, none⟩ = some (.int .u8 (a.kind.toNat : Int)) ∧ w'.cell? ⟨w.heap.size, 3, none⟩ = some (.string a.value) ∧ w'.cell? ⟨w.heap.size + 1, 0, none⟩ = some (.string b.user) ∧ w'.cell? ⟨w.heap.size + 1, 1, none⟩ = some (.int .u64 (b.seq.toNat : Int)) ∧ w'.cell? ⟨w.heap.size + 1, 2, none⟩ = some (.int .u8 (b.kind.toNat : Int)) ∧ w'.cell? ⟨w.heap.size + 1, 3, none⟩ = some (.string b.value) ∧ w'.cell? ⟨w.heap.size + 2, 0, none⟩ = some (.string c.user) ∧ w'.cell? ⟨w.heap.size + 2, 1, none⟩ = some (.int .u64 (c.seq.toNat : Int)) ∧ w'.cell? ⟨w.heap.size + 2, 2, none⟩ = some (.int .u8 (c.kind.toNat : Int)) ∧ w'.cell? ⟨w.heap.size + 2, 3, none⟩ = some (.string c.value)) := fun w' h' => by
    obtain ⟨p0, _⟩ := cells4 ((h'.block w.heap.size (by omega)).trans r1)
    obtain ⟨p1, _⟩ := cells4 ((h'.block (w.heap.size + 1) (by omega)).trans r2)
    obtain ⟨p2, _⟩ := cells4 ((h'.block (w.heap.size + 2) (by omega)).trans r3)
    exact ⟨p0.1, p0.2.1, p0.2.2.1, p0.2.2.2, p1.1, p1.2.1, p1.2.2.1, p1.2.2.2, p2.1, p2.2.1, p2.2.2.1, p2.2.2.2⟩
  have KS := Lib.hid keepS
  rw [← hW]
  clear hW hWs keepS r1 r2 r3
  refine wp_region_noPanic ?_
  refine wp_region_held_drew (S := fun w' => w'.cell? ⟨w.heap.size, 0, none⟩ = some (.string a.user) ∧ w'.cell? ⟨w.heap.size, 1, none⟩ = some (.int .u64 (a.seq.toNat : Int)) ∧ w'.cell? ⟨w.heap.size, 2, none⟩ = some (.int .u8 (a.kind.toNat : Int)) ∧ w'.cell? ⟨w.heap.size, 3, none⟩ = some (.string a.value) ∧ w'.cell? ⟨w.heap.size + 1, 0, none⟩ = some (.string b.user) ∧ w'.cell? ⟨w.heap.size + 1, 1, none⟩ = some (.int .u64 (b.seq.toNat : Int)) ∧ w'.cell? ⟨w.heap.size + 1, 2, none⟩ = some (.int .u8 (b.kind.toNat : Int)) ∧ w'.cell? ⟨w.heap.size + 1, 3, none⟩ = some (.string b.value) ∧ w'.cell? ⟨w.heap.size + 2, 0, none⟩ = some (.string c.user) ∧ w'.cell? ⟨w.heap.size + 2, 1, none⟩ = some (.int .u64 (c.seq.toNat : Int)) ∧ w'.cell? ⟨w.heap.size + 2, 2, none⟩ = some (.int .u8 (c.kind.toNat : Int)) ∧ w'.cell? ⟨w.heap.size + 2, 3, none⟩ = some (.string c.value)) (by kernel_rfl) (KS.out _ (bdrew (bself W))) (fun hHeld => ?_)
  refine reg_take 0 (v := ?_) (by rfl) (by kernel_rfl) (by kernel_rfl) (by kernel_rfl) (fun _ _ _ h => h) (by rfl) ?_ (by assumption) ?_
  rotate_left
  · (intro wq hSq; (try dsimp only at hSq); go_split_ands; go_simp; (try with_reducible rfl))
  try simp only [Act.put, List.setIfInBounds_toArray, List.set_cons_zero, List.set_cons_succ]
  refine reg_take 1 (v := ?_) (by rfl) (by kernel_rfl) (by kernel_rfl) (by kernel_rfl) (fun _ _ _ h => h) (by rfl) ?_ (by assumption) ?_
  rotate_left
  · (intro wq hSq; (try dsimp only at hSq); go_split_ands; go_simp; (try with_reducible rfl))
  try simp only [Act.put, List.setIfInBounds_toArray, List.set_cons_zero, List.set_cons_succ]
  refine reg_take 3 (v := ?_) (by rfl) (by kernel_rfl) (by kernel_rfl) (by kernel_rfl) (fun _ _ _ h => h) (by rfl) ?_ (by assumption) ?_
  rotate_left
  · (intro wq hSq; (try dsimp only at hSq); go_split_ands; go_simp; (try with_reducible rfl))
  try simp only [Act.put, List.setIfInBounds_toArray, List.set_cons_zero, List.set_cons_succ]
  refine reg_take 4 (v := ?_) (by rfl) (by kernel_rfl) (by kernel_rfl) (by kernel_rfl) (fun _ _ _ h => h) (by rfl) ?_ (by assumption) ?_
  rotate_left
  · (intro wq hSq; (try dsimp only at hSq); go_split_ands; go_simp; (try with_reducible rfl))
  try simp only [Act.put, List.setIfInBounds_toArray, List.set_cons_zero, List.set_cons_succ]
  refine reg_take 6 (v := ?_) (by rfl) (by kernel_rfl) (by kernel_rfl) (by kernel_rfl) (fun _ _ _ h => h) (by rfl) ?_ (by assumption) ?_
  rotate_left
  · (intro wq hSq; (try dsimp only at hSq); go_split_ands; go_simp; (try with_reducible rfl))
  try simp only [Act.put, List.setIfInBounds_toArray, List.set_cons_zero, List.set_cons_succ]
  refine reg_take 7 (v := ?_) (by rfl) (by kernel_rfl) (by kernel_rfl) (by kernel_rfl) (fun _ _ _ h => h) (by rfl) ?_ (by assumption) ?_
  rotate_left
  · (intro wq hSq; (try dsimp only at hSq); go_split_ands; go_simp; (try with_reducible rfl))
  try simp only [Act.put, List.setIfInBounds_toArray, List.set_cons_zero, List.set_cons_succ]
  refine reg_one 2 (by rfl) (by kernel_rfl) (by rfl) (fun K hK => ?_)
  (go_simp; go_at_call 11; refine (HK.out.1 _).mono ?_; rintro e w1 ⟨rfl, hb1⟩; have hB1 := bstep (bdrew (bself W)) hb1; go_wp2_with fail)
  refine hK.out _ _ ?_ (fun hHeld => ?_)
  · exact KS.out _ hB1
  clear hK K
  try simp only [Act.put, List.setIfInBounds_toArray, List.set_cons_zero, List.set_cons_succ]
  refine reg_one 5 (by rfl) (by kernel_rfl) (by rfl) (fun K hK => ?_)
  (go_simp; go_at_call 11; refine (HK.out.2.1 _).mono ?_; rintro e w2 ⟨rfl, hb2⟩; have hB2 := bstep hB1 hb2; go_wp2_with fail)
  refine hK.out _ _ ?_ (fun hHeld => ?_)
  · exact KS.out _ hB2
  clear hK K
  try simp only [Act.put, List.setIfInBounds_toArray, List.set_cons_zero, List.set_cons_succ]
  refine reg_one 8 (by rfl) (by kernel_rfl) (by rfl) (fun K hK => ?_)
  (go_simp; go_at_call 11; refine (HK.out.2.2.1 _).mono ?_; rintro e w3 ⟨rfl, hb3⟩; have hB3 := bstep hB2 hb3; go_wp2_with fail)
  refine hK.out _ _ ?_ (fun hHeld => ?_)
  · exact KS.out _ hB3
  clear hK K
  try simp only [Act.put, List.setIfInBounds_toArray, List.set_cons_zero, List.set_cons_succ]
  refine reg_take 9 (v := ?_) (by rfl) (by kernel_rfl) (by kernel_rfl) (by kernel_rfl) (fun _ _ _ h => h) (by rfl) ?_ (by assumption) ?_
  rotate_left
  · (intro wq hSq; (try dsimp only at hSq); go_split_ands; go_simp; (try with_reducible rfl))
  try simp only [Act.put, List.setIfInBounds_toArray, List.set_cons_zero, List.set_cons_succ]
  refine reg_take 10 (v := ?_) (by rfl) (by kernel_rfl) (by kernel_rfl) (by kernel_rfl) (fun _ _ _ h => h) (by rfl) ?_ (by assumption) ?_
  rotate_left
  · (intro wq hSq; (try dsimp only at hSq); go_split_ands; go_simp; (try with_reducible rfl))
  try simp only [Act.put, List.setIfInBounds_toArray, List.set_cons_zero, List.set_cons_succ]
  refine reg_take 11 (v := ?_) (by rfl) (by kernel_rfl) (by kernel_rfl) (by kernel_rfl) (fun _ _ _ h => h) (by rfl) ?_ (by assumption) ?_
  rotate_left
  · (intro wq hSq; (try dsimp only at hSq); go_split_ands; go_simp; (try with_reducible rfl))
  try simp only [Act.put, List.setIfInBounds_toArray, List.set_cons_zero, List.set_cons_succ]
  refine wpAnyH_done (by kernel_rfl) (noPanic_mk ?_) _
  clear hHeld
  have s3 := KS.out _ hB3
  obtain ⟨s31, s32, s33, s34, s35, s36, s37, s38, _, _, _, _⟩ := s3
  go_wp2_with fail
  refine (HK.out.2.2.2.1 _).mono ?_
  rintro e w4 ⟨rfl, hb4⟩
  have hB4 := bstep hB3 hb4
  have s4 := KS.out _ hB4
  obtain ⟨s41, s42, s43, s44, s45, s46, s47, s48, _, _, _, _⟩ := s4
  clear s31 s32 s33 s34 s35 s36 s37 s38
  go_wp2_with fail
  refine (HK.out.2.2.2.2 _).mono ?_
  rintro e w5 ⟨rfl, hb5⟩
  have hB5 := bstep hB4 hb5
  clear s41 s42 s43 s44 s45 s46 s47 s48
  have hres := hb.trans (hB5.mono hb.size)
  have hcase : (x ≤ 0 ∧ y ≤ 0 ∧ z < 0) ∨ (x ≤ 0 ∧ y ≤ 0 ∧ z = 0 ∧ x = 0 ∧ y = 0) ∨ 0 < x ∨ (x ≤ 0 ∧ 0 < y) := by
    have h := HTR.out
    by_cases h1 : x ≤ 0
    · by_cases h2 : y ≤ 0
      · have h3 := h h1 h2
        by_cases h4 : z = 0
        · right; left; exact ⟨h1, h2, h4, h3.2 h4⟩
        · left; omega
      · right; right; right; omega
    · right; right; left; omega
  have HCS := Lib.hid hcase
  clear hcase
  go_wp2_with fail
  all_goals try (have hcs := HCS.out; exfalso; omega)
  all_goals
    refine (shown_any _).mono ?_
    rintro e w6 ⟨rfl, hb6⟩
    have hB6 := bstep hB5 hb6
    have s6 := KS.out _ hB6
    obtain ⟨s61, s62, s63, s64, s65, s66, s67, s68, _, _, _, _⟩ := s6
    have hres6 := hb.trans (hB6.mono hb.size)
    rcases HAL.out with ⟨t0, t1, t2, t3⟩ | ⟨t0, t1⟩ | ⟨t0, t1, t2⟩ | ⟨t0, t1, t2, t3⟩
    all_goals
      go_wp2
      go_ret
      exact ⟨rfl, hres6⟩
end Go.Proofs.Ytfdmemfdhakcbaa
