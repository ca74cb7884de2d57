/-
  What is proved here: what the comparisons of texts and numbers, and ikey.Compare and the reference's Compare, come to, at this seat's numbers. No condition.
-/
import Derived.Test.YtfdmemfdhakcbaaIkeyW
import Derived.Test.YtfdmemfdhakcbaaIkeyLaw
import Derived.Test.YtfdmemfdhakcbaaRegion
import Derived.Lib.Bytealg
import Derived.WalkLawsBesides
import Derived.BigQuiet
namespace Go.Proofs.Ytfdmemfdhakcbaa
open Go.RowKit

theorem compareBytes_lt : ∀ a b : List UInt8, Lib.compareBytes a b = if ltB a b then -1 else if ltB b a then 1 else 0
  | [], [] => rfl
  | [], _ :: _ => rfl
  | _ :: _, [] => rfl
  | x :: a, y :: b => by
    have ih := compareBytes_lt a b
    unfold Lib.compareBytes
    by_cases h1 : x < y
    · simp [Op.bytesLess, h1]
    · by_cases h2 : y < x
      · have h3 : ¬ x = y := by intro e; subst e; exact h1 h2
        simp [Op.bytesLess, h1, h2, h3]
      · have h3 : x = y := by
          rw [UInt8.lt_iff_toNat_lt] at h1 h2
          apply UInt8.toNat_inj.1; omega
        subst h3
        simp only [ltB] at ih
        simp [Op.bytesLess, h1, ih]

theorem cmpString_any (a b : ByteArray) (w : World) :
    Calls Try.prog 35 #[.string a, .string b] w fun e w' => e = .returned (.int .i64 (Lib.compareBytes a.data.toList b.data.toList)) ∧ w' = w := by
  go_enter Try.func35, Try.ntmps35
  go_wp2
  rw [run_callFunc_extern Try.func39 (by kernel_rfl) (by kernel_rfl) (by kernel_rfl) (e := Extern.BytealgCompare.compare) (by kernel_rfl), Lib.run_compareString]
  simp only [Result.andThen]
  rw [Oper.upon_value]
  go_wp2
  go_ret
  exact ⟨rfl, rfl⟩
theorem strCompare_any (a b : ByteArray) (w : World) :
    Calls Try.prog 26 #[.string a, .string b] w fun e w' => e = .returned (.int .i64 (Lib.compareBytes a.toList b.toList)) ∧ w' = w := by
  rw [Lib.toList_data, Lib.toList_data]
  go_enter Try.func26, Try.ntmps26
  go_wp2_with (go_at_call 35; refine (cmpString_any a b w).mono ?_; rintro e w' ⟨rfl, rfl⟩)
  go_ret
  exact ⟨rfl, rfl⟩
/-- which of two numbers is less -/
def cmpI (x y : Nat) : Int := if x < y then -1 else if y < x then 1 else 0
theorem cmp64_any (x y : UInt64) (w : World) :
    Calls Try.prog 27 #[.int .u64 (x.toNat : Int), .int .u64 (y.toNat : Int)] w fun e w' => e = .returned (.int .i64 (cmpI x.toNat y.toNat)) ∧ w' = w := by
  have hx := u64_lt x
  have hy := u64_lt y
  go_enter Try.func27, Try.ntmps27
  go_wp2
  all_goals (go_ret; refine ⟨ret_int ?_, rfl⟩; unfold cmpI; first | (rw [if_pos (by omega)]) | (rw [if_neg (by omega), if_pos (by omega)]) | (rw [if_neg (by omega), if_neg (by omega)]))
theorem cmp8_any (x y : UInt8) (w : World) :
    Calls Try.prog 28 #[.int .u8 (x.toNat : Int), .int .u8 (y.toNat : Int)] w fun e w' => e = .returned (.int .i64 (cmpI x.toNat y.toNat)) ∧ w' = w := by
  have hx := u8_lt x
  have hy := u8_lt y
  go_enter Try.func28, Try.ntmps28
  go_wp2
  all_goals (go_ret; refine ⟨ret_int ?_, rfl⟩; unfold cmpI; first | (rw [if_pos (by omega)]) | (rw [if_neg (by omega), if_pos (by omega)]) | (rw [if_neg (by omega), if_neg (by omega)]))
/-- the first of three that is not 0 -/
def orI (x y z : Int) : Int := if x ≠ 0 then x else if y ≠ 0 then y else z
theorem cmpOr_any (g : Nat) (x y z : Int) (w : World) (c0 : w.cell? ⟨g, 0, none⟩ = some (.int .i64 x)) (c1 : w.cell? ⟨g, 1, none⟩ = some (.int .i64 y)) (c2 : w.cell? ⟨g, 2, none⟩ = some (.int .i64 z)) :
    Calls Try.prog 25 #[.slice (some ⟨g, 0, none⟩) 3 3] w fun e w' => e = .returned (.int .i64 (orI x y z)) ∧ w' = w := by
  go_enter Try.func25, Try.ntmps25
  go_wp2
  go_loop [8] (fun i => ∃ k : Nat, i = .int .i64 k ∧ k ≤ 3 ∧ Hid ((0 < k → x = 0) ∧ (1 < k → y = 0) ∧ (2 < k → z = 0))) (fun i => 3 - (intOf i).toNat)
  case atStart => exact ⟨0, rfl, by omega, Lib.hid ⟨fun h => by omega, fun h => by omega, fun h => by omega⟩⟩
  case round =>
    obtain ⟨k, rfl, hk, hl⟩ := hrel
    by_cases h3 : k < 3
    · obtain ⟨q, hc, hq⟩ : ∃ q : Int, w.cell? ⟨g, k, none⟩ = some (.int .i64 q) ∧ Hid (q = if k = 0 then x else if k = 1 then y else z) := by
        have hk' : k = 0 ∨ k = 1 ∨ k = 2 := by omega
        rcases hk' with rfl | rfl | rfl
        · exact ⟨x, c0, Lib.hid rfl⟩
        · exact ⟨y, c1, Lib.hid rfl⟩
        · exact ⟨z, c2, Lib.hid rfl⟩
      by_cases hq0 : q = 0
      · have hb : (q != 0) = false := by simp [hq0]
        have HQ0 := Lib.hid hq0
        clear hq0
        go_wp2
        go_round
        case rel =>
          refine ⟨k + 1, by go_num, by omega, Lib.hid ?_⟩
          have h := hl.out
          have hqq := hq.out
          rw [HQ0.out] at hqq
          refine ⟨fun _ => ?_, fun _ => ?_, fun _ => ?_⟩
          · by_cases e : k = 0
            · rw [if_pos e] at hqq; exact hqq.symm
            · exact h.1 (by omega)
          · by_cases e : k = 1
            · rw [if_neg (by omega), if_pos e] at hqq; exact hqq.symm
            · exact h.2.1 (by omega)
          · rw [if_neg (by omega), if_neg (by omega)] at hqq; exact hqq.symm
        case measure => simp [intOf]; omega
      · have hb : (q != 0) = true := by simp [hq0]
        have HQ0 := Lib.hid hq0
        clear hq0
        go_wp2
        go_ret
        refine ⟨ret_int ?_, rfl⟩
        have h := hl.out
        have hqq := hq.out
        unfold orI
        by_cases e0 : k = 0
        · rw [if_pos e0] at hqq
          rw [← hqq, if_pos HQ0.out]
        · rw [if_neg e0] at hqq
          rw [h.1 (by omega), if_neg (by simp)]
          by_cases e1 : k = 1
          · rw [if_pos e1] at hqq
            rw [← hqq, if_pos HQ0.out]
          · rw [if_neg e1] at hqq
            rw [h.2.1 (by omega), if_neg (by simp)]
            exact hqq
    · go_wp2
      go_ret
      refine ⟨ret_int ?_, rfl⟩
      have h := hl.out
      simp [orI, h.1 (by omega), h.2.1 (by omega), h.2.2 (by omega)]
theorem cmpE_or (a b : Ent) : orI (Lib.compareBytes a.user.toList b.user.toList) (cmpI b.seq.toNat a.seq.toNat) (cmpI b.kind.toNat a.kind.toNat) = cmpE a b := by
  rw [compareBytes_lt]
  unfold orI cmpE cmpI
  repeat' split
  all_goals first | rfl | (exfalso; simp_all; done) | (exfalso; omega)

set_option maxRecDepth 100000 in
set_option maxHeartbeats 1000000 in
theorem iCompare_any (a b : Ent) (w : World) :
    Calls Try.prog 11 #[entV a, entV b] w fun e w' => e = .returned (.int .i64 (cmpE a b)) ∧ Below w.heap.size w w' := by
  go_enter Try.func11, Try.ntmps11
  go_wp2_with fail
  obtain ⟨W, hW⟩ : ∃ W, W = (w.alloc (.cells #[.string a.user, .int .u64 (a.seq.toNat : Int), .int .u8 (a.kind.toNat : Int), .string a.value] 24)).alloc (.cells #[.string b.user, .int .u64 (b.seq.toNat : Int), .int .u8 (b.kind.toNat : Int), .string b.value] 24) := ⟨_, rfl⟩
  have hb : Below w.heap.size w W := by rw [hW]; exact balloc (balloc (bself w) _) _
  have a0 : W.cell? ⟨w.heap.size, 0, none⟩ = some (.string a.user) := by rw [hW]; go_simp
  have a1 : W.cell? ⟨w.heap.size, 1, none⟩ = some (.int .u64 (a.seq.toNat : Int)) := by rw [hW]; go_simp
  have a2 : W.cell? ⟨w.heap.size, 2, none⟩ = some (.int .u8 (a.kind.toNat : Int)) := by rw [hW]; go_simp
  have b0 : W.cell? ⟨w.heap.size + 1, 0, none⟩ = some (.string b.user) := by rw [hW]; go_simp
  have b1 : W.cell? ⟨w.heap.size + 1, 1, none⟩ = some (.int .u64 (b.seq.toNat : Int)) := by rw [hW]; go_simp
  have b2 : W.cell? ⟨w.heap.size + 1, 2, none⟩ = some (.int .u8 (b.kind.toNat : Int)) := by rw [hW]; go_simp
  have hWs : W.heap.size = w.heap.size + 2 := by rw [hW]; simp
  have keepS : ∀ w', Below W.heap.size W w' → (w'.cell? ⟨w.heap.size, 0, none⟩ = some (.string a.user) ∧ w'.cell? ⟨w.heap.size, 1, none⟩ = some (.int .u64 (a.seq.toNat : Int)) ∧ w'.cell? ⟨w.heap.size, 2, none⟩ = some (.int .u8 (a.kind.toNat : Int)) ∧ w'.cell? ⟨w.heap.size + 1, 0, none⟩ = some (.string b.user) ∧ w'.cell? ⟨w.heap.size + 1, 1, none⟩ = some (.int .u64 (b.seq.toNat : Int)) ∧ w'.cell? ⟨w.heap.size + 1, 2, none⟩ = some (.int .u8 (b.kind.toNat : Int))) := fun w' h' =>
    ⟨(h'.cell (by simp; omega)).trans a0, (h'.cell (by simp; omega)).trans a1, (h'.cell (by simp; omega)).trans a2, (h'.cell (by simp; omega)).trans b0, (h'.cell (by simp; omega)).trans b1, (h'.cell (by simp; omega)).trans b2⟩
  have KS := Lib.hid keepS
  rw [← hW]
  clear hW hWs keepS a0 a1 a2 b0 b1 b2
  refine wp_region_noPanic ?_
  refine wp_region_held_drew (S := fun w' => w'.cell? ⟨w.heap.size, 0, none⟩ = some (.string a.user) ∧ w'.cell? ⟨w.heap.size, 1, none⟩ = some (.int .u64 (a.seq.toNat : Int)) ∧ w'.cell? ⟨w.heap.size, 2, none⟩ = some (.int .u8 (a.kind.toNat : Int)) ∧ w'.cell? ⟨w.heap.size + 1, 0, none⟩ = some (.string b.user) ∧ w'.cell? ⟨w.heap.size + 1, 1, none⟩ = some (.int .u64 (b.seq.toNat : Int)) ∧ w'.cell? ⟨w.heap.size + 1, 2, none⟩ = some (.int .u8 (b.kind.toNat : Int))) (by kernel_rfl) (KS.out _ (bdrew (bself W))) (fun hHeld => ?_)
  refine reg_take 0 (v := ?_) (by rfl) (by kernel_rfl) (by kernel_rfl) (by kernel_rfl) (fun _ _ _ h => h) (by rfl) ?_ (by assumption) ?_
  rotate_left
  · (intro wq hSq; (try dsimp only at hSq); go_split_ands; go_simp; (try with_reducible rfl))
  try simp only [Act.put, List.setIfInBounds_toArray, List.set_cons_zero, List.set_cons_succ]
  refine reg_take 1 (v := ?_) (by rfl) (by kernel_rfl) (by kernel_rfl) (by kernel_rfl) (fun _ _ _ h => h) (by rfl) ?_ (by assumption) ?_
  rotate_left
  · (intro wq hSq; (try dsimp only at hSq); go_split_ands; go_simp; (try with_reducible rfl))
  try simp only [Act.put, List.setIfInBounds_toArray, List.set_cons_zero, List.set_cons_succ]
  refine reg_take 2 (v := ?_) (by rfl) (by kernel_rfl) (by kernel_rfl) (by kernel_rfl) (fun _ _ _ h => h) (by rfl) ?_ (by assumption) ?_
  rotate_left
  · (intro wq hSq; (try dsimp only at hSq); go_split_ands; go_simp; (try with_reducible rfl))
  try simp only [Act.put, List.setIfInBounds_toArray, List.set_cons_zero, List.set_cons_succ]
  refine reg_take 3 (v := ?_) (by rfl) (by kernel_rfl) (by kernel_rfl) (by kernel_rfl) (fun _ _ _ h => h) (by rfl) ?_ (by assumption) ?_
  rotate_left
  · (intro wq hSq; (try dsimp only at hSq); go_split_ands; go_simp; (try with_reducible rfl))
  try simp only [Act.put, List.setIfInBounds_toArray, List.set_cons_zero, List.set_cons_succ]
  refine reg_take 5 (v := ?_) (by rfl) (by kernel_rfl) (by kernel_rfl) (by kernel_rfl) (fun _ _ _ h => h) (by rfl) ?_ (by assumption) ?_
  rotate_left
  · (intro wq hSq; (try dsimp only at hSq); go_split_ands; go_simp; (try with_reducible rfl))
  try simp only [Act.put, List.setIfInBounds_toArray, List.set_cons_zero, List.set_cons_succ]
  refine reg_take 6 (v := ?_) (by rfl) (by kernel_rfl) (by kernel_rfl) (by kernel_rfl) (fun _ _ _ h => h) (by rfl) ?_ (by assumption) ?_
  rotate_left
  · (intro wq hSq; (try dsimp only at hSq); go_split_ands; go_simp; (try with_reducible rfl))
  try simp only [Act.put, List.setIfInBounds_toArray, List.set_cons_zero, List.set_cons_succ]
  refine reg_take 7 (v := ?_) (by rfl) (by kernel_rfl) (by kernel_rfl) (by kernel_rfl) (fun _ _ _ h => h) (by rfl) ?_ (by assumption) ?_
  rotate_left
  · (intro wq hSq; (try dsimp only at hSq); go_split_ands; go_simp; (try with_reducible rfl))
  try simp only [Act.put, List.setIfInBounds_toArray, List.set_cons_zero, List.set_cons_succ]
  refine reg_take 8 (v := ?_) (by rfl) (by kernel_rfl) (by kernel_rfl) (by kernel_rfl) (fun _ _ _ h => h) (by rfl) ?_ (by assumption) ?_
  rotate_left
  · (intro wq hSq; (try dsimp only at hSq); go_split_ands; go_simp; (try with_reducible rfl))
  try simp only [Act.put, List.setIfInBounds_toArray, List.set_cons_zero, List.set_cons_succ]
  refine reg_take 10 (v := ?_) (by rfl) (by kernel_rfl) (by kernel_rfl) (by kernel_rfl) (fun _ _ _ h => h) (by rfl) ?_ (by assumption) ?_
  rotate_left
  · (intro wq hSq; (try dsimp only at hSq); go_split_ands; go_simp; (try with_reducible rfl))
  try simp only [Act.put, List.setIfInBounds_toArray, List.set_cons_zero, List.set_cons_succ]
  refine reg_take 11 (v := ?_) (by rfl) (by kernel_rfl) (by kernel_rfl) (by kernel_rfl) (fun _ _ _ h => h) (by rfl) ?_ (by assumption) ?_
  rotate_left
  · (intro wq hSq; (try dsimp only at hSq); go_split_ands; go_simp; (try with_reducible rfl))
  try simp only [Act.put, List.setIfInBounds_toArray, List.set_cons_zero, List.set_cons_succ]
  refine reg_take 12 (v := ?_) (by rfl) (by kernel_rfl) (by kernel_rfl) (by kernel_rfl) (fun _ _ _ h => h) (by rfl) ?_ (by assumption) ?_
  rotate_left
  · (intro wq hSq; (try dsimp only at hSq); go_split_ands; go_simp; (try with_reducible rfl))
  try simp only [Act.put, List.setIfInBounds_toArray, List.set_cons_zero, List.set_cons_succ]
  refine reg_take 13 (v := ?_) (by rfl) (by kernel_rfl) (by kernel_rfl) (by kernel_rfl) (fun _ _ _ h => h) (by rfl) ?_ (by assumption) ?_
  rotate_left
  · (intro wq hSq; (try dsimp only at hSq); go_split_ands; go_simp; (try with_reducible rfl))
  try simp only [Act.put, List.setIfInBounds_toArray, List.set_cons_zero, List.set_cons_succ]
  refine reg_one 4 (by rfl) (by kernel_rfl) (by rfl) (fun K hK => ?_)
  (go_simp; go_at_call 26; refine (strCompare_any a.user b.user _).mono ?_; rintro e w5 ⟨rfl, rfl⟩; go_wp2_with fail)
  refine hK.out _ _ ?_ (fun hHeld => ?_)
  · exact KS.out _ (bdrew (bself W))
  clear hK K
  try simp only [Act.put, List.setIfInBounds_toArray, List.set_cons_zero, List.set_cons_succ]
  refine reg_one 9 (by rfl) (by kernel_rfl) (by rfl) (fun K hK => ?_)
  (go_simp; go_at_call 27; refine (cmp64_any b.seq a.seq _).mono ?_; rintro e w5 ⟨rfl, rfl⟩; go_wp2_with fail)
  refine hK.out _ _ ?_ (fun hHeld => ?_)
  · exact KS.out _ (bdrew (bself W))
  clear hK K
  try simp only [Act.put, List.setIfInBounds_toArray, List.set_cons_zero, List.set_cons_succ]
  refine reg_one 14 (by rfl) (by kernel_rfl) (by rfl) (fun K hK => ?_)
  (go_simp; go_at_call 28; refine (cmp8_any b.kind a.kind _).mono ?_; rintro e w5 ⟨rfl, rfl⟩; go_wp2_with fail)
  refine hK.out _ _ ?_ (fun hHeld => ?_)
  · exact KS.out _ (bdrew (bself W))
  clear hK K
  try simp only [Act.put, List.setIfInBounds_toArray, List.set_cons_zero, List.set_cons_succ]
  refine reg_one 15 (by rfl) (by kernel_rfl) (by rfl) (fun K hK => ?_)
  (go_simp)
  refine hK.out _ _ ?_ (fun hHeld => ?_)
  · exact KS.out _ (balloc (bdrew (bself W)) _)
  clear hK K
  try simp only [Act.put, List.setIfInBounds_toArray, List.set_cons_zero, List.set_cons_succ]
  refine reg_one 16 (by rfl) (by kernel_rfl) (by rfl) (fun K hK => ?_)
  (go_simp; go_at_call 25; refine (cmpOr_any W.heap.size (Lib.compareBytes a.user.toList b.user.toList) (cmpI b.seq.toNat a.seq.toNat) (cmpI b.kind.toNat a.kind.toNat) _ (cell_of_row _ W.heap.size 0 _ _ _ (heap_alloc_new W _)) (cell_of_row _ W.heap.size 1 _ _ _ (heap_alloc_new W _)) (cell_of_row _ W.heap.size 2 _ _ _ (heap_alloc_new W _))).mono ?_; rintro e w5 ⟨rfl, rfl⟩; go_wp2_with fail)
  refine hK.out _ _ ?_ (fun hHeld => ?_)
  · exact KS.out _ (balloc (bdrew (bself W)) _)
  clear hK K
  try simp only [Act.put, List.setIfInBounds_toArray, List.set_cons_zero, List.set_cons_succ]
  refine reg_take 17 (v := ?_) (by rfl) (by kernel_rfl) (by kernel_rfl) (by kernel_rfl) (fun _ _ _ h => h) (by rfl) ?_ (by assumption) ?_
  rotate_left
  · (intro wq hSq; (try dsimp only at hSq); go_split_ands; go_simp; (try with_reducible rfl))
  try simp only [Act.put, List.setIfInBounds_toArray, List.set_cons_zero, List.set_cons_succ]
  refine wpAnyH_done (by kernel_rfl) (noPanic_mk ?_) _
  go_wp2
  go_ret
  exact ⟨ret_int (cmpE_or a b), hb.trans ((balloc (bdrew (bself W)) _).mono hb.size)⟩
set_option maxHeartbeats 1000000 in
theorem rCompare_any (a b : Ent) (w : World) :
    Calls Try.prog 12 #[entV a, entV b] w fun e w' => e = .returned (.int .i64 (cmpE a b)) ∧ Below w.heap.size w w' := by
  go_enter Try.func12, Try.ntmps12
  go_wp2
  all_goals go_ret
  all_goals refine ⟨ret_int ?_, (((Below.refl _ _).alloc (Nat.le_refl _) _).alloc (by simp) _)⟩
  all_goals first
    | exact (cmpE_1 ‹_›).symm
    | exact (cmpE_2 ‹_› ‹_›).symm
    | exact (cmpE_3 ‹_› ‹_›).symm
    | exact (cmpE_4 ‹_› ‹_› ‹_›).symm
    | exact (cmpE_5 ‹_› ‹_› ‹_›).symm
    | exact (cmpE_6 ‹_› ‹_› ‹_› ‹_›).symm
    | exact (cmpE_7 ‹_› ‹_› ‹_›).symm
end Go.Proofs.Ytfdmemfdhakcbaa
