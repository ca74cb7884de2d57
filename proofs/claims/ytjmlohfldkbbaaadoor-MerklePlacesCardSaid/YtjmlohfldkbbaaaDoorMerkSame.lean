/-
  What is proved here: what few and same of tantaluslaw11 come to, at this seat's numbers. No condition.
-/
import Derived.Test.YtjmlohfldkbbaaaDoorMerkRoot
namespace Go.Proofs.YtjmlohfldkbbaaaDoor
open Go.RowKit

theorem few_any (l : List Dg) (v : Value) (w : World) (B : Nat) (hv : SD w B v l) : Calls Tryd.prog 10 #[v] w fun e w' => w' = w ∧ ∃ u, e = .returned u ∧ SD w B u (l.take 2000) := by
  obtain ⟨A, c0, rfl, hlc, hcm⟩ := hv.form
  go_enter Tryd.func10, Tryd.ntmps10
  have HS : Hid (SD w B (.slice A (min (l.length : Int) 2000).toNat c0) (l.take 2000)) := Lib.hid (by
    by_cases hl : l.length ≤ 2000
    · rw [show (min (l.length : Int) 2000).toNat = l.length by omega, List.take_of_length_le (by omega)]
      exact hv
    · rw [show (min (l.length : Int) 2000).toNat = 2000 by omega]
      exact hv.take (k := 2000) (by omega) rfl)
  have h2 : min (l.length : Int) 2000 ≤ (c0 : Int) := by omega
  have h3 : 0 ≤ min (l.length : Int) 2000 := by omega
  go_wp2_with fail
  go_ret
  exact ⟨rfl, _, rfl, HS.out⟩
theorem dg_eq (x y : Dg) : (x.1 == y.1) = decide (x = y) := by
  rw [Bool.eq_iff_iff, beq_iff_eq, decide_eq_true_iff]
  exact Subtype.ext_iff.symm
set_option maxRecDepth 100000 in
set_option maxHeartbeats 2000000 in
theorem same_any (a b : List Dg) (v u : Value) (w : World) (B : Nat) (hv : SD w B v a) (hu : SD w B u b) (hB : B ≤ w.heap.size) : Calls Tryd.prog 13 #[v, u] w fun e w' => e = .returned (.bool (decide (a = b))) ∧ Below w.heap.size w w' := by
  obtain ⟨A, c0, rfl, hlc, hcm⟩ := hv.form
  obtain ⟨A2, c2, rfl, hlc2, hcm2⟩ := hu.form
  have hlm : a.length ≤ 9223372036854775807 := by omega
  go_enter Tryd.func13, Tryd.ntmps13
  by_cases hl : a.length = b.length
  · have HL := Lib.hid hl
    have hl2 : ((a.length : Int) != (b.length : Int)) = false := by rw [hl]; simp
    clear hl
    go_wp2_with fail
    go_loopw [13] (fun iv wy => ∃ i : Nat, iv = .int .i64 i ∧ i ≤ a.length ∧ Hid (a.take i = b.take i) ∧ Below w.heap.size w wy) (fun iv _ => a.length - (intOf iv).toNat)
    case atStart => exact ⟨0, rfl, Nat.zero_le _, Lib.hid (by simp), bself w⟩
    case round =>
      obtain ⟨i, rfl, hi, HT, hb⟩ := hrel
      by_cases hlt : i < a.length
      · have hlt2 : i < b.length := by have := HL.out; omega
        obtain ⟨b1, o1, c1, e1, hb1, hel1⟩ := hv.at_ (by omega)
        obtain ⟨b3, o3, c3, e3, hb3, hel3⟩ := hu.at_ (by omega)
        injection e1 with e11 e12 e13
        injection e3 with e31 e32 e33
        subst e11; subst e13; subst e31; subst e33
        clear e12 e32
        have hlb : (i : Int) < (b.length : Int) := by omega
        have KS : Hid (∀ w', Below w.heap.size w w' → w'.rangeAt b1 (o1 + i * 32) (bv (a[i]'hlt).1) ∧ w'.rangeAt b3 (o3 + i * 32) (bv (b[i]'hlt2).1)) := Lib.hid (fun w' h => ⟨range_below (hel1 i hlt) h (by omega), range_below (hel3 i hlt2) h (by omega)⟩)
        have HXY : Hid (a.take (i + 1) = b.take (i + 1) ↔ a[i]'hlt = b[i]'hlt2) := Lib.hid (by
          have ea : a.take (i + 1) = a.take i ++ [a[i]'hlt] := by rw [List.take_add_one, List.getElem?_eq_getElem hlt]; rfl
          have eb : b.take (i + 1) = b.take i ++ [b[i]'hlt2] := by rw [List.take_add_one, List.getElem?_eq_getElem hlt2]; rfl
          rw [ea, eb, HT.out, List.append_cancel_left_eq]
          simp)
        have HAB : Hid (a = b → a[i]'hlt = b[i]'hlt2) := Lib.hid (fun h => by subst h; rfl)
        generalize a[i]'hlt = x at KS HXY HAB
        generalize b[i]'hlt2 = y at KS HXY HAB
        clear hel1 hel3
        by_cases hxy : x = y
        · have HN : Hid (a.take (i + 1) = b.take (i + 1)) := Lib.hid (HXY.out.2 hxy)
          have hEq : ∀ w', (Op.equalIn 10000 31 (.agg (dgA x.1)) (.agg (dgA y.1))).run Tryd.prog w' = .ok true w' := fun w' => by rw [show true = decide (x = y) by simp [hxy], ← dg_eq]; exact run_eqD w' x.1 y.1 x.2 y.2
          clear hxy
          go_upto_region 6 with fail
          refine wp_region_noPanic ?_
          refine wp_region_held_drew (S := fun w' => w'.rangeAt b1 (o1 + i * 32) (bv x.1) ∧ w'.rangeAt b3 (o3 + i * 32) (bv y.1)) (by kernel_rfl) (KS.out _ (bdrew hb)) (fun hHeld => ?_)
          refine reg_take 0 (v := ?_) (by rfl) (by kernel_rfl) (by kernel_rfl) (by kernel_rfl) (fun _ _ _ h => h) (by rfl) ?_ (by assumption) ?_
          rotate_left
          · (intro wq hSq; (try dsimp only at hSq); go_split_ands; go_simp; (try with_reducible rfl))
          try simp only [Act.put, List.setIfInBounds_toArray, List.set_cons_zero, List.set_cons_succ]
          refine reg_take 1 (v := ?_) (by rfl) (by kernel_rfl) (by kernel_rfl) (by kernel_rfl) (fun _ _ _ h => h) (by rfl) ?_ (by assumption) ?_
          rotate_left
          · (intro wq hSq; (try dsimp only at hSq); go_split_ands; go_simp; (try with_reducible rfl))
          try simp only [Act.put, List.setIfInBounds_toArray, List.set_cons_zero, List.set_cons_succ]
          refine reg_take 2 (v := ?_) (by rfl) (by kernel_rfl) (by kernel_rfl) (by kernel_rfl) (fun _ _ _ h => h) (by rfl) ?_ (by assumption) ?_
          rotate_left
          · (intro wq hSq; (try dsimp only at hSq); go_split_ands; go_simp; (try with_reducible rfl))
          try simp only [Act.put, List.setIfInBounds_toArray, List.set_cons_zero, List.set_cons_succ]
          refine reg_take 3 (v := .agg (dgA x.1)) (by rfl) (by kernel_rfl) (by kernel_rfl) (by kernel_rfl) (fun _ _ _ h => h) (by rfl) ?_ (by assumption) ?_
          · (intro wq hSq; exact exec_loadM (.tmp 18) rfl b1 (o1 + i * 32) rfl x hSq.1)
          try simp only [Act.put, List.setIfInBounds_toArray, List.set_cons_zero, List.set_cons_succ]
          refine reg_take 4 (v := ?_) (by rfl) (by kernel_rfl) (by kernel_rfl) (by kernel_rfl) (fun _ _ _ h => h) (by rfl) ?_ (by assumption) ?_
          rotate_left
          · (intro wq hSq; (try dsimp only at hSq); go_split_ands; go_simp; (try with_reducible rfl))
          try simp only [Act.put, List.setIfInBounds_toArray, List.set_cons_zero, List.set_cons_succ]
          refine reg_take 5 (v := ?_) (by rfl) (by kernel_rfl) (by kernel_rfl) (by kernel_rfl) (fun _ _ _ h => h) (by rfl) ?_ (by assumption) ?_
          rotate_left
          · (intro wq hSq; (try dsimp only at hSq); go_split_ands; go_simp; (try with_reducible rfl))
          try simp only [Act.put, List.setIfInBounds_toArray, List.set_cons_zero, List.set_cons_succ]
          refine reg_take 6 (v := ?_) (by rfl) (by kernel_rfl) (by kernel_rfl) (by kernel_rfl) (fun _ _ _ h => h) (by rfl) ?_ (by assumption) ?_
          rotate_left
          · (intro wq hSq; (try dsimp only at hSq); go_split_ands; go_simp; (try with_reducible rfl))
          try simp only [Act.put, List.setIfInBounds_toArray, List.set_cons_zero, List.set_cons_succ]
          refine reg_take 7 (v := .agg (dgA y.1)) (by rfl) (by kernel_rfl) (by kernel_rfl) (by kernel_rfl) (fun _ _ _ h => h) (by rfl) ?_ (by assumption) ?_
          · (intro wq hSq; exact exec_loadM (.tmp 22) rfl b3 (o3 + i * 32) rfl y hSq.2)
          try simp only [Act.put, List.setIfInBounds_toArray, List.set_cons_zero, List.set_cons_succ]
          refine reg_take 8 (v := ?_) (by rfl) (by kernel_rfl) (by kernel_rfl) (by kernel_rfl) (fun _ _ _ h => h) (by rfl) ?_ (by assumption) ?_
          rotate_left
          · (intro wq hSq; (try dsimp only at hSq); go_split_ands; go_simp; (try with_reducible rfl))
          try simp only [Act.put, List.setIfInBounds_toArray, List.set_cons_zero, List.set_cons_succ]
          refine wpAnyH_done (by kernel_rfl) (noPanic_mk ?_) _
          go_wp2_with fail
          go_roundw
          case rel => exact ⟨i + 1, by go_num, by omega, HN, bdrew hb⟩
          case measure => simp [intOf]; omega
        · have HN : Hid (decide (a = b) = false) := Lib.hid (by rw [decide_eq_false_iff_not]; exact fun h => hxy (HAB.out h))
          have hEq : ∀ w', (Op.equalIn 10000 31 (.agg (dgA x.1)) (.agg (dgA y.1))).run Tryd.prog w' = .ok false w' := fun w' => by rw [show false = decide (x = y) by simp [hxy], ← dg_eq]; exact run_eqD w' x.1 y.1 x.2 y.2
          clear hxy
          go_upto_region 6 with fail
          refine wp_region_noPanic ?_
          refine wp_region_held_drew (S := fun w' => w'.rangeAt b1 (o1 + i * 32) (bv x.1) ∧ w'.rangeAt b3 (o3 + i * 32) (bv y.1)) (by kernel_rfl) (KS.out _ (bdrew hb)) (fun hHeld => ?_)
          refine reg_take 0 (v := ?_) (by rfl) (by kernel_rfl) (by kernel_rfl) (by kernel_rfl) (fun _ _ _ h => h) (by rfl) ?_ (by assumption) ?_
          rotate_left
          · (intro wq hSq; (try dsimp only at hSq); go_split_ands; go_simp; (try with_reducible rfl))
          try simp only [Act.put, List.setIfInBounds_toArray, List.set_cons_zero, List.set_cons_succ]
          refine reg_take 1 (v := ?_) (by rfl) (by kernel_rfl) (by kernel_rfl) (by kernel_rfl) (fun _ _ _ h => h) (by rfl) ?_ (by assumption) ?_
          rotate_left
          · (intro wq hSq; (try dsimp only at hSq); go_split_ands; go_simp; (try with_reducible rfl))
          try simp only [Act.put, List.setIfInBounds_toArray, List.set_cons_zero, List.set_cons_succ]
          refine reg_take 2 (v := ?_) (by rfl) (by kernel_rfl) (by kernel_rfl) (by kernel_rfl) (fun _ _ _ h => h) (by rfl) ?_ (by assumption) ?_
          rotate_left
          · (intro wq hSq; (try dsimp only at hSq); go_split_ands; go_simp; (try with_reducible rfl))
          try simp only [Act.put, List.setIfInBounds_toArray, List.set_cons_zero, List.set_cons_succ]
          refine reg_take 3 (v := .agg (dgA x.1)) (by rfl) (by kernel_rfl) (by kernel_rfl) (by kernel_rfl) (fun _ _ _ h => h) (by rfl) ?_ (by assumption) ?_
          · (intro wq hSq; exact exec_loadM (.tmp 18) rfl b1 (o1 + i * 32) rfl x hSq.1)
          try simp only [Act.put, List.setIfInBounds_toArray, List.set_cons_zero, List.set_cons_succ]
          refine reg_take 4 (v := ?_) (by rfl) (by kernel_rfl) (by kernel_rfl) (by kernel_rfl) (fun _ _ _ h => h) (by rfl) ?_ (by assumption) ?_
          rotate_left
          · (intro wq hSq; (try dsimp only at hSq); go_split_ands; go_simp; (try with_reducible rfl))
          try simp only [Act.put, List.setIfInBounds_toArray, List.set_cons_zero, List.set_cons_succ]
          refine reg_take 5 (v := ?_) (by rfl) (by kernel_rfl) (by kernel_rfl) (by kernel_rfl) (fun _ _ _ h => h) (by rfl) ?_ (by assumption) ?_
          rotate_left
          · (intro wq hSq; (try dsimp only at hSq); go_split_ands; go_simp; (try with_reducible rfl))
          try simp only [Act.put, List.setIfInBounds_toArray, List.set_cons_zero, List.set_cons_succ]
          refine reg_take 6 (v := ?_) (by rfl) (by kernel_rfl) (by kernel_rfl) (by kernel_rfl) (fun _ _ _ h => h) (by rfl) ?_ (by assumption) ?_
          rotate_left
          · (intro wq hSq; (try dsimp only at hSq); go_split_ands; go_simp; (try with_reducible rfl))
          try simp only [Act.put, List.setIfInBounds_toArray, List.set_cons_zero, List.set_cons_succ]
          refine reg_take 7 (v := .agg (dgA y.1)) (by rfl) (by kernel_rfl) (by kernel_rfl) (by kernel_rfl) (fun _ _ _ h => h) (by rfl) ?_ (by assumption) ?_
          · (intro wq hSq; exact exec_loadM (.tmp 22) rfl b3 (o3 + i * 32) rfl y hSq.2)
          try simp only [Act.put, List.setIfInBounds_toArray, List.set_cons_zero, List.set_cons_succ]
          refine reg_take 8 (v := ?_) (by rfl) (by kernel_rfl) (by kernel_rfl) (by kernel_rfl) (fun _ _ _ h => h) (by rfl) ?_ (by assumption) ?_
          rotate_left
          · (intro wq hSq; (try dsimp only at hSq); go_split_ands; go_simp; (try with_reducible rfl))
          try simp only [Act.put, List.setIfInBounds_toArray, List.set_cons_zero, List.set_cons_succ]
          refine wpAnyH_done (by kernel_rfl) (noPanic_mk ?_) _
          go_wp2_with fail
          go_ret
          exact ⟨(congrArg (fun x => Ending.returned (Value.bool x)) HN.out).symm, bdrew hb⟩
      · have hil : i = a.length := by omega
        subst hil
        have HN : Hid (decide (a = b) = true) := Lib.hid (by
          rw [decide_eq_true_iff]
          have h := HT.out
          rw [List.take_length, HL.out, List.take_length] at h
          exact h)
        go_wp2_with fail
        go_ret
        exact ⟨(congrArg (fun x => Ending.returned (Value.bool x)) HN.out).symm, hb⟩
  · have hl2 : ((a.length : Int) != (b.length : Int)) = true := by
      have : ¬ (a.length : Int) = (b.length : Int) := by omega
      simp [this]
    have HN : Hid (decide (a = b) = false) := Lib.hid (by rw [decide_eq_false_iff_not]; exact fun h => hl (by rw [h]))
    go_wp2_with fail
    go_ret
    exact ⟨(congrArg (fun x => Ending.returned (Value.bool x)) HN.out).symm, bself w⟩
end Go.Proofs.YtjmlohfldkbbaaaDoor
