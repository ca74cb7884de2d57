/-
  What is proved here: what the program's and the reference's Right (of a head) come to, at this seat's numbers. No condition.
-/
import Derived.Test.YtchjknbideoieaaGreatDoorK02
import Derived.Test.YtchjknbideoieaaGreatDoorK04
import Derived.Lib.Hide
import Derived.BigQuiet
namespace Go.Proofs.YtchjknbideoieaaGreatDoor
open Go.RowKit
theorem ret_bl {a b : Bool} (h : a = b) : Ending.returned (.bool a) = Ending.returned (.bool b) := by rw [h]
abbrev hdV (h : Hd) : Value := .agg #[.int .u8 (h.k : Int), .int .u8 (h.lv : Int), .int .u64 (h.g : Int), .int .u64 (h.e : Int), .int .u64 (h.n : Int)]
theorem right_2 {h : Hd} (a : h.k = 2) : rightH h = decide (h.lv < 5) := by unfold rightH; rw [if_pos a]
theorem right_13 {h : Hd} (a : h.k = 1 ∨ h.k = 3) : rightH h = (decide (h.lv = 0) && decide (h.g = 0)) := by
  unfold rightH
  rw [if_neg (by omega)]
  by_cases b : h.lv = 0 <;> by_cases c : h.g = 0 <;> simp [a, b, c]
theorem right_no {h : Hd} (a : ¬ h.k = 2) (b : ¬ (h.k = 1 ∨ h.k = 3)) : rightH h = false := by
  unfold rightH
  rw [if_neg a, decide_eq_false (fun x => b x.1)]
set_option maxRecDepth 100000 in
set_option maxHeartbeats 1000000 in
theorem kRight_any (h : Hd) (w : World) (ok : h.ok) :
    Calls Tryz.prog 48 #[hdV h] w fun e w' => e = .returned (.bool (rightH h)) ∧ Below w.heap.size w w' := by
  obtain ⟨k, lv, g, e, n⟩ := h
  obtain ⟨h1, h2, h3, h4, h5⟩ := ok
  simp only at h1 h2 h3 h4 h5
  by_cases a : k = 2
  · have HR := Lib.hid (right_2 (h := ⟨k, lv, g, e, n⟩) a)
    subst a
    go_enter Tryz.func48, Tryz.ntmps48
    go_wp2
    go_ret
    refine ⟨?_, (bself w).alloc (Nat.le_refl _) _⟩
    rw [HR.out]
    exact ret_bl (by rw [decide_eq_decide]; omega)
  · by_cases b : k = 1 ∨ k = 3
    · have HR := Lib.hid (right_13 (h := ⟨k, lv, g, e, n⟩) b)
      rcases b with b | b
      all_goals
        subst b
        by_cases c : lv = 0
        · subst c
          go_enter Tryz.func48, Tryz.ntmps48
          go_wp2
          go_ret
          refine ⟨?_, (bself w).alloc (Nat.le_refl _) _⟩
          rw [HR.out]
          exact ret_bl (by simp [Bool.beq_eq_decide_eq])
        · have c' : ¬ ((lv : Int) = 0) := by omega
          have HC : Hid (¬ lv = 0) := c
          clear c
          go_enter Tryz.func48, Tryz.ntmps48
          go_wp2
          go_ret
          refine ⟨?_, (bself w).alloc (Nat.le_refl _) _⟩
          rw [HR.out]
          exact ret_bl (by simp [HC.out])
    · have HR := Lib.hid (right_no (h := ⟨k, lv, g, e, n⟩) a b)
      have a' : ¬ ((k : Int) = 2) := by omega
      have b1 : ¬ ((k : Int) = 1) := by omega
      have b3 : ¬ ((k : Int) = 3) := by omega
      clear a b
      go_enter Tryz.func48, Tryz.ntmps48
      go_wp2
      go_ret
      refine ⟨?_, (bself w).alloc (Nat.le_refl _) _⟩
      rw [HR.out]
      rfl
end Go.Proofs.YtchjknbideoieaaGreatDoor
