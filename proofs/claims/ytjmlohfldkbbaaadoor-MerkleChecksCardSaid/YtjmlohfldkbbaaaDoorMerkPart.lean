/-
  What is proved here: what the reference's part comes to, at this seat's numbers. Condition: the number's size.
-/
import Derived.Test.YtjmlohfldkbbaaaDoorMerkBits
namespace Go.Proofs.YtjmlohfldkbbaaaDoor
open Go.RowKit

theorem rPart_any (n : Nat) (w : World) (h2 : 2 ≤ n) (hl : n ≤ 9223372036854775807) : Calls Tryd.prog 28 #[.int .i64 (n : Int)] w fun e w' => e = .returned (.int .i64 (part n : Int)) ∧ w' = w := by
  obtain ⟨m, _, h4⟩ := part_bits n h2 (by omega)
  have hp1 := part_lt h2
  have hp2 := part_half h2
  have HPW := Lib.hid h4
  clear h4
  go_enter Tryd.func28, Tryd.ntmps28
  go_wp2_with fail
  go_loopw [3] (fun kv wy => ∃ k : Nat, kv = .int .i64 (k : Int) ∧ 0 < k ∧ k ≤ part n ∧ Hid (∃ j, k = 2 ^ j ∧ j ≤ m) ∧ wy = w) (fun kv _ => n - (intOf kv).toNat)
  case atStart => exact ⟨1, rfl, by omega, part_pos n, Lib.hid ⟨0, rfl, Nat.zero_le _⟩, rfl⟩
  case round =>
    obtain ⟨k, rfl, hk0, hkp, HJ, rfl⟩ := hrel
    by_cases hlt : 2 * k < n
    · have hlt2 : (k : Int) < (n : Int) - (k : Int) := by omega
      have HJ2 : Hid ((∃ j, k * 2 = 2 ^ j ∧ j ≤ m) ∧ k * 2 ≤ part n) := Lib.hid (by
        obtain ⟨j, hj, hjm⟩ := HJ.out
        have hp := HPW.out
        have h3 : 2 ^ (j + 1) < 2 ^ (m + 1) := by rw [Nat.pow_succ, Nat.pow_succ, ← hj, ← hp]; omega
        have h5 : j + 1 < m + 1 := (Nat.pow_lt_pow_iff_right (by omega)).1 h3
        have h6 : 2 ^ (j + 1) ≤ 2 ^ m := Nat.pow_le_pow_right (by omega) (by omega)
        refine ⟨⟨j + 1, by rw [Nat.pow_succ, hj], by omega⟩, ?_⟩
        rw [hp]
        rw [Nat.pow_succ, ← hj] at h6
        exact h6)
      have y1 : IntKind.i64.wrap ((n : Int) - (k : Int)) = (n : Int) - (k : Int) := IntWalk.i64_in _ (by omega)
      have y2 : IntKind.i64.wrap ((k : Int) * 2) = (k : Int) * 2 := IntWalk.i64_in _ (by omega)
      go_wp2_with fail
      go_roundw
      case rel => exact ⟨k * 2, by go_num, by omega, HJ2.out.2, Lib.hid HJ2.out.1, trivial⟩
      case measure => simp [intOf]; omega
    · have hge : ¬ (k : Int) < (n : Int) - (k : Int) := by omega
      have y1 : IntKind.i64.wrap ((n : Int) - (k : Int)) = (n : Int) - (k : Int) := IntWalk.i64_in _ (by omega)
      have HE : Hid (k = part n) := Lib.hid (by
        obtain ⟨j, hj, hjm⟩ := HJ.out
        have hp := HPW.out
        by_cases e : j = m
        · rw [hj, hp, e]
        · have h6 : 2 ^ (j + 1) ≤ 2 ^ m := Nat.pow_le_pow_right (by omega) (by omega)
          rw [Nat.pow_succ, ← hj, ← hp] at h6
          omega)
      go_wp2_with fail
      go_ret
      rw [HE.out]
      exact ⟨rfl, rfl⟩
end Go.Proofs.YtjmlohfldkbbaaaDoor
