/-
  What is proved here: two lists of entries (of operations) that read the same are told to be the same. Conditions: none but that they read so.
-/
import Derived.Test.YtoccmedadiangaaRowEnt
import Derived.BigQuiet
namespace Go.Proofs.Ytoccmedadiangaa
open Go.RowKit

set_option maxHeartbeats 1000000 in
theorem rSame_true (u v : Value) (l : List Ent) (w : World) (hu : SE w w.heap.size u l) (hv : SE w w.heap.size v l) :
    Calls Try.prog 15 #[u, v] w fun e w' => e = .returned (.bool true) ∧ Below w.heap.size w w' := by
  obtain ⟨A, c, rfl, hlc, hcm, hr⟩ := hu
  obtain ⟨A', c', rfl, hlc', hcm', hr'⟩ := hv
  have hcm2 : c ≤ 9223372036854775807 := by unfold maxLen at hcm; omega
  clear hcm hcm'
  go_enter Try.func15, Try.ntmps15
  go_wp2
  go_loopw [5] (fun i wr => ∃ k : Nat, i = .int .i64 k ∧ k ≤ l.length ∧ Below w.heap.size w wr) (fun i _ => l.length - (intOf i).toNat)
  case atStart => exact ⟨0, rfl, Nat.zero_le _, Below.refl _ _⟩
  case round =>
    obtain ⟨k, rfl, hk, hbr⟩ := hrel
    by_cases hlt : k < l.length
    · obtain ⟨b, o, rfl, hb, c0, c1, c2, c3⟩ := (hr.below hbr).ent rfl hlt
      obtain ⟨b', o', rfl, hb', d0, d1, d2, d3⟩ := (hr'.below hbr).ent rfl hlt
      obtain ⟨x, hx⟩ : ∃ x, x = l[k] := ⟨_, rfl⟩
      rw [← hx] at c0 c1 c2 c3 d0 d1 d2 d3
      clear hx
      go_wp2
      go_quiet (fail)
      go_wp2
      go_roundw
      case rel => exact ⟨k + 1, by go_num, by omega, bdrewN hbr _⟩
      case measure => simp [intOf]; omega
    · go_wp2
      go_ret
      exact ⟨rfl, hbr⟩
end Go.Proofs.Ytoccmedadiangaa
