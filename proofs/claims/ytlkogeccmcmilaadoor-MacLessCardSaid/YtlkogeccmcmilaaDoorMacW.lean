/-
  What is proved here: what mac.Equal and the reference's Equal come to, at this seat's numbers. No condition.
-/
import Derived.Test.YtlkogeccmcmilaaDoorShaW2
import Derived.Test.YtlkogeccmcmilaaDoorMacLaw2
import Derived.BigQuiet
namespace Go.Proofs.YtlkogeccmcmilaaDoor
open Go.RowKit

theorem bv_at {l : List UInt8} {i : Nat} (h : i < l.length) : (bv l)[i]? = some (.int .u8 ((l[i].toNat : Nat) : Int)) := bv_get l i h
theorem u8_eq0 (q : UInt8) : (((q.toNat : Nat) : Int) == 0) = (q == 0) := by
  rw [Bool.eq_iff_iff, beq_iff_eq, beq_iff_eq, ← UInt8.toNat_inj]
  show ((q.toNat : Int) = 0) ↔ q.toNat = 0
  omega
set_option maxRecDepth 100000 in
set_option maxHeartbeats 1000000 in
theorem kEqual_any (a b : List UInt8) (v u : Value) (w : World) (hv : SB w w.heap.size v a) (hu : SB w w.heap.size u b) :
    Calls Tryd.prog 13 #[v, u] w fun e w' => e = .returned (.bool (a == b)) ∧ Below w.heap.size w w' := by
  obtain ⟨A, c, rfl, hlc, hcm, hr⟩ := hv
  obtain ⟨A2, c2, rfl, hlc2, hcm2, hr2⟩ := hu
  have hcm' : c ≤ 9223372036854775807 := by unfold maxLen at hcm; omega
  clear hcm hcm2
  go_enter Tryd.func13, Tryd.ntmps13
  by_cases hl : a.length = b.length
  · have HL := Lib.hid hl
    have hl2 : ((a.length : Int) != (b.length : Int)) = false := by rw [hl]; simp
    clear hl
    go_wp2_with fail
    go_loopw [5, 14] (fun uv iv wy => ∃ i : Nat, iv = .int .i64 i ∧ i ≤ a.length ∧ uv = .int .u8 ((unl a b i).toNat : Int) ∧ Below w.heap.size w wy) (fun _ iv _ => a.length - (intOf iv).toNat)
    case atStart => exact ⟨0, rfl, Nat.zero_le _, rfl, bself w⟩
    case round =>
      obtain ⟨i, rfl, hi, rfl, hb⟩ := hrel
      by_cases hlt : i < a.length
      · have hlt2 : i < b.length := by have := HL.out; omega
        obtain ⟨b1, o1, rfl, hb1, hc1⟩ := hr.at_ (by omega)
        obtain ⟨b2, o2, rfl, hb2, hc2⟩ := hr2.at_ (by omega)
        have d1 := (hb.cell (p := ⟨b1, o1 + i, none⟩) hb1).trans (hc1 i _ (bv_at hlt))
        have d2 := (hb.cell (p := ⟨b2, o2 + i, none⟩) hb2).trans (hc2 i _ (bv_at hlt2))
        have HU : Hid (unl a b (i + 1) = or8 (unl a b i) (xor8 a[i] b[i])) := Lib.hid (by
          rw [unl, List.getElem?_eq_getElem hlt, List.getElem?_eq_getElem hlt2]
          rfl)
        generalize unl a b i = q at HU
        generalize a[i] = q1 at d1 HU
        generalize b[i] = q2 at d2 HU
        have x1 := X_xor
        have x2 := X_or
        clear hc1 hc2
        go_upto_region 7 with fail
        go_quiet (fail)
        go_wp2_with fail
        go_roundw
        case rel =>
          first
            | exact ⟨i + 1, by go_num, by omega, by rw [HU.out], bdrewN hb _⟩
            | ((repeat apply Exists.intro); exact ⟨⟨i + 1, by go_num, by omega, by rw [HU.out], bdrewN hb _⟩, rfl⟩)
        case measure => simp [intOf]; omega
      · have hil : i = a.length := by omega
        subst hil
        have HE := Lib.hid (unl_all a b HL.out)
        go_wp2_with fail
        go_ret
        refine ⟨?_, hb⟩
        show Ending.returned (.bool (((unl a b a.length).toNat : Int) == 0)) = _
        rw [u8_eq0, HE.out]
  · have hl2 : ((a.length : Int) != (b.length : Int)) = true := by
      have : ¬ (a.length : Int) = (b.length : Int) := by omega
      simp [this]
    go_wp2_with fail
    go_ret
    have e : (a == b) = false := by
      rw [Bool.eq_false_iff]
      intro h
      rw [beq_iff_eq] at h
      exact hl (by rw [h])
    exact ⟨by rw [e]; rfl, bself w⟩
theorem rEqual_any (a b : List UInt8) (v u : Value) (w : World) (hv : SB w w.heap.size v a) (hu : SB w w.heap.size u b) :
    Calls Tryd.prog 14 #[v, u] w fun e w' => e = .returned (.bool (a == b)) ∧ w' = w := by
  have x1 := run_b2s w v _ _ hv
  have x2 := run_b2s w u _ _ hu
  go_enter Tryd.func14, Tryd.ntmps14
  go_wp2_with fail
  go_ret
  exact ⟨rfl, rfl⟩
end Go.Proofs.YtlkogeccmcmilaaDoor
