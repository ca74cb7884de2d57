/-
  What is proved here: a table's meta in memory; how two numbers and two texts compare; which of two metas stands ahead, at this seat's numbers. No condition.
-/
import Derived.Test.YtchjknbideoieaaGreatDoorK04
import Derived.Test.YtchjknbideoieaaGreatDoorK03
import Derived.Laws.Cover1
import Derived.Deep.DeepCutAuto
import Derived.Lib.Hide
namespace Go.Proofs.YtchjknbideoieaaGreatDoor
open Go.RowKit Go.Proofs
structure Mt where
  lv : Nat
  g : Nat
  e : Nat
  n : Nat
  size : Nat
  count : Nat
  mn : ByteArray
  mx : ByteArray
  root : List UInt8
def mtC (m : Mt) : List Value := [.int .u8 (m.lv : Int), .int .u64 (m.g : Int), .int .u64 (m.e : Int), .int .u64 (m.n : Int), .int .i64 (m.size : Int), .int .i64 (m.count : Int), .string m.mn, .string m.mx] ++ bv m.root
def sgnB (a b : ByteArray) : Int := if ltB a.toList b.toList = true then -1 else if ltB b.toList a.toList = true then 1 else 0
set_option maxRecDepth 100000 in
set_option maxHeartbeats 1000000 in
theorem kCmpS_any (a b : ByteArray) (w : World) : Calls Tryz.prog 31 #[.string a, .string b] w fun e w' => e = .returned (.int .i64 (sgnB a b)) ∧ w' = w := by
  unfold sgnB
  cases h1 : ltB a.toList b.toList
  · cases h2 : ltB b.toList a.toList
    · have h3 : (!(ltB a.toList b.toList || a.toList == b.toList)) = false := by
        rw [ltB_tri _ _ h1 h2]; simp
      have h4 : (a.toList == b.toList) = true := by rw [ltB_tri _ _ h1 h2]; simp
      have h5 : (!(a.toList == b.toList)) = false := by rw [h4]; rfl
      unfold ltB at h1 h2 h3
      simp only [Bool.false_eq_true, if_false]
      go_enter Tryz.func31, Tryz.ntmps31
      go_wp2
      go_ret
      exact ⟨rfl, rfl⟩
    · have h3 : (!(ltB a.toList b.toList || a.toList == b.toList)) = true := by
        rw [h1]
        have : (a.toList == b.toList) = false := beq_eq_false_iff_ne.2 (fun e => by rw [e, ltB_irr] at h2; cases h2)
        rw [this]; rfl
      have h4 : (a.toList == b.toList) = false := beq_eq_false_iff_ne.2 (fun e => by rw [e, ltB_irr] at h2; cases h2)
      have h5 : (!(a.toList == b.toList)) = true := by rw [h4]; rfl
      unfold ltB at h1 h2 h3
      simp only [Bool.false_eq_true, if_false, if_true]
      go_enter Tryz.func31, Tryz.ntmps31
      go_wp2
      go_ret
      exact ⟨rfl, rfl⟩
  · unfold ltB at h1
    simp only [if_true]
    go_enter Tryz.func31, Tryz.ntmps31
    go_wp2
    go_ret
    exact ⟨rfl, rfl⟩
def standsF (a b : Mt) : Bool := if a.lv = 0 then decide (b.n < a.n) else ltB a.mx.toList b.mn.toList
set_option maxRecDepth 100000 in
set_option maxHeartbeats 2000000 in
theorem kStands_any (a b : Mt) (ca cb : Array Value) (ha : (mtC a).toArray = ca) (hb : (mtC b).toArray = cb) (w : World) : Calls Tryz.prog 67 #[.agg ca, .agg cb] w fun e w' => e = .returned (.bool (standsF a b)) ∧ Below w.heap.size w w' := by
  have HA : Hid (ca[0]? = some (.int .u8 (a.lv : Int)) ∧ ca[3]? = some (.int .u64 (a.n : Int)) ∧ ca[7]? = some (.string a.mx)) := Lib.hid (by rw [← ha]; exact ⟨rfl, rfl, rfl⟩)
  have HB : Hid (cb[3]? = some (.int .u64 (b.n : Int)) ∧ cb[6]? = some (.string b.mn)) := Lib.hid (by rw [← hb]; exact ⟨rfl, rfl⟩)
  clear ha hb
  obtain ⟨res, hres⟩ : ∃ res, res = standsF a b := ⟨_, rfl⟩
  rw [← hres]
  have hs : (a.lv = 0 ∧ Hid (res = decide (b.n < a.n))) ∨ (a.lv ≠ 0 ∧ Hid (res = ltB a.mx.toList b.mn.toList)) := by
    unfold standsF at hres
    by_cases h0 : a.lv = 0
    · rw [if_pos h0] at hres; exact .inl ⟨h0, Lib.hid hres⟩
    · rw [if_neg h0] at hres; exact .inr ⟨h0, Lib.hid hres⟩
  clear hres
  go_enter Tryz.func67, Tryz.ntmps67
  go_upto_region 1 with fail
  generalize hWA : World.alloc _ _ = wA
  have rB : wA.heap[w.heap.size + 1]? = some (.cells cb 55 (0, 0)) := by rw [← hWA]; exact heap_alloc2_new w _ _
  have rA : wA.heap[w.heap.size]? = some (.cells ca 55 (0, 0)) := by rw [← hWA]; exact heap_alloc2_old w _ _
  have bA : Below w.heap.size w wA := by rw [← hWA]; exact balloc (balloc (bself w) _) _
  have x0 := (cell_of_row _ _ 0 _ _ _ rA).trans HA.out.1
  have x3 := (cell_of_row _ _ 3 _ _ _ rA).trans HA.out.2.1
  have x7 := (cell_of_row _ _ 7 _ _ _ rA).trans HA.out.2.2
  have y3 := (cell_of_row _ _ 3 _ _ _ rB).trans HB.out.1
  have y6 := (cell_of_row _ _ 6 _ _ _ rB).trans HB.out.2
  clear hWA rB rA
  rcases hs with ⟨h0, hs⟩ | ⟨h0, hs⟩
  · have h0i : ((a.lv : Int) == 0) = true := by rw [h0]; rfl
    go_wp2_with fail
    go_ret
    exact ⟨by rw [hs.out]; rfl, bA⟩
  · have h0i : ((a.lv : Int) == 0) = false := by rw [beq_eq_false_iff_ne]; omega
    go_wp2_with fail
    go_ret
    exact ⟨by rw [hs.out]; rfl, bA⟩
end Go.Proofs.YtchjknbideoieaaGreatDoor
