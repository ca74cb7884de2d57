/-
  What is proved here: the call of the statement BlockReads returns true and turns nothing that was there. No condition.
-/
import Derived.Test.YtoccmedadiangaaBlockW13
import Derived.Test.YtoccmedadiangaaBlockLawsW
namespace Go.Proofs.Ytoccmedadiangaa
open Go.RowKit

theorem readB_two (b : List UInt8) : ∃ l f, (f = 0 ∨ f = 100) ∧ readB b = (l, f) := by
  by_cases h : (readB b).2 = 0
  · exact ⟨(readB b).1, 0, .inl rfl, by rw [← h]⟩
  · exact ⟨[], 100, .inr rfl, readB_bad h⟩
theorem rRead_is {v : Value} {b : List UInt8} {w : World} (hv : SB w w.heap.size v b) (hl : b.length ≤ 1073741824) {l : List Ent} {f : Nat} (h : readB b = (l, f)) (fi : Int) (hf : (f : Int) = fi) :
    Calls Try.prog 14 #[v] w fun en w' => ∃ v, en = .returned (.tuple #[v, .int .i64 fi]) ∧ OE w' w.heap.size v l ∧ Below w.heap.size w w' := by
  have hk := rRead_any v b w hv hl
  rw [h] at hk
  subst hf
  exact hk
set_option maxRecDepth 100000 in
set_option maxHeartbeats 2000000 in
theorem blockReads_any (v : Value) (b : List UInt8) (w : World) (hv : SB w w.heap.size v b) :
    Calls Try.prog 4 #[v] w fun e w' => e = .returned (.bool true) ∧ Below w.heap.size w w' := by
  have hv0 := Lib.hid hv
  obtain ⟨A, c, rfl, hlc, hcm, hr⟩ := hv
  have hcm' : c ≤ 9223372036854775807 := by unfold maxLen at hcm; omega
  clear hr hcm
  by_cases hl : 100000 < b.length
  · go_enter Try.func4, Try.ntmps4
    go_wp2_with fail
    refine (shown_any w).mono ?_
    rintro e w1 ⟨rfl, b1⟩
    go_wp2_with fail
    go_ret
    exact ⟨rfl, b1⟩
  · obtain ⟨l, f, hf, hrb⟩ := readB_two b
    have HRB := Lib.hid hrb
    clear hrb
    go_enter Try.func4, Try.ntmps4
    go_wp2_with fail
    refine (shown_any w).mono ?_
    rintro e w1 ⟨rfl, b1⟩
    go_wp2_with fail
    refine (kRead_is (hv0.out.on b1) (by omega) HRB.out (f : Int) rfl).mono ?_
    rintro e w2 ⟨r2, rfl, ho2, hb2⟩
    have b2 := bstep b1 hb2
    go_wp2_with fail
    refine (rRead_is (hv0.out.on b2) (by omega) HRB.out (f : Int) rfl).mono ?_
    rintro e w3 ⟨r3, rfl, ho3, hb3⟩
    have b3 := bstep b2 hb3
    have HS := Lib.hid (rSame_true r2 r3 l w3 (ho2.se.on hb3) ho3.se)
    clear ho2 ho3
    go_wp2_with (go_at_call 15; refine HS.out.mono ?_; rintro _ w4 ⟨rfl, hb4⟩)
    go_ret
    exact ⟨ret_bool (by simp), bstep b3 hb4⟩
end Go.Proofs.Ytoccmedadiangaa
