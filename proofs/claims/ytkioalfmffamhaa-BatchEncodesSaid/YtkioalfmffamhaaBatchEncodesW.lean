/-
  What is proved here: the call of the statement BatchEncodes returns true and turns nothing that was there. Conditions: the texts' lengths.
-/
import Derived.Test.YtkioalfmffamhaaShown12
namespace Go.Proofs.Ytkioalfmffamhaa
open Go.RowKit

set_option maxHeartbeats 1000000 in
theorem batchEncodes_any (seq : UInt64) (v : Value) (l : List Opn) (w : World) (hv : SO w w.heap.size v l) (hok : ∀ o ∈ l, OpOk o) :
    Calls Try.prog 3 #[.int .u64 (seq.toNat : Int), v] w fun e w' => e = .returned (.bool true) ∧ Below w.heap.size w w' := by
  go_enter Try.func3, Try.ntmps3
  go_wp2_with fail
  refine (shown_any w).mono ?_
  rintro e w1 ⟨rfl, hb1⟩
  go_wp2_with fail
  refine (light_any v l w1 (SO.on hv hb1) hok).mono ?_
  rintro e w2 ⟨rfl, hb2⟩
  have hb2' := bstep hb1 hb2
  have hv2 := SO.on hv hb2'
  by_cases hl : lightB l = true
  · by_cases hr : rightB seq l = true
    · go_wp2_with fail
      refine (bEncode_ok seq v l w2 hv2 hok hr).mono ?_
      rintro e w3 ⟨x3, rfl, hown3, hb3⟩
      have hb3' := bstep hb2' hb3
      go_wp2_with fail
      refine (rEncode_ok seq v l w3 (SO.on hv hb3') hok hr).mono ?_
      rintro e w4 ⟨x4, rfl, hown4, hb4⟩
      have hb4' := bstep hb3' hb4
      have hs3 := hown3.sb.on hb4
      have hs4 := hown4.sb
      go_wp2_with (first
        | (refine wl_b2s (o := ⟨some 30, _, _, _, _, _⟩) rfl (.tmp 29) rfl x3 rfl _ _ hs3 ?_)
        | (refine wl_b2s (o := ⟨some 32, _, _, _, _, _⟩) rfl (.tmp 31) rfl x4 rfl _ _ hs4 ?_))
      refine (bRight_any seq v l w4 (SO.on hv hb4') hok).mono ?_
      rintro e w5 ⟨rfl, hb5⟩
      have hb5' := bstep hb4' hb5
      go_wp2_with fail
      refine (rRightB_any seq v l w5 (SO.on hv hb5') hok).mono ?_
      rintro e w6 ⟨rfl, hb6⟩
      go_wp2
      go_ret
      exact ⟨ret_bool (by simp), bstep hb5' hb6⟩
    · have hr' : rightB seq l = false := by simpa using hr
      clear hr
      go_wp2_with fail
      refine (bEncode_bad seq v l w2 hv2 hok hr').mono ?_
      rintro e w3 ⟨rfl, hb3⟩
      have hb3' := bstep hb2' hb3
      go_wp2_with fail
      refine (rEncode_bad seq v l w3 (SO.on hv hb3') hok hr').mono ?_
      rintro e w4 ⟨rfl, hb4⟩
      have hb4' := bstep hb3' hb4
      have hs3 := SB.nil_ w4 w4.heap.size
      go_wp2_with (first
        | (refine wl_b2s (o := ⟨some 30, _, _, _, _, _⟩) rfl (.tmp 29) rfl _ rfl _ _ hs3 ?_)
        | (refine wl_b2s (o := ⟨some 32, _, _, _, _, _⟩) rfl (.tmp 31) rfl _ rfl _ _ hs3 ?_))
      refine (bRight_any seq v l w4 (SO.on hv hb4') hok).mono ?_
      rintro e w5 ⟨rfl, hb5⟩
      have hb5' := bstep hb4' hb5
      go_wp2_with fail
      refine (rRightB_any seq v l w5 (SO.on hv hb5') hok).mono ?_
      rintro e w6 ⟨rfl, hb6⟩
      go_wp2
      go_ret
      exact ⟨ret_bool (by simp), bstep hb5' hb6⟩
  · have hl' : lightB l = false := by simpa using hl
    clear hl
    go_wp2
    go_ret
    exact ⟨rfl, hb2'⟩
end Go.Proofs.Ytkioalfmffamhaa
