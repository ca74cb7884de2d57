/-
  What is proved here: the call of the statement BatchEntries returns true and turns nothing that was there. Conditions: the list's length, the texts' lengths.
-/
import Derived.Test.YtkioalfmffamhaaShown12
namespace Go.Proofs.Ytkioalfmffamhaa
open Go.RowKit

theorem lightB_bytes {l : List Opn} (h : lightB l = true) : bytesOps l ≤ 200000 := lightF_bytes l 200000 h

set_option maxHeartbeats 1000000 in
theorem batchEntries_any (seq : UInt64) (v : Value) (l : List Opn) (w : World) (hv : SO w w.heap.size v l) (hok : ∀ o ∈ l, OpOk o) (hlen : l.length ≤ 4000000000000) :
    Calls Try.prog 4 #[.int .u64 (seq.toNat : Int), v] w fun e w' => e = .returned (.bool true) ∧ Below w.heap.size w w' := by
  go_enter Try.func4, Try.ntmps4
  go_wp2_with fail
  refine (shown_any w).mono ?_
  rintro e w1 ⟨rfl, hb1⟩
  go_wp2_with fail
  refine (light_any v l w1 (SO.on hv hb1) hok).mono ?_
  rintro e w2 ⟨rfl, hb2⟩
  have hb2' := bstep hb1 hb2
  by_cases hl : lightB l = true
  · have hby := lightB_bytes hl
    go_wp2_with fail
    refine (bEntries_any seq v l w2 (SO.on hv hb2') hlen).mono ?_
    rintro e w3 ⟨x3, rfl, hown3, hb3⟩
    have hb3' := bstep hb2' hb3
    go_wp2_with fail
    refine (rEntries_any seq v l w3 (SO.on hv hb3') hlen).mono ?_
    rintro e w4 ⟨x4, rfl, hown4, hb4⟩
    have hb4' := bstep hb3' hb4
    go_wp2_with fail
    refine (rSame_true x3 x4 _ w4 (SE.on hown3.se hb4) hown4.se).mono ?_
    rintro e w5 ⟨rfl, hb5⟩
    have hb5' := bstep hb4' hb5
    go_wp2_with fail
    refine (bSize_any v l w5 (SO.on hv hb5') hlen (by omega)).mono ?_
    rintro e w6 ⟨rfl, hb6⟩
    have hb6' := bstep hb5' hb6
    go_wp2_with fail
    refine (rSize_any v l w6 (SO.on hv hb6') hlen (by omega)).mono ?_
    rintro e w7 ⟨rfl, hb7⟩
    go_wp2
    go_ret
    exact ⟨ret_bool (by simp), bstep hb6' hb7⟩
  · have hl' : lightB l = false := by simpa using hl
    clear hl
    go_wp2
    go_ret
    exact ⟨rfl, hb2'⟩
end Go.Proofs.Ytkioalfmffamhaa
