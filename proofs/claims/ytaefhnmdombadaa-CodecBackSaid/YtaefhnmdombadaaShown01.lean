/-
  What is proved here: the examples at the head of layer 1's statements hold; the statement about a nil reader.
-/
import Derived.Test.YtaefhnmdombadaaReaderW
namespace Go.Proofs.Ytaefhnmdombadaa
open Go.RowKit

theorem bytes_shown : (num 300 ++ num 2 ++ [97, 98] ++ fix 258 (fixN 3) : List UInt8) = [172, 2, 2, 97, 98, 2, 1, 0] := by decide +kernel
theorem s1 : sNum (([172, 2, 2, 97, 98, 2, 1, 0], 0) : Rs) = (300, [2, 97, 98, 2, 1, 0], 0) := by decide +kernel
theorem s2 : sStr 2 (([2, 97, 98, 2, 1, 0], 0) : Rs) = ([97, 98], [2, 1, 0], 0) := by decide +kernel
theorem s3 : sFix 3 (([2, 1, 0], 0) : Rs) = (258, [], 0) := by decide +kernel
theorem s4 : sEnd (([], 0) : Rs) = 0 := by decide +kernel
theorem s5 : sNum (([128, 0], 0) : Rs) = (0, [128, 0], 11) := by decide +kernel

theorem shown_c1 (W : World) : Calls Try.prog 10 #[.slice none 0 0, .int .u64 300] W fun e w' => ∃ r, e = .returned r ∧ OB w' W.heap.size r (num 300) ∧ Below W.heap.size W w' := cNum_any _ [] 300 W (SB.nil_ _ _) (by simp) (by omega)
theorem shown_c2 (W : World) (v : Value) (hv : SB W W.heap.size v (num 300)) : Calls Try.prog 11 #[v, .string ⟨#[97, 98]⟩] W fun e w' => ∃ r, e = .returned r ∧ OB w' W.heap.size r (num 300 ++ num 2 ++ [97, 98]) ∧ Below W.heap.size W w' := cStr_any v (num 300) ⟨#[97, 98]⟩ W hv (by decide +kernel)
theorem shown_c3 (W : World) (v : Value) (hv : SB W W.heap.size v (num 300 ++ num 2 ++ [97, 98])) : Calls Try.prog 12 #[v, .int .u64 258, .int .i64 3] W fun e w' => ∃ r, e = .returned r ∧ OB w' W.heap.size r [172, 2, 2, 97, 98, 2, 1, 0] ∧ Below W.heap.size W w' := by
  rw [← bytes_shown]
  exact cFix_any v _ 258 3 W hv (by decide +kernel) (by omega) (by omega) (by omega)
theorem shown_m1 (R : Nat) (W : World) (h : RdrAt W R [172, 2, 2, 97, 98, 2, 1, 0] 0) : Calls Try.prog 17 #[.pointer (some ⟨R, 0, none⟩)] W fun e w' => e = .returned (.int .u64 300) ∧ RdrAt w' R [2, 97, 98, 2, 1, 0] 0 ∧ W.grownBy w' (some R) := by
  have := mNum_any R _ 0 W h; rw [s1] at this; exact this
theorem shown_m2 (R : Nat) (W : World) (h : RdrAt W R [2, 97, 98, 2, 1, 0] 0) : Calls Try.prog 19 #[.pointer (some ⟨R, 0, none⟩), .int .i64 2] W fun e w' => e = .returned (.string ⟨#[97, 98]⟩) ∧ RdrAt w' R [2, 1, 0] 0 ∧ W.grownBy w' (some R) := by
  have := mStr_any R _ 0 2 W h (by omega); rw [s2] at this; exact this
theorem shown_m3 (R : Nat) (W : World) (h : RdrAt W R [2, 1, 0] 0) : Calls Try.prog 21 #[.pointer (some ⟨R, 0, none⟩), .int .i64 3] W fun e w' => e = .returned (.int .u64 258) ∧ RdrAt w' R [] 0 ∧ W.grownBy w' (some R) := by
  have := mFix_any R _ 0 3 W h (by omega) (by omega); rw [s3] at this; exact this
theorem shown_m4 (R : Nat) (W : World) (h : RdrAt W R [] 0) : Calls Try.prog 25 #[.pointer (some ⟨R, 0, none⟩)] W fun e w' => e = .returned (.int .i64 0) ∧ w' = W := by
  have := mEnd_any R _ 0 W h; rw [s4] at this; exact this
theorem shown_m5 (R : Nat) (W : World) (h : RdrAt W R [128, 0] 0) : Calls Try.prog 17 #[.pointer (some ⟨R, 0, none⟩)] W fun e w' => e = .returned (.int .u64 0) ∧ RdrAt w' R [128, 0] 11 ∧ W.grownBy w' (some R) := by
  have := mNum_any R _ 0 W h; rw [s5] at this; exact this
theorem sb_two (W : World) : SB (W.alloc (.cells #[.int .u8 128, .int .u8 0] 5)) (W.heap.size + 1) (.slice (some ⟨W.heap.size, 0, none⟩) 2 2) [128, 0] :=
  ⟨_, _, rfl, Nat.le_refl _, by simp [maxLen], Rd.newBlock W _ _ rfl (Nat.lt_succ_self _) rfl⟩

set_option maxHeartbeats 1000000 in
theorem shown_any (w : World) : Calls Try.prog 9 #[] w fun e w' => e = .returned (.bool true) ∧ Below w.heap.size w w' := by
  go_enter Try.func9, Try.ntmps9
  go_wp2_with fail
  refine (shown_c1 w).mono ?_
  rintro e w1 ⟨r1, rfl, hown1, hb1⟩
  go_wp2_with fail
  refine (shown_c2 w1 r1 hown1.sb).mono ?_
  rintro e w2 ⟨r2, rfl, hown2, hb2⟩
  have hb2' := bstep hb1 hb2
  go_wp2_with fail
  refine (shown_c3 w2 r2 hown2.sb).mono ?_
  rintro e w3 ⟨r3, rfl, hown3, hb3⟩
  have hb3' := bstep hb2' hb3
  go_wp2_with fail
  refine (cNew_any r3 _ w3 hown3.sb (by simp)).mono ?_
  rintro e w4 ⟨R1, rfl, hR1, hrd1, hb4⟩
  have hb4' := bstep hb3' hb4
  have hs4 := hown3.sb.on hb4
  have hR1lt := hrd1.at_.lt
  go_wp2_with fail
  refine (cNew_any _ _ _ ((sb_two w4).more (by simp)) (by simp)).mono ?_
  rintro e w5 ⟨R2, rfl, hR2, hrd2, hb5⟩
  have hb5' := bstep (balloc hb4' _) hb5
  have hrd15 := (hrd1.at_.on (balloc (bself w4) (.cells #[.int .u8 128, .int .u8 0] 5)) (Nat.le_refl _)).on hb5 (Nat.le_refl _)
  have hs5 := (hs4.on (balloc (bself w4) (.cells #[.int .u8 128, .int .u8 0] 5))).on hb5
  go_wp2_with fail
  refine (shown_m1 R1 w5 hrd15).mono ?_
  rintro e w6 ⟨rfl, hrd6, hg6⟩
  go_wp2_with fail
  refine (shown_m2 R1 w6 hrd6).mono ?_
  rintro e w7 ⟨rfl, hrd7, hg7⟩
  go_wp2_with fail
  refine (shown_m3 R1 w7 hrd7).mono ?_
  rintro e w8 ⟨rfl, hrd8, hg8⟩
  have hg := (hg6.trans hg7).trans hg8
  have hrd28 := (hrd2.far hg (by simp; omega)).at_
  have hbg : Below w3.heap.size w5 w8 := gbelow hg (by have := hb5.size; simp at this; omega) hR1
  have hb8 := hb5'.trans (hbg.mono hb3'.size)
  have hs8 : SB w8 w3.heap.size r3 [172, 2, 2, 97, 98, 2, 1, 0] := (((hown3.sb.below hb4).alloc (by omega) _).below (hb5.mono (by simp; omega))).below hbg
  go_wp2_with (first
    | (refine wl_b2s (o := ⟨some 27, _, _, _, _, _⟩) rfl (.tmp 26) rfl r3 rfl _ _ hs8 ?_)
    | (go_at_call 25; refine (shown_m4 R1 _ hrd8).mono ?_; rintro e w9 ⟨rfl, rfl⟩)
    | (go_at_call 17; refine (shown_m5 R2 _ hrd28).mono ?_; rintro e w10 ⟨rfl, hrd10, hg10⟩)
    | (go_at_call 24; refine (mFault_any R2 _ _ _ hrd10).mono ?_; rintro e w11 ⟨rfl, rfl⟩))
  go_ret
  have hw := hb4'.size
  have h2 := hg.size
  simp at hR2
  exact ⟨rfl, hb8.trans (gbelow hg10 (Nat.le_of_lt hrd28.lt) (by omega))⟩

theorem codecNil_any (most : Int) (w : World) : Calls Try.prog 8 #[.int .i64 most] w fun e w' => e = .returned (.bool true) ∧ Below w.heap.size w w' := by
  go_enter Try.func8, Try.ntmps8
  go_wp2_with (first
    | (go_at_call 9; refine (shown_any w).mono ?_; rintro e w1 ⟨rfl, hb1⟩)
    | (go_at_call 17; refine (mNum_nil _).mono ?_; rintro e w2 ⟨rfl, rfl⟩)
    | (go_at_call 19; refine (mStr_nil _ _).mono ?_; rintro e w2 ⟨rfl, rfl⟩)
    | (go_at_call 21; refine (mFix_nil _ _).mono ?_; rintro e w2 ⟨rfl, rfl⟩)
    | (go_at_call 23; refine (mLeft_nil _).mono ?_; rintro e w2 ⟨rfl, rfl⟩)
    | (go_at_call 24; refine (mFault_nil _).mono ?_; rintro e w2 ⟨rfl, rfl⟩)
    | (go_at_call 25; refine (mEnd_nil _).mono ?_; rintro e w2 ⟨rfl, rfl⟩))
  go_ret
  exact ⟨rfl, by assumption⟩
end Go.Proofs.Ytaefhnmdombadaa
