/-
  What is proved here: what shown of tantaluslaw07 comes to, at this seat's numbers. No condition.
-/
import Derived.Test.YtjkcdnangmjoeaaNameW12
import Derived.Laws.OwnMore
namespace Go.Proofs.Ytjkcdnangmjoeaa
open Go.RowKit

theorem parse_x1 : parseV (⟨#[48, 48, 48, 49, 50, 46, 108, 111, 103]⟩ : ByteArray).data.toList = .tuple #[.int .u8 0, .int .u64 0, .bool false] := by kernel_rfl
theorem parse_x2 : parseV (⟨#[48, 48, 48, 48, 48, 49, 50, 46, 108, 111, 103]⟩ : ByteArray).data.toList = .tuple #[.int .u8 0, .int .u64 0, .bool false] := by kernel_rfl
theorem parse_x3 : parseV (⟨#[99, 117, 114, 114, 101, 110, 116]⟩ : ByteArray).data.toList = .tuple #[.int .u8 4, .int .u64 0, .bool true] := by kernel_rfl
theorem take_x1 : takeV (List.replicate 29 0) = .tuple #[.agg #[.int .u8 0, .int .u8 0, .int .u64 0, .int .u64 0, .int .u64 0], .int .i64 10] := by kernel_rfl
theorem take_x2 : takeV (List.replicate 30 0) = .tuple #[.agg #[.int .u8 0, .int .u8 0, .int .u64 0, .int .u64 0, .int .u64 0], .int .i64 70] := by kernel_rfl
theorem name_x1 : (⟨(nmOf 1 12).toArray⟩ : ByteArray) = ⟨#[48, 48, 48, 48, 49, 50, 46, 108, 111, 103]⟩ := by kernel_rfl
theorem name_x2 : (⟨(nmOf 3 1234567).toArray⟩ : ByteArray) = ⟨#[109, 97, 110, 105, 102, 101, 115, 116, 45, 49, 50, 51, 52, 53, 54, 55]⟩ := by kernel_rfl
theorem mk_zero (w : World) (n : Nat) (hn : n ≤ 1000) : ∃ w', (Instr.makeSlice 37 (.int .i64 (n : Int)) (.int .i64 (n : Int))).run Try.prog w = .ok (.slice (some ⟨w.heap.size, 0, none⟩) n n) w' ∧ SB w' w'.heap.size (.slice (some ⟨w.heap.size, 0, none⟩) n n) (List.replicate n 0) ∧ Below w.heap.size w w' := by
  obtain ⟨i0, hi0, hz0, hz1, hz2⟩ := info_parts infoB
  obtain ⟨w', h1, h2, h3⟩ := run_make_full (P := Try.prog) w w.heap.size 37 5 i0 _ 1 Try.underlying37 hi0 hz0 hz1 .i64 .i64 n (by rw [hz2]; omega) (by simp only [maxLen]; omega) (Nat.le_refl _)
  refine ⟨w', h1, ?_, below_grown (bself w) h3 (Nat.le_refl _) (fun g e => by cases e)⟩
  have h4 : OB w' w.heap.size (.slice (some ⟨w.heap.size, 0, none⟩) n n) (List.replicate n 0) := by
    unfold OB
    rw [show (Value.int .u8 0).cells = #[.int .u8 0] from rfl, toList_madeCells_one, Nat.mul_one] at h2
    rw [List.length_replicate, show bv (List.replicate n 0) = List.replicate n (Value.int .u8 0) from by simp [bv, u8v]]
    exact h2
  exact h4.sb
theorem mk_29 (w : World) : ∃ w', (Instr.makeSlice 37 (.int .i64 29) (.int .i64 29)).run Try.prog w = .ok (.slice (some ⟨w.heap.size, 0, none⟩) 29 29) w' ∧ SB w' w'.heap.size (.slice (some ⟨w.heap.size, 0, none⟩) 29 29) (List.replicate 29 0) ∧ Below w.heap.size w w' := mk_zero w 29 (by omega)
theorem mk_30 (w : World) : ∃ w', (Instr.makeSlice 37 (.int .i64 30) (.int .i64 30)).run Try.prog w = .ok (.slice (some ⟨w.heap.size, 0, none⟩) 30 30) w' ∧ SB w' w'.heap.size (.slice (some ⟨w.heap.size, 0, none⟩) 30 30) (List.replicate 30 0) ∧ Below w.heap.size w w' := mk_zero w 30 (by omega)
set_option maxHeartbeats 1000000 in
theorem name_c1 (W : World) : Calls Try.prog 10 #[.int .u8 1, .int .u64 12] W fun e w' => e = .returned (.string ⟨#[48, 48, 48, 48, 49, 50, 46, 108, 111, 103]⟩) ∧ Below W.heap.size W w' := by
  have := kName_any 1 12 W (by omega) (by omega); rw [name_x1] at this; exact this
theorem name_c2 (W : World) : Calls Try.prog 10 #[.int .u8 3, .int .u64 1234567] W fun e w' => e = .returned (.string ⟨#[109, 97, 110, 105, 102, 101, 115, 116, 45, 49, 50, 51, 52, 53, 54, 55]⟩) ∧ Below W.heap.size W w' := by
  have := kName_any 3 1234567 W (by omega) (by omega); rw [name_x2] at this; exact this
set_option maxHeartbeats 1000000 in
theorem shown_any (w : World) : Calls Try.prog 9 #[] w fun e w' => e = .returned (.bool true) ∧ Below w.heap.size w w' := by
  have HP1 : Hid (∀ W, Calls Try.prog 12 #[.string ⟨#[48, 48, 48, 49, 50, 46, 108, 111, 103]⟩] W fun e w' => e = .returned (.tuple #[.int .u8 0, .int .u64 0, .bool false]) ∧ Below W.heap.size W w') := Lib.hid (fun W => by have := kParse_any ⟨#[48, 48, 48, 49, 50, 46, 108, 111, 103]⟩ W (by decide); rw [parse_x1] at this; exact this)
  have HP2 : Hid (∀ W, Calls Try.prog 12 #[.string ⟨#[48, 48, 48, 48, 48, 49, 50, 46, 108, 111, 103]⟩] W fun e w' => e = .returned (.tuple #[.int .u8 0, .int .u64 0, .bool false]) ∧ Below W.heap.size W w') := Lib.hid (fun W => by have := kParse_any ⟨#[48, 48, 48, 48, 48, 49, 50, 46, 108, 111, 103]⟩ W (by decide); rw [parse_x2] at this; exact this)
  have HP3 : Hid (∀ W, Calls Try.prog 12 #[.string ⟨#[99, 117, 114, 114, 101, 110, 116]⟩] W fun e w' => e = .returned (.tuple #[.int .u8 4, .int .u64 0, .bool true]) ∧ Below W.heap.size W w') := Lib.hid (fun W => by have := kParse_any ⟨#[99, 117, 114, 114, 101, 110, 116]⟩ W (by decide); rw [parse_x3] at this; exact this)
  go_enter Try.func9, Try.ntmps9
  go_upto_region 2 with (go_at_call 12; refine (HP1.out _).mono ?_; rintro _ w1 ⟨rfl, hb1⟩)
  go_upto_region 3 with (go_at_call 12; refine (HP2.out _).mono ?_; rintro _ w2 ⟨rfl, hb2⟩)
  go_upto_region 4 with (go_at_call 12; refine (HP3.out _).mono ?_; rintro _ w3 ⟨rfl, hb3⟩)
  have b3 := bstep (bstep hb1 hb2) hb3
  clear hb1 hb2 hb3
  obtain ⟨w4, hm4, hs4, hb4⟩ := mk_29 w3
  have HK4 := kTake_any _ _ w4 hs4 (by decide)
  rw [take_x1] at HK4
  have HK4 := Lib.hid HK4
  have b4 := bstep b3 hb4
  go_upto_region 5 with (go_at_call 15; refine HK4.out.mono ?_; rintro _ w5 ⟨rfl, hb5⟩)
  have b5 := bstep b4 hb5
  clear hm4 HK4 hs4 hb4 hb5 b3 b4
  have b5 := balloc b5 (.cells #[.int .u8 0, .int .u8 0, .int .u64 0, .int .u64 0, .int .u64 0] 36)
  generalize World.alloc w5 _ = w5' at b5 ⊢
  obtain ⟨w6, hm6, hs6, hb6⟩ := mk_30 w5'
  have HK6 := kTake_any _ _ w6 hs6 (by decide)
  rw [take_x2] at HK6
  have HK6 := Lib.hid HK6
  have b6 := bstep b5 hb6
  go_upto_region 6 with (go_at_call 15; refine HK6.out.mono ?_; rintro _ w7 ⟨rfl, hb7⟩)
  have b7 := bstep b6 hb7
  have b7 := balloc b7 (.cells #[.int .u8 0, .int .u8 0, .int .u64 0, .int .u64 0, .int .u64 0] 36)
  generalize World.alloc w7 _ = w7' at b7 ⊢
  clear hm6 HK6 hs6 hb6 hb7 b5 b6
  have HN1 := Lib.hid name_c1
  have HN2 := Lib.hid name_c2
  go_wp2_with fail
  refine (HN1.out _).mono ?_
  rintro _ w8 ⟨rfl, hb8⟩
  go_wp2_with fail
  refine (HN2.out _).mono ?_
  rintro _ w9 ⟨rfl, hb9⟩
  go_wp2_with fail
  go_ret
  exact ⟨rfl, bstep (bstep b7 hb8) hb9⟩
end Go.Proofs.Ytjkcdnangmjoeaa
