/-
  What is proved here: the examples at the head of layer 8's statements hold. No condition.
-/
import Derived.Test.YtfdmemfdhakcbaaIkeyW6
namespace Go.Proofs.Ytfdmemfdhakcbaa
open Go.RowKit

theorem keep_new {w W' : World} {o : Obj} (h : Below (w.alloc o).heap.size (w.alloc o) W') : W'.heap[w.heap.size]? = some o := (h.block _ (by simp)).trans (heap_alloc_new w o)
def e5 : Ent := ⟨⟨#[97]⟩, 5, 0, ⟨#[]⟩⟩
def e4 : Ent := ⟨⟨#[97]⟩, 4, 0, ⟨#[]⟩⟩
def eb : Ent := ⟨⟨#[98]⟩, 0, 0, ⟨#[]⟩⟩
def e1 : Ent := ⟨⟨#[97]⟩, 1, 1, ⟨#[]⟩⟩
theorem cmp54 : cmpE e5 e4 = -1 := by unfold cmpE; simp only [Lib.toList_data]; decide +kernel
theorem cmpb5 : cmpE eb e5 = 1 := by unfold cmpE; simp only [Lib.toList_data]; decide +kernel
theorem bet1 : between [97, 98, 99, 100] [97, 98, 120] = [97, 98, 100] := by decide +kernel
theorem bet2 : between [97, 98, 99] [97, 98, 100] = [97, 98, 99] := by decide +kernel
theorem aft1 : after [97, 98, 99] = [98] := by decide +kernel
theorem lay1 : layE e1 = [97, 1, 1, 0, 0, 0, 0, 0, 0] := by decide +kernel
theorem tak1 : takeV [49, 50, 51, 52, 53, 54, 55] = .tuple #[.agg #[.string ⟨#[]⟩, .int .u64 0, .int .u8 0, .string ⟨#[]⟩], .int .i64 80] := by
  unfold takeV
  rw [show isKey [49, 50, 51, 52, 53, 54, 55] = false from by decide +kernel]
  rfl
theorem shown_c1 (W : World) : Calls Try.prog 11 #[.agg #[.string ⟨#[97]⟩, .int .u64 5, .int .u8 0, .string ⟨#[]⟩], .agg #[.string ⟨#[97]⟩, .int .u64 4, .int .u8 0, .string ⟨#[]⟩]] W fun e w' => e = .returned (.int .i64 (-1)) ∧ Below W.heap.size W w' := by
  have h := iCompare_any e5 e4 W
  rw [cmp54] at h
  exact h
theorem shown_c2 (W : World) : Calls Try.prog 11 #[.agg #[.string ⟨#[98]⟩, .int .u64 0, .int .u8 0, .string ⟨#[]⟩], .agg #[.string ⟨#[97]⟩, .int .u64 5, .int .u8 0, .string ⟨#[]⟩]] W fun e w' => e = .returned (.int .i64 1) ∧ Below W.heap.size W w' := by
  have h := iCompare_any eb e5 W
  rw [cmpb5] at h
  exact h
theorem shown_b1 (W : World) : Calls Try.prog 19 #[.string ⟨#[97, 98, 99, 100]⟩, .string ⟨#[97, 98, 120]⟩] W fun e w' => e = .returned (.string ⟨#[97, 98, 100]⟩) ∧ Below W.heap.size W w' := by
  have h := iBetween_any ⟨#[97, 98, 99, 100]⟩ ⟨#[97, 98, 120]⟩ W (by decide) (by decide)
  rw [show (⟨#[97, 98, 99, 100]⟩ : ByteArray).data.toList = [97, 98, 99, 100] from rfl, show (⟨#[97, 98, 120]⟩ : ByteArray).data.toList = [97, 98, 120] from rfl, bet1] at h
  exact h
theorem shown_b2 (W : World) : Calls Try.prog 19 #[.string ⟨#[97, 98, 99]⟩, .string ⟨#[97, 98, 100]⟩] W fun e w' => e = .returned (.string ⟨#[97, 98, 99]⟩) ∧ Below W.heap.size W w' := by
  have h := iBetween_any ⟨#[97, 98, 99]⟩ ⟨#[97, 98, 100]⟩ W (by decide) (by decide)
  rw [show (⟨#[97, 98, 99]⟩ : ByteArray).data.toList = [97, 98, 99] from rfl, show (⟨#[97, 98, 100]⟩ : ByteArray).data.toList = [97, 98, 100] from rfl, bet2] at h
  exact h
theorem shown_a1 (W : World) : Calls Try.prog 21 #[.string ⟨#[97, 98, 99]⟩] W fun e w' => e = .returned (.string ⟨#[98]⟩) ∧ Below W.heap.size W w' := by
  have h := iAfter_any ⟨#[97, 98, 99]⟩ W (by decide)
  rw [show (⟨#[97, 98, 99]⟩ : ByteArray).data.toList = [97, 98, 99] from rfl, aft1] at h
  exact h
theorem shown_l1 (W : World) : Calls Try.prog 15 #[.agg #[.string ⟨#[97]⟩, .int .u64 1, .int .u8 1, .string ⟨#[]⟩]] W fun e w' => e = .returned (.string ⟨#[97, 1, 1, 0, 0, 0, 0, 0, 0]⟩) ∧ Below W.heap.size W w' := by
  have h := iLay_any e1 W (by decide)
  rw [lay1] at h
  exact h
theorem shown_t1 (W : World) : Calls Try.prog 17 #[.string ⟨#[49, 50, 51, 52, 53, 54, 55]⟩] W fun e w' => e = .returned (.tuple #[.agg #[.string ⟨#[]⟩, .int .u64 0, .int .u8 0, .string ⟨#[]⟩], .int .i64 80]) ∧ Below W.heap.size W w' := by
  have h := iTake_short ⟨#[49, 50, 51, 52, 53, 54, 55]⟩ W (by decide)
  rw [show (⟨#[49, 50, 51, 52, 53, 54, 55]⟩ : ByteArray).data.toList = [49, 50, 51, 52, 53, 54, 55] from rfl, tak1] at h
  exact h

set_option maxHeartbeats 4000000 in
theorem shown_any (w : World) : Calls Try.prog 10 #[] w fun e w' => e = .returned (.bool true) ∧ Below w.heap.size w w' := by
  go_enter Try.func10, Try.ntmps10
  go_wp2_with fail
  refine (shown_t1 _).mono ?_
  rintro e w1 ⟨rfl, hb1⟩
  have hb1' := bstep (balloc (balloc (bself w) _) _) hb1
  have r1 := keep_new (bstep (balloc (bself (w.alloc _)) _) hb1)
  have r2 := keep_new hb1
  rw [show (w.alloc _).heap.size = w.heap.size + 1 from by simp] at r2
  have hz1 : w.heap.size + 1 < w1.heap.size := by have := hb1.size; simp at this; omega
  have hz1' : w.heap.size < w1.heap.size := by omega
  obtain ⟨⟨x0, x1, x2, x3⟩, _⟩ := cells4 r1
  obtain ⟨⟨y0, y1, y2, y3⟩, _⟩ := cells4 r2
  go_wp2_with fail
  refine (shown_c1 _).mono ?_
  rintro e w2 ⟨rfl, hb2⟩
  have hb2' := bstep (balloc hb1' _) hb2
  have hz2 : w.heap.size < w2.heap.size := by have := hb2.size; simp at this; omega
  have r3 := (bstep (balloc (bself w1) _) hb2).block w.heap.size hz1' |>.trans r1
  obtain ⟨⟨z0, z1, z2, z3⟩, _⟩ := cells4 r3
  clear x0 x1 x2 x3 y0 y1 y2 y3
  go_wp2_with fail
  refine (shown_c2 _).mono ?_
  rintro e w3 ⟨rfl, hb3⟩
  have hb3' := bstep hb2' hb3
  go_wp2_with fail
  refine (shown_b1 _).mono ?_
  rintro e w4 ⟨rfl, hb4⟩
  have hb4' := bstep hb3' hb4
  go_wp2_with fail
  refine (shown_b2 _).mono ?_
  rintro e w5 ⟨rfl, hb5⟩
  have hb5' := bstep hb4' hb5
  go_wp2_with fail
  refine (shown_a1 _).mono ?_
  rintro e w6 ⟨rfl, hb6⟩
  have hb6' := bstep hb5' hb6
  go_wp2_with fail
  refine (shown_l1 _).mono ?_
  rintro e w7 ⟨rfl, hb7⟩
  have hb7' := bstep hb6' hb7
  go_wp2_with fail
  go_ret
  exact ⟨rfl, hb7'⟩
end Go.Proofs.Ytfdmemfdhakcbaa
