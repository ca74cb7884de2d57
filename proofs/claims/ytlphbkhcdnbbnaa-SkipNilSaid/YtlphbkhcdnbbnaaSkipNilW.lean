/-
  What is proved here: the walk of SkipNil: it returns true. No condition.
-/
import Derived.Test.YtlphbkhcdnbbnaaShown13
namespace Go.Proofs.Ytlphbkhcdnbbnaa
open Go.RowKit

set_option maxRecDepth 100000 in
set_option maxHeartbeats 1000000 in
theorem kPut_nil (e : Ent) (n : Int) (w : World) : Calls Try.prog 11 #[.pointer none, entV e, .int .i64 n] w fun en w' => en = .returned (.int .i64 2) ∧ Below w.heap.size w w' := by
  go_enter Try.func11, Try.ntmps11
  go_wp2_with fail
  go_ret
  exact ⟨rfl, balloc (bself w) _⟩
set_option maxHeartbeats 2000000 in
theorem skipNil_any (e : Ent) (n : Int) (w : World) : Calls Try.prog 6 #[entV e, .int .i64 n] w fun en w' => en = .returned (.bool true) ∧ Below w.heap.size w w' := by
  go_enter Try.func6, Try.ntmps6
  have b1 : Below w.heap.size w (w.alloc (entObj e)) := balloc (bself w) _
  obtain ⟨⟨a0, a1, a2, a3⟩, _, _, _, _⟩ := kcells4 (heap_alloc_new w (entObj e))
  go_wp2_with fail
  refine (kGet_nil e _).mono ?_
  rintro en w2 ⟨rfl, hb2⟩
  have b2 := bstep b1 hb2
  have r2 := keep13 hb2
  have z2 := hb2.size
  simp only [World.size_alloc] at z2
  go_wp2_with fail
  have b2' := balloc b2 (.cells #[.string ⟨#[]⟩, .int .u64 0, .int .u8 0, .string ⟨#[]⟩] 25)
  refine (shown_any _).mono ?_
  rintro en w3 ⟨rfl, hb3⟩
  have b3 := bstep b2' hb3
  have s3 := keep13 hb3
  have z3 := hb3.size
  simp only [World.size_alloc] at z3
  have r3 := (hb3.block w.heap.size (by simp; omega)).trans ((Below.heap_alloc w2 (.cells #[.string ⟨#[]⟩, .int .u64 0, .int .u8 0, .string ⟨#[]⟩] 25) _ (by omega)).trans r2)
  clear a0 a1 a2 a3
  obtain ⟨⟨a0, a1, a2, a3⟩, _, _, _, _⟩ := kcells4 r3
  go_wp2_with fail
  refine (kPut_nil e n _).mono ?_
  rintro en w4 ⟨rfl, hb4⟩
  have b4 := bstep b3 hb4
  have z4 := hb4.size
  have r4 := (hb4.block w.heap.size (by omega)).trans r3
  have s4 := (hb4.block w2.heap.size (by omega)).trans s3
  clear a0 a1 a2 a3
  obtain ⟨⟨a0, a1, a2, a3⟩, _, _, _, _⟩ := kcells4 r4
  obtain ⟨⟨c0, c1, c2, c3⟩, _, _, _, _⟩ := kcells4 s4
  go_wp2_with fail
  refine (kFrom_nil e n _).mono ?_
  rintro en w5 ⟨rfl, hb5⟩
  have b5 := bstep b4 hb5
  clear a0 a1 a2 a3 c0 c1 c2 c3
  go_wp2_with fail
  refine (kAll_nil _).mono ?_
  rintro en w6 ⟨rfl, hb6⟩
  have b6 := bstep b5 hb6
  go_wp2_with fail
  refine (kLen_nil _).mono ?_
  rintro en w7 ⟨rfl, hb7⟩
  have b7 := bstep b6 hb7
  go_wp2_with fail
  refine (kSize_nil _).mono ?_
  rintro en w8 ⟨rfl, hb8⟩
  have b8 := bstep b7 hb8
  go_wp2_with fail
  go_ret
  exact ⟨rfl, b8⟩
end Go.Proofs.Ytlphbkhcdnbbnaa
