/-
  What is proved here: the calls of the statements of layer 8 return true and turn nothing that was there. Conditions: the texts' lengths.
-/
import Derived.Test.YtfdmemfdhakcbaaShown08
namespace Go.Proofs.Ytfdmemfdhakcbaa
open Go.RowKit

set_option maxRecDepth 100000 in
set_option maxHeartbeats 4000000 in
theorem ikeyBetween_any (a b : ByteArray) (w : World) (ha : a.size ≤ 140737488351232) (hb : b.size ≤ 140737488351232) :
    Calls Try.prog 5 #[.string a, .string b] w fun e w' => e = .returned (.bool true) ∧ Below w.heap.size w w' := by
  go_enter Try.func5, Try.ntmps5
  go_wp2_with fail
  refine (shown_any w).mono ?_
  rintro e w1 ⟨rfl, hb1⟩
  go_wp2_with fail
  refine (iBetween_any a b _ ha hb).mono ?_
  rintro e w2 ⟨rfl, hb2⟩
  have hb2' := bstep hb1 hb2
  go_wp2_with fail
  refine (rBetween_any a b _ ha hb).mono ?_
  rintro e w3 ⟨rfl, hb3⟩
  have hb3' := bstep hb2' hb3
  go_wp2_with fail
  refine (iAfter_any a _ ha).mono ?_
  rintro e w4 ⟨rfl, hb4⟩
  have hb4' := bstep hb3' hb4
  go_wp2_with fail
  refine (rAfter_any a _ ha).mono ?_
  rintro e w5 ⟨rfl, hb5⟩
  have hb5' := bstep hb4' hb5
  go_wp2
  go_ret
  exact ⟨rfl, hb5'⟩
set_option maxHeartbeats 4000000 in
theorem ikeyRises_any (v : Value) (l : List Ent) (w : World) (hv : SE w w.heap.size v l) (hl : l.length ≤ 140737488351232) :
    Calls Try.prog 9 #[v] w fun e w' => e = .returned (.bool true) ∧ Below w.heap.size w w' := by
  go_enter Try.func9, Try.ntmps9
  go_wp2_with fail
  refine (shown_any w).mono ?_
  rintro e w1 ⟨rfl, hb1⟩
  go_wp2_with fail
  refine (iRises_any v l w1 (SE.on hv hb1) hl).mono ?_
  rintro e w2 ⟨rfl, hb2⟩
  have hb2' := bstep hb1 hb2
  go_wp2_with fail
  refine (rRises_any v l w2 (SE.on hv hb2') hl).mono ?_
  rintro e w3 ⟨rfl, hb3⟩
  have hb3' := bstep hb2' hb3
  go_wp2
  go_ret
  exact ⟨ret_bool (by simp), hb3'⟩
theorem takeV_form (s : List UInt8) : ∃ x0 x1 x2 x3 e, takeV s = .tuple #[.agg #[.string x0, .int .u64 x1, .int .u8 x2, .string x3], .int .i64 e] := by
  unfold takeV
  split
  · exact ⟨_, _, _, _, _, rfl⟩
  · exact ⟨_, _, _, _, _, rfl⟩
theorem iTake_any (s : ByteArray) (w : World) (hm : s.size ≤ 140737488355328) :
    Calls Try.prog 17 #[.string s] w fun en w' => en = .returned (takeV s.data.toList) ∧ Below w.heap.size w w' := by
  rcases Nat.lt_or_ge s.size 8 with h | h
  · exact iTake_short s w h
  · exact iTake_long s w h hm
theorem rTake_any (s : ByteArray) (w : World) (hm : s.size ≤ 140737488355328) :
    Calls Try.prog 18 #[.string s] w fun en w' => en = .returned (takeV s.data.toList) ∧ Below w.heap.size w w' := by
  rcases Nat.lt_or_ge s.size 8 with h | h
  · exact rTake_short s w h
  · exact rTake_long s w h hm
set_option maxHeartbeats 4000000 in
theorem ikeyTakes_any (s : ByteArray) (w : World) (hm : s.size ≤ 140737488351232) :
    Calls Try.prog 4 #[.string s] w fun e w' => e = .returned (.bool true) ∧ Below w.heap.size w w' := by
  obtain ⟨x0, x1, x2, x3, n, htv⟩ := takeV_form s.data.toList
  have h1 := iTake_any s w (by omega)
  have h2 := fun W => rTake_any s W (by omega)
  rw [htv] at h1 h2
  have H1 := Lib.hid h1
  have H2 := Lib.hid h2
  clear h1 h2 htv
  go_enter Try.func4, Try.ntmps4
  go_wp2_with fail
  refine H1.out.mono ?_
  rintro e w1 ⟨rfl, hb1⟩
  go_wp2_with fail
  refine (H2.out _).mono ?_
  rintro e w2 ⟨rfl, hb2⟩
  have hb2' := bstep (balloc hb1 _) hb2
  have r1 := keep_new hb2
  have hz2 : w1.heap.size < w2.heap.size := by have := hb2.size; simp at this; omega
  go_wp2_with fail
  refine (shown_any _).mono ?_
  rintro e w3 ⟨rfl, hb3⟩
  have hb3' := bstep (balloc hb2' _) hb3
  have r2 := keep_new hb3
  have r1' := (bstep (balloc (bself w2) _) hb3).block w1.heap.size hz2 |>.trans r1
  obtain ⟨⟨z0, z1, z2, z3⟩, _⟩ := cells4 r1'
  obtain ⟨⟨y0, y1, y2, y3⟩, _⟩ := cells4 r2
  go_wp2
  go_ret
  exact ⟨ret_bool (by simp), hb3'⟩
end Go.Proofs.Ytfdmemfdhakcbaa
