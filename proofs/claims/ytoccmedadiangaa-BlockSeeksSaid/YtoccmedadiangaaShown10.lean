/-
  What is proved here: the examples at the head of layer 10's statements hold. No condition.
-/
import Derived.Test.YtoccmedadiangaaBlockW8
namespace Go.Proofs.Ytoccmedadiangaa
open Go.RowKit

def eA : Ent := ⟨⟨#[97]⟩, 2, 1, ⟨#[120]⟩⟩
def eB : Ent := ⟨⟨#[97, 98]⟩, 1, 1, ⟨#[121]⟩⟩
abbrev sA : List UInt8 := [2, 2, 0, 9, 1, 97, 1, 2, 0, 0, 0, 0, 0, 0, 120, 1, 9, 1, 98, 1, 1, 0, 0, 0, 0, 0, 0, 121, 2, 0, 0, 0, 1, 0, 0, 0]
theorem right_AB : rightL [eA, eB] = true := by
  unfold rightL
  simp only [risesE, aheadE, Lib.toList_data]
  decide +kernel
theorem build_AB : buildB 2 [eA, eB] = (sA, 0) := by
  unfold buildB
  rw [if_pos ⟨by decide, by decide, right_AB⟩]
  decide +kernel
theorem build_n1 : buildB 1 [] = ([1, 0, 0, 0, 0, 0], 0) := by decide +kernel
theorem build_n0 : buildB 0 [] = ([], 1) := by decide +kernel
theorem shown_slice (w : World) {B : Nat} (hB : w.heap.size < B) : SE (w.alloc (.cells #[.string ⟨#[97]⟩, .int .u64 2, .int .u8 1, .string ⟨#[120]⟩, .string ⟨#[97, 98]⟩, .int .u64 1, .int .u8 1, .string ⟨#[121]⟩] 40)) B (.slice (some ⟨w.heap.size, 0, none⟩) 2 2) [eA, eB] := by
  exact ⟨_, _, rfl, Nat.le_refl _, by simp [maxLen], Rd.newBlock w _ _ rfl hB rfl⟩
theorem shown_c1 (W : World) (v : Value) (hv : SE W W.heap.size v [eA, eB]) :
    Calls Try.prog 11 #[v, .int .i64 2] W fun e w' => ∃ r, e = .returned (.tuple #[r, .int .i64 0]) ∧ OB w' W.heap.size r sA ∧ Below W.heap.size W w' := by
  have h := kBuild_any v [eA, eB] 2 W hv (by simp) (by intro e he; simp only [List.mem_cons, List.not_mem_nil, or_false] at he; rcases he with rfl | rfl <;> exact ⟨by decide, by decide⟩) (by omega) (by omega)
  rw [build_AB] at h
  exact h
theorem shown_c2 (W : World) : Calls Try.prog 11 #[.slice none 0 0, .int .i64 1] W fun e w' => ∃ r, e = .returned (.tuple #[r, .int .i64 0]) ∧ OB w' W.heap.size r [1, 0, 0, 0, 0, 0] ∧ Below W.heap.size W w' := by
  have h := kBuild_any _ [] 1 W (Sl.nil_ _ _ _) (by simp) (fun e he => by cases he) (by omega) (by omega)
  rw [build_n1] at h
  exact h
theorem shown_c3 (W : World) : Calls Try.prog 11 #[.slice none 0 0, .int .i64 0] W fun e w' => ∃ r, e = .returned (.tuple #[r, .int .i64 1]) ∧ Below W.heap.size W w' := by
  have h := kBuild_any _ [] 0 W (Sl.nil_ _ _ _) (by simp) (fun e he => by cases he) (by omega) (by omega)
  rw [build_n0] at h
  exact h.mono fun e w' ⟨v, h1, _, h2⟩ => ⟨v, h1, h2⟩
set_option maxHeartbeats 1000000 in
theorem shown_any (w : World) : Calls Try.prog 9 #[] w fun e w' => e = .returned (.bool true) ∧ Below w.heap.size w w' := by
  have HS := Lib.hid (shown_slice w (B := (w.alloc (.cells #[.string ⟨#[97]⟩, .int .u64 2, .int .u8 1, .string ⟨#[120]⟩, .string ⟨#[97, 98]⟩, .int .u64 1, .int .u8 1, .string ⟨#[121]⟩] 40)).heap.size) (by simp))
  go_enter Try.func9, Try.ntmps9
  go_wp2_with fail
  refine (shown_c1 _ _ HS.out).mono ?_
  rintro e w1 ⟨r1, rfl, ho1, hb1⟩
  have b1 := bstep (balloc (bself w) _) hb1
  go_wp2_with fail
  refine (shown_c2 w1).mono ?_
  rintro e w2 ⟨r2, rfl, ho2, hb2⟩
  have b2 := bstep b1 hb2
  go_wp2_with fail
  refine (kRead_nil w2).mono ?_
  rintro e w3 ⟨rfl, hb3⟩
  have b3 := bstep b2 hb3
  go_wp2_with fail
  refine (shown_c3 w3).mono ?_
  rintro e w4 ⟨r4, rfl, hb4⟩
  have b4 := bstep b3 hb4
  have s1 := ((ho1.sb.on hb2).on hb3).on hb4
  have s2 := (ho2.sb.on hb3).on hb4
  clear ho1 ho2 HS
  go_wp2_with (first
    | (refine wl_b2s (o := ⟨some 31, _, _, _, _, _⟩) rfl (.tmp 30) rfl r1 rfl _ _ s1 ?_)
    | (refine wl_b2s (o := ⟨some 35, _, _, _, _, _⟩) rfl (.tmp 34) rfl r2 rfl _ _ s2 ?_))
  go_ret
  exact ⟨rfl, b4⟩
end Go.Proofs.Ytoccmedadiangaa
