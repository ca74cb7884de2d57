/-
  What is proved here: the examples at the head of layer 13's statements hold. No condition.
-/
import Derived.Test.YtlphbkhcdnbbnaaSkipW4
namespace Go.Proofs.Ytlphbkhcdnbbnaa
open Go.RowKit

theorem keep13 {w W' : World} {o : Obj} (h : Below (w.alloc o).heap.size (w.alloc o) W') : W'.heap[w.heap.size]? = some o := (h.block _ (by simp)).trans (heap_alloc_new w o)
set_option maxHeartbeats 2000000 in
theorem shown_any (w : World) : Calls Try.prog 8 #[] w fun e w' => e = .returned (.bool true) ∧ Below w.heap.size w w' := by
  have HP1 : Hid (∀ (L : Nat) (W : World), SL W w.heap.size L [] → Calls Try.prog 11 #[.pointer (some ⟨L, 0, none⟩), .agg #[.string ⟨#[97]⟩, .int .u64 1, .int .u8 1, .string ⟨#[120]⟩], .int .i64 1] W fun en w' => en = .returned (.int .i64 0) ∧ SL w' w.heap.size L [x1] ∧ Below w.heap.size W w') := Lib.hid (fun L W h => by
    have := sPut_any w.heap.size L [] x1 1 W h OkE.nil (by simp) ⟨by decide, by decide⟩ (by decide) (by decide)
    rw [px1] at this
    exact this.mono fun e w' h => ⟨h.1, h.2.1, h.2.2.2⟩)
  have HP2 : Hid (∀ (L : Nat) (W : World), SL W w.heap.size L [x1] → Calls Try.prog 11 #[.pointer (some ⟨L, 0, none⟩), .agg #[.string ⟨#[97]⟩, .int .u64 3, .int .u8 1, .string ⟨#[121]⟩], .int .i64 3] W fun en w' => en = .returned (.int .i64 0) ∧ SL w' w.heap.size L [x3, x1] ∧ Below w.heap.size W w') := Lib.hid (fun L W h => by
    have := sPut_any w.heap.size L [x1] x3 3 W h ok1 (by simp) ⟨by decide, by decide⟩ (by decide) (by decide)
    rw [px3] at this
    exact this.mono fun e w' h => ⟨h.1, h.2.1, h.2.2.2⟩)
  have HG2 : Hid (∀ (L : Nat) (W : World), SL W w.heap.size L [x3, x1] → Calls Try.prog 12 #[.pointer (some ⟨L, 0, none⟩), .string ⟨#[97]⟩, .int .u64 2] W fun en w' => en = .returned (.tuple #[.agg #[.string ⟨#[97]⟩, .int .u64 1, .int .u8 1, .string ⟨#[120]⟩], .bool true]) ∧ Below W.heap.size W w') := Lib.hid (fun L W h => by
    have := sGet_any w.heap.size L [x3, x1] q2 W h (by simp)
    rw [g2] at this
    exact this)
  have HG9 : Hid (∀ (L : Nat) (W : World), SL W w.heap.size L [x3, x1] → Calls Try.prog 12 #[.pointer (some ⟨L, 0, none⟩), .string ⟨#[97]⟩, .int .u64 9] W fun en w' => en = .returned (.tuple #[.agg #[.string ⟨#[97]⟩, .int .u64 3, .int .u8 1, .string ⟨#[121]⟩], .bool true]) ∧ Below W.heap.size W w') := Lib.hid (fun L W h => by
    have := sGet_any w.heap.size L [x3, x1] q9 W h (by simp)
    rw [g9] at this
    exact this)
  have HG0 : Hid (∀ (L : Nat) (W : World), SL W w.heap.size L [x3, x1] → Calls Try.prog 12 #[.pointer (some ⟨L, 0, none⟩), .string ⟨#[97]⟩, .int .u64 0] W fun en w' => en = .returned (.tuple #[.agg #[.string ⟨#[]⟩, .int .u64 0, .int .u8 0, .string ⟨#[]⟩], .bool false]) ∧ Below W.heap.size W w') := Lib.hid (fun L W h => by
    have := sGet_any w.heap.size L [x3, x1] q0 W h (by simp)
    rw [g0] at this
    exact this)
  have HF : Hid (∀ (L : Nat) (W : World), SL W w.heap.size L [x3, x1] → Calls Try.prog 20 #[.pointer (some ⟨L, 0, none⟩), .string ⟨#[97]⟩, .int .u64 2, .int .i64 5] W fun en w' => ∃ v, en = .returned v ∧ OE w' W.heap.size v [x1] ∧ Below W.heap.size W w') := Lib.hid (fun L W h => by
    have := sFrom_any w.heap.size L [x3, x1] q2 5 W h (by simp) (by decide) (by decide)
    rw [show (5 : Int).toNat = 5 from rfl, r2] at this
    exact this)
  go_enter Try.func8, Try.ntmps8
  go_wp2_with fail
  refine (sNew_any _).mono ?_
  rintro e w1 ⟨L, rfl, h1, hb1⟩
  go_wp2_with fail
  refine (HP1.out L _ h1).mono ?_
  rintro e w2 ⟨rfl, h2, hb2⟩
  have hb2' := hb1.trans hb2
  go_wp2_with fail
  refine (HP2.out L _ h2).mono ?_
  rintro e w3 ⟨rfl, h3, hb3⟩
  have hb3' := hb2'.trans hb3
  go_wp2_with fail
  refine (HG2.out L _ h3).mono ?_
  rintro e w4 ⟨rfl, hb4⟩
  have h4 := h3.on hb4 (Nat.le_refl _)
  have hb4' := hb3'.trans (hb4.mono hb3'.size)
  go_wp2_with fail
  have h5 := fun o => h4.on (balloc (bself w4) o) (Nat.le_refl _)
  refine (HG9.out L _ (h5 _)).mono ?_
  rintro e w5 ⟨rfl, hb5⟩
  have h6 := (h5 _).on hb5 (Nat.le_refl _)
  have r1 := keep13 hb5
  have z5 := hb5.size
  have hb5' := hb4'.trans ((balloc (bself w4) _).mono hb4'.size |>.trans (hb5.mono (by have := hb4'.size; simp; omega)))
  go_wp2_with fail
  have h7 := fun o => h6.on (balloc (bself w5) o) (Nat.le_refl _)
  refine (HG0.out L _ (h7 _)).mono ?_
  rintro e w6 ⟨rfl, hb6⟩
  have h8 := (h7 _).on hb6 (Nat.le_refl _)
  have r2 := keep13 hb6
  have z6 := hb6.size
  have hb6' := hb5'.trans ((balloc (bself w5) _).mono hb5'.size |>.trans (hb6.mono (by have := hb5'.size; simp; omega)))
  have r3 := ((balloc (bself w5) _).trans (hb6.mono (by simp))).block w4.heap.size (by simp at z5; omega)
  rw [r1] at r3
  have h9 := h8.on (balloc (bself w6) (.cells #[.string ⟨#[]⟩, .int .u64 0, .int .u8 0, .string ⟨#[]⟩] 25)) (Nat.le_refl _)
  simp only [World.size_alloc] at z5 z6
  obtain ⟨⟨a0, a1, a2, a3⟩, _, _, _, _⟩ := kcells4 ((Below.heap_alloc w6 (.cells #[.string ⟨#[]⟩, .int .u64 0, .int .u8 0, .string ⟨#[]⟩] 25) _ (by omega)).trans r3)
  obtain ⟨⟨b0, b1, b2, b3⟩, _, _, _, _⟩ := kcells4 ((Below.heap_alloc w6 (.cells #[.string ⟨#[]⟩, .int .u64 0, .int .u8 0, .string ⟨#[]⟩] 25) _ (by omega)).trans r2)
  go_wp2_with fail
  refine (HF.out L _ h9).mono ?_
  rintro e w7 ⟨v, rfl, ho, hb7⟩
  obtain ⟨A, c, rfl, _, _, _⟩ := ho.se
  have hb7' := hb6'.trans ((balloc (bself w6) _).mono hb6'.size |>.trans (hb7.mono (by have := hb6'.size; simp; omega)))
  go_wp2_with fail
  go_ret
  exact ⟨rfl, hb7'⟩
end Go.Proofs.Ytlphbkhcdnbbnaa
