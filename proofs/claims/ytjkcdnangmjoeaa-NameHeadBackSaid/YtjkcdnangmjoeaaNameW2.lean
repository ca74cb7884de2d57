/-
  What is proved here: what the program's and the reference's names come to, at this seat's numbers. No condition.
-/
import Derived.Test.YtjkcdnangmjoeaaNameW
namespace Go.Proofs.Ytjkcdnangmjoeaa
open Go.RowKit

theorem nm_1 {k : Nat} (n : Nat) (h : k = 1) : nmOf k n = dgt n 6 ++ sLog := by subst h; rfl
theorem nm_2 {k : Nat} (n : Nat) (h : k = 2) : nmOf k n = dgt n 6 ++ sTab := by subst h; rfl
theorem nm_3 {k : Nat} (n : Nat) (h : k = 3) : nmOf k n = sMan ++ dgt n 6 := by subst h; rfl
theorem nm_4 {k : Nat} (n : Nat) (h : k = 4) : nmOf k n = sCur := by subst h; rfl
theorem nm_5 {k : Nat} (n : Nat) (h : k = 5) : nmOf k n = sTmp := by subst h; rfl
theorem nm_0 {k : Nat} (n : Nat) (h : ¬ k = 1 ∧ ¬ k = 2 ∧ ¬ k = 3 ∧ ¬ k = 4 ∧ ¬ k = 5) : nmOf k n = [] := by
  unfold nmOf
  rw [if_neg h.1, if_neg h.2.1, if_neg h.2.2.1, if_neg h.2.2.2.1, if_neg h.2.2.2.2]
set_option maxHeartbeats 1000000 in
theorem kName_any (k n : Nat) (w : World) (hk : k < 256) (hn : n < 18446744073709551616) :
    Calls Try.prog 10 #[.int .u8 k, .int .u64 n] w fun e w' => e = .returned (.string ⟨(nmOf k n).toArray⟩) ∧ Below w.heap.size w w' := by
  have h20 := dgt_20 n hn
  obtain ⟨s, hs⟩ : ∃ s : ByteArray, Hid (s = ⟨(dgt n 6).toArray⟩) := ⟨_, rfl⟩
  have hz : s.size ≤ 20 := by rw [hs.out]; exact h20
  have hcall : ∀ W, Calls Try.prog 21 #[.int .u64 n] W fun e w' => e = .returned (.string s) ∧ Below W.heap.size W w' := fun W => by rw [hs.out]; exact kDigits_any n W hn
  have HC := Lib.hid hcall
  clear hcall
  have key : k = 1 ∨ k = 2 ∨ k = 3 ∨ k = 4 ∨ k = 5 ∨ (¬ k = 1 ∧ ¬ k = 2 ∧ ¬ k = 3 ∧ ¬ k = 4 ∧ ¬ k = 5) := by omega
  rcases key with h | h | h | h | h | h
  · have HN := Lib.hid (nm_1 n h)
    subst h
    go_enter Try.func10, Try.ntmps10
    go_wp2_with (go_at_call 21; refine (HC.out _).mono ?_; rintro e w1 ⟨rfl, hb1⟩)
    go_ret
    refine ⟨?_, hb1⟩
    rw [HN.out, hs.out]
    show Ending.returned (.string (⟨(dgt n 6).toArray⟩ ++ ⟨sLog.toArray⟩)) = _
    rw [bytes_add]
  · have HN := Lib.hid (nm_2 n h)
    subst h
    go_enter Try.func10, Try.ntmps10
    go_wp2_with (go_at_call 21; refine (HC.out _).mono ?_; rintro e w1 ⟨rfl, hb1⟩)
    go_ret
    refine ⟨?_, hb1⟩
    rw [HN.out, hs.out]
    show Ending.returned (.string (⟨(dgt n 6).toArray⟩ ++ ⟨sTab.toArray⟩)) = _
    rw [bytes_add]
  · have HN := Lib.hid (nm_3 n h)
    subst h
    go_enter Try.func10, Try.ntmps10
    go_wp2_with (go_at_call 21; refine (HC.out _).mono ?_; rintro e w1 ⟨rfl, hb1⟩)
    go_ret
    refine ⟨?_, hb1⟩
    rw [HN.out, hs.out]
    show Ending.returned (.string (⟨sMan.toArray⟩ ++ ⟨(dgt n 6).toArray⟩)) = _
    rw [bytes_add]
  · have HN := Lib.hid (nm_4 n h)
    subst h
    go_enter Try.func10, Try.ntmps10
    go_wp2
    go_ret
    exact ⟨by rw [HN.out]; rfl, bself w⟩
  · have HN := Lib.hid (nm_5 n h)
    subst h
    go_enter Try.func10, Try.ntmps10
    go_wp2
    go_ret
    exact ⟨by rw [HN.out]; rfl, bself w⟩
  · have HN := Lib.hid (nm_0 n h)
    obtain ⟨a1, a2, a3, a4, a5⟩ := h
    go_enter Try.func10, Try.ntmps10
    go_wp2
    go_ret
    exact ⟨by rw [HN.out]; rfl, bself w⟩
set_option maxHeartbeats 1000000 in
theorem rName_any (k n : Nat) (w : World) (hk : k < 256) (hn : n < 18446744073709551616) :
    Calls Try.prog 11 #[.int .u8 k, .int .u64 n] w fun e w' => e = .returned (.string ⟨(nmOf k n).toArray⟩) ∧ Below w.heap.size w w' := by
  have h20 := dgt_20 n hn
  obtain ⟨s, hs⟩ : ∃ s : ByteArray, Hid (s = ⟨(dgt n 6).toArray⟩) := ⟨_, rfl⟩
  have hz : s.size ≤ 20 := by rw [hs.out]; exact h20
  have hcall : ∀ W, Calls Try.prog 22 #[.int .u64 n] W fun e w' => e = .returned (.string s) ∧ Below W.heap.size W w' := fun W => by rw [hs.out]; exact rDigits_any n W hn
  have HC := Lib.hid hcall
  clear hcall
  have key : k = 1 ∨ k = 2 ∨ k = 3 ∨ k = 4 ∨ k = 5 ∨ (¬ k = 1 ∧ ¬ k = 2 ∧ ¬ k = 3 ∧ ¬ k = 4 ∧ ¬ k = 5) := by omega
  rcases key with h | h | h | h | h | h
  · have HN := Lib.hid (nm_1 n h)
    subst h
    go_enter Try.func11, Try.ntmps11
    go_wp2_with (go_at_call 22; refine (HC.out _).mono ?_; rintro e w1 ⟨rfl, hb1⟩)
    go_ret
    refine ⟨?_, hb1⟩
    rw [HN.out, hs.out]
    show Ending.returned (.string (⟨(dgt n 6).toArray⟩ ++ ⟨sLog.toArray⟩)) = _
    rw [bytes_add]
  · have HN := Lib.hid (nm_2 n h)
    subst h
    go_enter Try.func11, Try.ntmps11
    go_wp2_with (go_at_call 22; refine (HC.out _).mono ?_; rintro e w1 ⟨rfl, hb1⟩)
    go_ret
    refine ⟨?_, hb1⟩
    rw [HN.out, hs.out]
    show Ending.returned (.string (⟨(dgt n 6).toArray⟩ ++ ⟨sTab.toArray⟩)) = _
    rw [bytes_add]
  · have HN := Lib.hid (nm_3 n h)
    subst h
    go_enter Try.func11, Try.ntmps11
    go_wp2_with (go_at_call 22; refine (HC.out _).mono ?_; rintro e w1 ⟨rfl, hb1⟩)
    go_ret
    refine ⟨?_, hb1⟩
    rw [HN.out, hs.out]
    show Ending.returned (.string (⟨sMan.toArray⟩ ++ ⟨(dgt n 6).toArray⟩)) = _
    rw [bytes_add]
  · have HN := Lib.hid (nm_4 n h)
    subst h
    go_enter Try.func11, Try.ntmps11
    go_wp2
    go_ret
    exact ⟨by rw [HN.out]; rfl, bself w⟩
  · have HN := Lib.hid (nm_5 n h)
    subst h
    go_enter Try.func11, Try.ntmps11
    go_wp2
    go_ret
    exact ⟨by rw [HN.out]; rfl, bself w⟩
  · have HN := Lib.hid (nm_0 n h)
    obtain ⟨a1, a2, a3, a4, a5⟩ := h
    go_enter Try.func11, Try.ntmps11
    go_wp2
    go_ret
    exact ⟨by rw [HN.out]; rfl, bself w⟩
end Go.Proofs.Ytjkcdnangmjoeaa
