/-
  What is proved here (plain law): the steps of the loops of layer 7: digits one by one, the number whose digits a text is one by one. No program in sight.
-/
import Derived.Test.YtjkcdnangmjoeaaNameLaw2
namespace Go.Proofs.Ytjkcdnangmjoeaa

theorem dgt_le : ∀ j n k : Nat, n < 10 ^ j → k ≤ j → (dgt n k).length ≤ j
  | 0, n, k, h, hk => by
    have h1 : n = 0 := by simpa using h
    have h2 : k = 0 := by omega
    rw [h1, h2, dgt_0]
    exact Nat.le_refl _
  | j + 1, n, k, h, hk => by
    by_cases h0 : n = 0 ∧ k = 0
    · rw [h0.1, h0.2, dgt_0]
      exact Nat.zero_le _
    · have := dgt_le j (n / 10) (k - 1) (by rw [Nat.pow_succ] at h; omega) (by omega)
      rw [dgt_step h0, List.length_append]
      simp only [List.length_cons, List.length_nil]
      omega
theorem dgt_20 (n : Nat) (h : n < 18446744073709551616) : (dgt n 6).length ≤ 20 := dgt_le 20 n 6 (by omega) (by omega)
theorem dgt_rel {k : Nat} (l m : List UInt8) (h : ¬ (k = 0 ∧ 6 ≤ l.length)) (e : dgt k (6 - l.length) ++ l = m) : dgt (k / 10) (6 - (l.length + 1)) ++ UInt8.ofNat (48 + k % 10) :: l = m := by
  rw [← e, dgt_step (n := k) (k := 6 - l.length) (by omega), show 6 - (l.length + 1) = 6 - l.length - 1 from by omega]
  simp
theorem dgt_end {l m : List UInt8} (h : 6 ≤ l.length) (e : dgt 0 (6 - l.length) ++ l = m) : l = m := by
  rw [← e, show 6 - l.length = 0 from by omega, dgt_0, List.nil_append]
theorem take_next (l : List UInt8) (k : Nat) (h : k < l.length) : l.take (k + 1) = l.take k ++ [l[k]] := by
  rw [List.take_add_one, List.getElem?_eq_getElem h]; rfl
theorem numR_no {l : List UInt8} (h : ¬ numOK l) : numR l = (0, false) := by unfold numR; rw [if_neg h]
theorem numR_yes {l : List UInt8} (h : numOK l) : numR l = (val l, decide (6 ≤ l.length)) := by unfold numR; rw [if_pos h]
/-- a byte that is no digit -/
theorem numR_char {l : List UInt8} {k : Nat} (hk : k < l.length) (h : isD l[k] = false) : numR l = (0, false) :=
  numR_no fun ok => by rw [ok.1 l[k] (List.getElem_mem hk)] at h; cases h
theorem numR_big {l : List UInt8} {k : Nat} (hk : k < l.length) (hp : numOK (l.take k)) (hd : isD l[k] = true) (h : (18446744073709551615 - digV1 l[k]) / 10 < val (l.take k) ∨ (6 ≤ k ∧ val (l.take k) < 100000)) : numR l = (0, false) :=
  numR_no fun ok => by
    have hs := numOK_pre (l.take (k + 1)) (l.drop (k + 1)) (by rw [List.take_append_drop]; exact ok)
    rw [take_next l k hk, numOK_snoc _ _ hp hd, List.length_take, Nat.min_eq_left (by omega)] at hs
    rcases h with h | h
    · exact hs.1 h
    · exact hs.2 h
theorem numOK_next {l : List UInt8} {k : Nat} (hk : k < l.length) (hp : numOK (l.take k)) (hd : isD l[k] = true) (h1 : ¬ (18446744073709551615 - digV1 l[k]) / 10 < val (l.take k)) (h2 : ¬ (6 ≤ k ∧ val (l.take k) < 100000)) : numOK (l.take (k + 1)) ∧ val (l.take (k + 1)) = val (l.take k) * 10 + digV1 l[k] := by
  rw [take_next l k hk, val_snoc]
  refine ⟨(numOK_snoc _ _ hp hd).2 ⟨h1, ?_⟩, rfl⟩
  rw [List.length_take, Nat.min_eq_left (by omega)]
  exact h2
end Go.Proofs.Ytjkcdnangmjoeaa
