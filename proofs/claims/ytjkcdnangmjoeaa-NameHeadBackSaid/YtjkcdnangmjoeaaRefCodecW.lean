/-
  What is proved here: what the reference's laying functions (tantalusref01: Groups, Num, Str, Fix) come to, at this seat's numbers. Conditions: a text shorter than 2^47 - 16.
-/
import Derived.Test.YtjkcdnangmjoeaaByte
import Derived.Test.YtjkcdnangmjoeaaNumLaw
namespace Go.Proofs.Ytjkcdnangmjoeaa
open Go.RowKit


theorem rNum_rel {n m i : Nat} (hn : m < 18446744073709551616) (hi : i < (num n).length) (h : num m = (num n).drop i) :
    (i + 1 < (num n).length → (num n).take (i + 1) = (num n).take i ++ [UInt8.ofNat (m % 128 + 128)] ∧ num (m / 128) = (num n).drop (i + 1)) ∧
    (¬ i + 1 < (num n).length → (num n).take (i + 1) = (num n).take i ++ [UInt8.ofNat (m % 128)] ∧ m ≤ 127) := by
  have hml : (num m).length = (num n).length - i := by rw [h, List.length_drop]
  have ht : (num n).take (i + 1) = (num n).take i ++ [(num n)[i]] := by rw [List.take_succ_eq_append_getElem hi]
  have hd : (num n).drop i = (num n)[i] :: (num n).drop (i + 1) := List.drop_eq_getElem_cons hi
  rw [hd] at h
  constructor
  · intro h1
    have h127 : 127 < m := by
      rcases Nat.lt_or_ge 127 m with h2 | h2
      · exact h2
      · rw [num_small m h2] at hml; simp at hml; omega
    rw [num_step m h127 hn] at h
    injection h with ha hb
    exact ⟨by rw [ht, ← ha], hb⟩
  · intro h1
    have h127 : m ≤ 127 := by
      rcases Nat.lt_or_ge 127 m with h2 | h2
      · rw [num_step m h2 hn] at hml
        have := num_length (m / 128)
        simp at hml; omega
      · exact h2
    rw [num_small m h127] at h
    injection h with ha hb
    exact ⟨by rw [ht, ← ha, Nat.mod_eq_of_lt (by omega)], h127⟩



set_option maxHeartbeats 1000000 in
theorem rFix_any (n : Nat) (many : Int) (w : World) (hn : n < 18446744073709551616) (h1 : -9223372036854775808 ≤ many) (h2 : many ≤ 9223372036854775807) :
    Calls Try.prog 31 #[.int .u64 n, .int .i64 many] w fun e w' => ∃ r, e = .returned r ∧ OB w' w.heap.size r (fix n (fixN many)) ∧ Below w.heap.size w w' := by
  have hnl := fixN_le many
  have f2 : many ≤ 8 → many ≤ (fixN many : Int) := by unfold fixN; omega
  have f3 : 0 ≤ many → (fixN many : Int) ≤ many := by unfold fixN; omega
  have f4 : many ≤ 0 → fixN many ≤ 0 := by unfold fixN; omega
  have f1 : 8 < many → 8 ≤ fixN many := by unfold fixN; omega
  go_enter Try.func31, Try.ntmps31
  go_wp2
  go_loopw [0, 5, 6] (fun x v i wr => ∃ k j : Nat, x = .int .u64 k ∧ i = .int .i64 j ∧ k < 18446744073709551616 ∧ j ≤ fixN many ∧ ∃ l, OB wr w.heap.size v l ∧ Hid (l ++ fix k (fixN many - j) = fix n (fixN many)) ∧ l.length ≤ j ∧ Below w.heap.size w wr) (fun _ _ i _ => 8 - (intOf i).toNat)
  case atStart => exact ⟨n, 0, rfl, rfl, hn, Nat.zero_le _, [], OB.nil_ _ _, rfl, by simp, Below.refl _ _⟩
  case round =>
    obtain ⟨k, j, rfl, rfl, hk, hj, l, hown, hl, hll, hbr⟩ := hrel
    have hsz := hbr.size
    by_cases hlt : j < fixN many
    · have g1 : (j : Int) < many := by omega
      have g2 : j < 8 := by omega
      go_wp2_with (at_builtin; refine wl_app1 rfl (.tmp 16) (.tmp 20) rfl w.heap.size _ l rfl hown _ (UInt8.ofNat k) (congrArg _ (byte_of k)) rfl rfl (by omega) hsz ?_; intro v2 w2 hown2 _ _ hb2)
      go_roundw
      case rel => exact ⟨k / 256, j + 1, by go_num, by go_num, by omega, by omega, l ++ [UInt8.ofNat k], hown2, fix_rel l hl.out hlt, by simp; omega, hbr.trans hb2⟩
      case measure => simp [intOf]; omega
    · have hfin := hl.out
      rw [show fixN many - j = 0 from by omega, fix, List.append_nil] at hfin
      have HF := Lib.hid hfin
      clear hfin
      by_cases g1 : (j : Int) < many
      · have g2 : ¬ ((j : Int) < 8) := by omega
        go_wp2
        go_ret
        exact ⟨_, rfl, HF.out ▸ hown, hbr⟩
      · go_wp2
        go_ret
        exact ⟨_, rfl, HF.out ▸ hown, hbr⟩
end Go.Proofs.Ytjkcdnangmjoeaa
