/-
  What is proved here: what the reference's laying functions (tantalusref01: Groups, Num, Str, Fix) come to, at this seat's numbers. Conditions: a text shorter than 2^47 - 16.
-/
import Derived.Test.YtoccmedadiangaaByte
import Derived.Test.YtoccmedadiangaaNumLaw
namespace Go.Proofs.Ytoccmedadiangaa
open Go.RowKit

theorem rGroups_any (n : Nat) (w : World) (hn : n < 18446744073709551616) :
    Calls Try.prog 45 #[.int .u64 n] w fun e w' => e = .returned (.int .i64 (num n).length) ∧ w' = w := by
  have hnl := num_length n
  go_enter Try.func45, Try.ntmps45
  go_wp2
  go_loop [0, 3] (fun x i => ∃ m k : Nat, x = .int .u64 m ∧ i = .int .i64 k ∧ m < 18446744073709551616 ∧ Hid (k + (num m).length = (num n).length + 1) ∧ k ≤ 10) (fun x _ => (intOf x).toNat)
  case atStart => exact ⟨n, 1, rfl, rfl, hn, (by unfold Hid; omega), by omega⟩
  case round =>
    obtain ⟨m, k, rfl, rfl, hm, hl, hk⟩ := hrel
    have hml := num_length m
    by_cases hlt : 127 < m
    · have hs := num_step m hlt hm
      have hs2 := num_length (m / 128)
      have HL : Hid (k + 1 + (num (m / 128)).length = (num n).length + 1 ∧ k + 1 ≤ 10) := by
        have h := hl.out
        rw [hs] at h
        simp at h
        exact ⟨by omega, by omega⟩
      clear hs hl
      go_wp2
      go_round
      case rel => exact ⟨m / 128, k + 1, by go_num, by go_num, by omega, HL.out.1, HL.out.2⟩
      case measure => simp [intOf]; omega
    · go_wp2
      go_ret
      have h := hl.out
      rw [num_small m (by omega)] at h
      simp at h
      exact ⟨by rw [← h]; rfl, rfl⟩

theorem rNum_rel {n m i : Nat} (hn : m < 18446744073709551616) (hi : i < (num n).length) (h : num m = (num n).drop i) :
    (i + 1 < (num n).length → (num n).take (i + 1) = (num n).take i ++ [UInt8.ofNat (m % 128 + 128)] ∧ num (m / 128) = (num n).drop (i + 1)) ∧
    (¬ i + 1 < (num n).length → (num n).take (i + 1) = (num n).take i ++ [UInt8.ofNat (m % 128)] ∧ m ≤ 127) := by
  have hml : (num m).length = (num n).length - i := by rw [h, List.length_drop]
  have ht : (num n).take (i + 1) = (num n).take i ++ [(num n)[i]] := by rw [List.take_succ_eq_append_getElem hi]
  have hd : (num n).drop i = (num n)[i] :: (num n).drop (i + 1) := List.drop_eq_getElem_cons hi
  rw [hd] at h
  constructor
  · intro h1
    have h127 : 127 < m := by
      rcases Nat.lt_or_ge 127 m with h2 | h2
      · exact h2
      · rw [num_small m h2] at hml; simp at hml; omega
    rw [num_step m h127 hn] at h
    injection h with ha hb
    exact ⟨by rw [ht, ← ha], hb⟩
  · intro h1
    have h127 : m ≤ 127 := by
      rcases Nat.lt_or_ge 127 m with h2 | h2
      · rw [num_step m h2 hn] at hml
        have := num_length (m / 128)
        simp at hml; omega
      · exact h2
    rw [num_small m h127] at h
    injection h with ha hb
    exact ⟨by rw [ht, ← ha, Nat.mod_eq_of_lt (by omega)], h127⟩

set_option maxHeartbeats 1000000 in
theorem rNum_any (n : Nat) (w : World) (hn : n < 18446744073709551616) :
    Calls Try.prog 26 #[.int .u64 n] w fun e w' => ∃ r, e = .returned r ∧ OB w' w.heap.size r (num n) ∧ Below w.heap.size w w' := by
  have hnl := num_length n
  go_enter Try.func26, Try.ntmps26
  go_wp2_with (go_at_call 45; refine (rGroups_any n w hn).mono ?_; rintro e w' ⟨rfl, rfl⟩)
  go_loopw [0, 3, 5] (fun x v t wr => ∃ m i : Nat, x = .int .u64 m ∧ t = .int .i64 i ∧ m < 18446744073709551616 ∧ i ≤ (num n).length ∧ OB wr w'.heap.size v ((num n).take i) ∧ Hid (i < (num n).length → num m = (num n).drop i) ∧ Below w'.heap.size w' wr) (fun _ _ t _ => 10 - (intOf t).toNat)
  case atStart => exact ⟨n, 0, rfl, rfl, hn, Nat.zero_le _, OB.nil_ _ _, fun _ => rfl, Below.refl _ _⟩
  case round =>
    obtain ⟨m, i, rfl, rfl, hm, hi, hown, hd, hbr⟩ := hrel
    have hsz := hbr.size
    have htl : ((num n).take i).length ≤ 10 := by rw [List.length_take]; omega
    by_cases hlt : i < (num n).length
    · obtain ⟨hA, hB⟩ := rNum_rel hm hlt (hd.out hlt)
      by_cases h1 : i + 1 < (num n).length
      · have HA := Lib.hid (hA h1)
        clear hA hB hd
        go_wp2_with (at_builtin; refine wl_app1 rfl (.tmp 23) (.tmp 25) rfl w'.heap.size _ _ rfl hown _ (UInt8.ofNat (m % 128 + 128)) (congrArg _ (by simp [UInt8.toNat_ofNat']; omega)) rfl rfl (by omega) hsz ?_; intro v2 w2 hown2 _ _ hb2)
        go_roundw
        case rel => exact ⟨m / 128, i + 1, by go_num, by go_num, by omega, by omega, by rw [HA.out.1]; exact hown2, (fun _ => HA.out.2), hbr.trans hb2⟩
        case measure => simp [intOf]; omega
      · have HA := Lib.hid (hB h1)
        clear hA hB hd
        go_wp2_with (at_builtin; refine wl_app1 rfl (.tmp 23) (.tmp 25) rfl w'.heap.size _ _ rfl hown _ (UInt8.ofNat (m % 128)) (congrArg _ (by simp [UInt8.toNat_ofNat']; omega)) rfl rfl (by omega) hsz ?_; intro v2 w2 hown2 _ _ hb2)
        go_roundw
        case rel => exact ⟨m / 128, i + 1, by go_num, by go_num, by omega, by omega, by rw [HA.out.1]; exact hown2, (fun h => absurd h h1), hbr.trans hb2⟩
        case measure => simp [intOf]; omega
    · go_wp2
      go_ret
      refine ⟨_, rfl, ?_, hbr⟩
      rw [List.take_of_length_le (by omega)] at hown
      exact hown


set_option maxHeartbeats 1000000 in
theorem rFix_any (n : Nat) (many : Int) (w : World) (hn : n < 18446744073709551616) (h1 : -9223372036854775808 ≤ many) (h2 : many ≤ 9223372036854775807) :
    Calls Try.prog 29 #[.int .u64 n, .int .i64 many] w fun e w' => ∃ r, e = .returned r ∧ OB w' w.heap.size r (fix n (fixN many)) ∧ Below w.heap.size w w' := by
  have hnl := fixN_le many
  have f2 : many ≤ 8 → many ≤ (fixN many : Int) := by unfold fixN; omega
  have f3 : 0 ≤ many → (fixN many : Int) ≤ many := by unfold fixN; omega
  have f4 : many ≤ 0 → fixN many ≤ 0 := by unfold fixN; omega
  have f1 : 8 < many → 8 ≤ fixN many := by unfold fixN; omega
  go_enter Try.func29, Try.ntmps29
  go_wp2
  go_loopw [0, 5, 6] (fun x v i wr => ∃ k j : Nat, x = .int .u64 k ∧ i = .int .i64 j ∧ k < 18446744073709551616 ∧ j ≤ fixN many ∧ ∃ l, OB wr w.heap.size v l ∧ Hid (l ++ fix k (fixN many - j) = fix n (fixN many)) ∧ l.length ≤ j ∧ Below w.heap.size w wr) (fun _ _ i _ => 8 - (intOf i).toNat)
  case atStart => exact ⟨n, 0, rfl, rfl, hn, Nat.zero_le _, [], OB.nil_ _ _, rfl, by simp, Below.refl _ _⟩
  case round =>
    obtain ⟨k, j, rfl, rfl, hk, hj, l, hown, hl, hll, hbr⟩ := hrel
    have hsz := hbr.size
    by_cases hlt : j < fixN many
    · have g1 : (j : Int) < many := by omega
      have g2 : j < 8 := by omega
      go_wp2_with (at_builtin; refine wl_app1 rfl (.tmp 16) (.tmp 20) rfl w.heap.size _ l rfl hown _ (UInt8.ofNat k) (congrArg _ (byte_of k)) rfl rfl (by omega) hsz ?_; intro v2 w2 hown2 _ _ hb2)
      go_roundw
      case rel => exact ⟨k / 256, j + 1, by go_num, by go_num, by omega, by omega, l ++ [UInt8.ofNat k], hown2, fix_rel l hl.out hlt, by simp; omega, hbr.trans hb2⟩
      case measure => simp [intOf]; omega
    · have hfin := hl.out
      rw [show fixN many - j = 0 from by omega, fix, List.append_nil] at hfin
      have HF := Lib.hid hfin
      clear hfin
      by_cases g1 : (j : Int) < many
      · have g2 : ¬ ((j : Int) < 8) := by omega
        go_wp2
        go_ret
        exact ⟨_, rfl, HF.out ▸ hown, hbr⟩
      · go_wp2
        go_ret
        exact ⟨_, rfl, HF.out ▸ hown, hbr⟩
end Go.Proofs.Ytoccmedadiangaa
