/-
  What is proved here: what the codec's laying functions come to, at this seat's numbers: Num, Str, Fix lay behind a copy of the bytes. Conditions: the lengths together below 2^47.
-/
import Derived.Test.YtoccmedadiangaaByte
import Derived.Test.YtoccmedadiangaaNumLaw
namespace Go.Proofs.Ytoccmedadiangaa
open Go.RowKit

theorem num_rel {k : Nat} (l m : List UInt8) (h : 127 < k) (hk : k < 18446744073709551616) (e : l ++ num k = m) : (l ++ [UInt8.ofNat (k % 128 + 128)]) ++ num (k / 128) = m := by
  rw [← e, num_step k h hk]; simp

set_option maxHeartbeats 1000000 in
theorem cNum_any (v : Value) (bs : List UInt8) (n : Nat) (w : World) (hv : SB w w.heap.size v bs) (hm : bs.length + 10 ≤ 140737488355328) (hn : n < 18446744073709551616) :
    Calls Try.prog 22 #[v, .int .u64 n] w fun e w' => ∃ r, e = .returned r ∧ OB w' w.heap.size r (bs ++ num n) ∧ Below w.heap.size w w' := by
  have hnl := num_length n
  go_enter Try.func22, Try.ntmps22
  go_wp2_with (at_builtin; refine wl_appB rfl (.tmp 6) (.tmp 7) rfl w.heap.size _ [] rfl (OB.lit0 w (Nat.le_refl _)) w.heap.size v bs rfl (hv.alloc (Nat.le_refl _) _) (by simp; omega) (by simp) ?_; intro v1 w1 hown1 _ _ hb1)
  have hb : Below w.heap.size w w1 := ((Below.refl _ _).alloc (Nat.le_refl _) _).trans hb1
  clear hb1
  go_loopw [1, 5] (fun x v wr => ∃ k : Nat, x = .int .u64 k ∧ k < 18446744073709551616 ∧ ∃ l, OB wr w.heap.size v (bs ++ l) ∧ Hid (l ++ num k = num n) ∧ l.length ≤ 10 ∧ Below w.heap.size w wr) (fun x _ _ => (intOf x).toNat)
  case atStart => exact ⟨n, rfl, hn, [], by simpa using hown1, rfl, by simp, hb⟩
  case round =>
    obtain ⟨k, rfl, hk, l, hown, hl, hll, hbr⟩ := hrel
    have hsz := hbr.size
    have hkl := num_length k
    have hlk : l.length + (num k).length = (num n).length := by rw [← hl.out]; simp
    by_cases hlt : 127 < k
    · go_wp2_with (at_builtin; refine wl_app1 rfl (.tmp 13) (.tmp 17) rfl w.heap.size _ (bs ++ l) rfl hown _ (UInt8.ofNat (k % 128 + 128)) (congrArg _ (byte_or128 k)) rfl rfl (by simp; omega) hsz ?_; intro v2 w2 hown2 _ _ hb2)
      go_roundw
      case rel => exact ⟨k / 128, by go_num, by omega, l ++ [UInt8.ofNat (k % 128 + 128)], by simpa using hown2, num_rel l _ hlt hk hl, by simp; omega, hbr.trans hb2⟩
      case measure => simp [intOf]; omega
    · go_wp2_with (at_builtin; refine wl_app1 rfl (.tmp 19) (.tmp 22) rfl w.heap.size _ (bs ++ l) rfl hown _ (UInt8.ofNat k) (congrArg _ (by rw [← byte_of]; omega)) rfl rfl (by simp; omega) hsz ?_; intro v2 w2 hown2 _ _ hb2)
      go_ret
      refine ⟨_, rfl, ?_, hbr.trans hb2⟩
      rw [← hl.out, num_small k (by omega), ← List.append_assoc]
      exact hown2


set_option maxHeartbeats 1000000 in
theorem cFix_any (v : Value) (bs : List UInt8) (n : Nat) (many : Int) (w : World) (hv : SB w w.heap.size v bs) (hm : bs.length + 10 ≤ 140737488355328) (hn : n < 18446744073709551616) (h1 : -9223372036854775808 ≤ many) (h2 : many ≤ 9223372036854775807) :
    Calls Try.prog 24 #[v, .int .u64 n, .int .i64 many] w fun e w' => ∃ r, e = .returned r ∧ OB w' w.heap.size r (bs ++ fix n (fixN many)) ∧ Below w.heap.size w w' := by
  have hnl := fixN_le many
  have f1 : 8 < many → 8 ≤ fixN many := by unfold fixN; omega
  have f2 : many ≤ 8 → many ≤ (fixN many : Int) := by unfold fixN; omega
  have f3 : 0 ≤ many → (fixN many : Int) ≤ many := by unfold fixN; omega
  have f4 : many ≤ 0 → fixN many ≤ 0 := by unfold fixN; omega
  go_enter Try.func24, Try.ntmps24
  go_wp2_with (at_builtin; refine wl_appB rfl (.tmp 8) (.tmp 9) rfl w.heap.size _ [] rfl (OB.lit0 w (Nat.le_refl _)) w.heap.size v bs rfl (hv.alloc (Nat.le_refl _) _) (by simp; omega) (by simp) ?_; intro v1 w1 hown1 _ _ hb1)
  all_goals
    have hb : Below w.heap.size w w1 := ((Below.refl _ _).alloc (Nat.le_refl _) _).trans hb1
    clear hb1
    go_loopw [1, 7, 14] (fun x v i wr => ∃ k j : Nat, x = .int .u64 k ∧ i = .int .i64 j ∧ k < 18446744073709551616 ∧ j ≤ fixN many ∧ ∃ l, OB wr w.heap.size v (bs ++ l) ∧ Hid (l ++ fix k (fixN many - j) = fix n (fixN many)) ∧ l.length ≤ j ∧ Below w.heap.size w wr) (fun _ _ i _ => 8 - (intOf i).toNat)
    case atStart => exact ⟨n, 0, rfl, rfl, hn, Nat.zero_le _, [], by simpa using hown1, rfl, by simp, hb⟩
    case round =>
      obtain ⟨k, j, rfl, rfl, hk, hj, l, hown, hl, hll, hbr⟩ := hrel
      have hsz := hbr.size
      by_cases hlt : j < fixN many
      · go_wp2_with (at_builtin; refine wl_app1 rfl (.tmp 16) (.tmp 19) rfl w.heap.size _ (bs ++ l) rfl hown _ (UInt8.ofNat k) (congrArg _ (byte_of k)) rfl rfl (by simp; omega) hsz ?_; intro v2 w2 hown2 _ _ hb2)
        all_goals
          go_roundw
          case rel => exact ⟨k / 256, j + 1, by go_num, by go_num, by omega, by omega, l ++ [UInt8.ofNat k], by simpa using hown2, fix_rel l hl.out hlt, by simp; omega, hbr.trans hb2⟩
          case measure => simp [intOf]; omega
      · go_wp2
        all_goals
          go_ret
          refine ⟨_, rfl, ?_, hbr⟩
          rw [← hl.out, show fixN many - j = 0 from by omega, fix, List.append_nil]
          exact hown
end Go.Proofs.Ytoccmedadiangaa
