/-
  What is proved here: the calls of the statements NameNames, NameParses and NameNonces return true and turn nothing that was there. No condition but the numbers' own.
-/
import Derived.Test.YtjkcdnangmjoeaaNameW13
import Derived.Test.YtjkcdnangmjoeaaNameEq
namespace Go.Proofs.Ytjkcdnangmjoeaa
open Go.RowKit

set_option maxHeartbeats 1000000 in
theorem nameNames_any (k n : Nat) (w : World) (hk : k < 256) (hn : n < 18446744073709551616) :
    Calls Try.prog 3 #[.int .u8 k, .int .u64 n] w fun e w' => e = .returned (.bool true) ∧ Below w.heap.size w w' := by
  obtain ⟨N, hN⟩ : ∃ N : ByteArray, ⟨(nmOf k n).toArray⟩ = N := ⟨_, rfl⟩
  have HK : Hid (∀ W, Calls Try.prog 10 #[.int .u8 k, .int .u64 n] W fun e w' => e = .returned (.string N) ∧ Below W.heap.size W w') := Lib.hid (fun W => by rw [← hN]; exact kName_any k n W hk hn)
  have HR : Hid (∀ W, Calls Try.prog 11 #[.int .u8 k, .int .u64 n] W fun e w' => e = .returned (.string N) ∧ Below W.heap.size W w') := Lib.hid (fun W => by rw [← hN]; exact rName_any k n W hk hn)
  clear hN
  go_enter Try.func3, Try.ntmps3
  go_wp2_with (first
    | (go_at_call 9; refine (shown_any _).mono ?_; rintro _ w1 ⟨rfl, hb1⟩)
    | (go_at_call 10; refine (HK.out _).mono ?_; rintro _ w2 ⟨rfl, hb2⟩)
    | (go_at_call 11; refine (HR.out _).mono ?_; rintro _ w3 ⟨rfl, hb3⟩))
  go_ret
  exact ⟨by simp, bstep (bstep hb1 hb2) hb3⟩
theorem parseV_form (l : List UInt8) (hl : l.length ≤ 1000) : ∃ (k n : Nat) (b : Bool), parseV l = .tuple #[.int .u8 (k : Int), .int .u64 (n : Int), .bool b] := by
  unfold parseV
  cases h : parseR l with
  | none => exact ⟨0, 0, false, rfl⟩
  | some p => obtain ⟨k, n⟩ := p; exact ⟨k, n, true, rfl⟩
set_option maxHeartbeats 1000000 in
theorem nameParses_any (s : ByteArray) (w : World) (hs : s.size ≤ 9223372036854775807) :
    Calls Try.prog 4 #[.string s] w fun e w' => e = .returned (.bool true) ∧ Below w.heap.size w w' := by
  by_cases h1 : s.size ≤ 1000
  · obtain ⟨k, n, b, hP⟩ := parseV_form s.data.toList (by rw [Array.length_toList]; exact h1)
    have HK : Hid (∀ W, Calls Try.prog 12 #[.string s] W fun e w' => e = .returned (.tuple #[.int .u8 (k : Int), .int .u64 (n : Int), .bool b]) ∧ Below W.heap.size W w') := Lib.hid (fun W => by rw [← hP]; exact kParse_any s W (by omega))
    have HR : Hid (∀ W, Calls Try.prog 13 #[.string s] W fun e w' => e = .returned (.tuple #[.int .u8 (k : Int), .int .u64 (n : Int), .bool b]) ∧ Below W.heap.size W w') := Lib.hid (fun W => by rw [← hP]; exact rParse_any s W (by omega))
    clear hP
    go_enter Try.func4, Try.ntmps4
    go_wp2_with (first
      | (go_at_call 9; refine (shown_any _).mono ?_; rintro _ w1 ⟨rfl, hb1⟩)
      | (go_at_call 12; refine (HK.out _).mono ?_; rintro _ w2 ⟨rfl, hb2⟩)
      | (go_at_call 13; refine (HR.out _).mono ?_; rintro _ w3 ⟨rfl, hb3⟩))
    go_ret
    exact ⟨by simp, bstep (bstep hb1 hb2) hb3⟩
  · go_enter Try.func4, Try.ntmps4
    go_wp2_with (go_at_call 9; refine (shown_any _).mono ?_; rintro _ w1 ⟨rfl, hb1⟩)
    go_ret
    exact ⟨rfl, hb1⟩
set_option maxHeartbeats 1000000 in
theorem nameNonces_any (a b : Nat) (w : World) (ha : a < 18446744073709551616) (hb : b < 18446744073709551616) :
    Calls Try.prog 6 #[.int .u64 a, .int .u64 b] w fun e w' => e = .returned (.bool true) ∧ Below w.heap.size w w' := by
  by_cases e : a = b
  · subst e
    obtain ⟨ca, hca⟩ : ∃ c, nonA (nonceOf a) = c := ⟨_, rfl⟩
    have HA := Lib.hid (kNonceC a ha ca hca)
    have hEq : ∀ w', (Op.equalIn 10000 32 (.agg ca) (.agg ca)).run Try.prog w' = .ok true w' := fun w' => by rw [run_eqNonce w' a a ha ha ca ca hca hca]; simp
    clear hca
    go_enter Try.func6, Try.ntmps6
    go_wp2_with fail
    refine (shown_any _).mono ?_
    rintro _ w1 ⟨rfl, hb1⟩
    go_wp2_with fail
    refine (HA.out _).mono ?_
    rintro _ w2 ⟨rfl, hb2⟩
    go_wp2_with fail
    refine (HA.out _).mono ?_
    rintro _ w3 ⟨rfl, hb3⟩
    go_wp2_with fail
    go_ret
    exact ⟨by simp, bstep (bstep hb1 hb2) hb3⟩
  · obtain ⟨ca, hca⟩ : ∃ c, nonA (nonceOf a) = c := ⟨_, rfl⟩
    obtain ⟨cb, hcb⟩ : ∃ c, nonA (nonceOf b) = c := ⟨_, rfl⟩
    have HA := Lib.hid (kNonceC a ha ca hca)
    have HB := Lib.hid (kNonceC b hb cb hcb)
    have hEq : ∀ w', (Op.equalIn 10000 32 (.agg ca) (.agg cb)).run Try.prog w' = .ok false w' := fun w' => by rw [run_eqNonce w' a b ha hb ca cb hca hcb]; simp [e]
    have hne : ((a : Int) == (b : Int)) = false := by rw [beq_eq_false_iff_ne]; omega
    clear hca hcb
    go_enter Try.func6, Try.ntmps6
    go_wp2_with fail
    refine (shown_any _).mono ?_
    rintro _ w1 ⟨rfl, hb1⟩
    go_wp2_with fail
    refine (HA.out _).mono ?_
    rintro _ w2 ⟨rfl, hb2⟩
    go_wp2_with fail
    refine (HB.out _).mono ?_
    rintro _ w3 ⟨rfl, hb3⟩
    go_wp2_with fail
    go_ret
    exact ⟨by simp, bstep (bstep hb1 hb2) hb3⟩
end Go.Proofs.Ytjkcdnangmjoeaa
