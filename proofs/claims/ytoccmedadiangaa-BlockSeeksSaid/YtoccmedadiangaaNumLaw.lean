/-
  What is proved here: plain laws of a number's bytes (groups of seven bits, least first): how one group is taken off, how many there are. No program in sight. No condition.
-/
import Derived.WalkKit
namespace Go.Proofs.Ytoccmedadiangaa

/-- a number's bytes, in at most f + 1 groups -/
def numF : Nat → Nat → List UInt8
  | 0, n => [UInt8.ofNat n]
  | f + 1, n => if n ≤ 127 then [UInt8.ofNat n] else UInt8.ofNat (n % 128 + 128) :: numF f (n / 128)
/-- a number's bytes -/
def num (n : Nat) : List UInt8 := numF 9 n
/-- 2 to the 64, behind a name -/
def two64 : Nat := 18446744073709551616

theorem numF_succ (f : Nat) : ∀ n, n < 128 ^ (f + 1) → numF (f + 1) n = numF f n := by
  induction f with
  | zero => intro n h; simp only [numF]; rw [if_pos (by simp at h; omega)]
  | succ f ih =>
    intro n h
    have h2 : n / 128 < 128 ^ (f + 1) := by
      rw [Nat.div_lt_iff_lt_mul (by omega)]
      rw [Nat.pow_succ] at h
      exact h
    show (if n ≤ 127 then [UInt8.ofNat n] else UInt8.ofNat (n % 128 + 128) :: numF (f + 1) (n / 128)) = numF (f + 1) n
    rw [ih _ h2]
    rfl
theorem num_small (n : Nat) (h : n ≤ 127) : num n = [UInt8.ofNat n] := by simp [num, numF, h]
theorem num_step (n : Nat) (h : 127 < n) (hn : n < 18446744073709551616) : num n = UInt8.ofNat (n % 128 + 128) :: num (n / 128) := by
  have : num n = UInt8.ofNat (n % 128 + 128) :: numF 8 (n / 128) := by
    unfold num
    rw [show (9 : Nat) = 8 + 1 from rfl, numF, if_neg (by omega)]
  rw [this, num, numF_succ 8 (n / 128) (by simp; omega)]
theorem numF_length (f : Nat) : ∀ n, 1 ≤ (numF f n).length ∧ (numF f n).length ≤ f + 1 := by
  induction f with
  | zero => intro n; simp [numF]
  | succ f ih =>
    intro n
    rw [numF]
    split
    · simp
    · have := ih (n / 128); simp; omega
theorem or128 : ∀ a : Nat, a < 256 → a ||| 128 = a % 128 + 128 := by decide +kernel
/-- 'byte(n)|128' -/
theorem byte_or128 (n : Nat) : Go.bits .or .u8 ((n : Int) % 256) 128 = ((UInt8.ofNat (n % 128 + 128)).toNat : Int) := by
  have h : ((n : Int) % 256) = ((n % 256 : Nat) : Int) := by omega
  rw [h, show (128 : Int) = ((128 : Nat) : Int) from rfl, u8_or_nat _ _ (by omega) (by omega), or128 _ (by omega)]
  simp [UInt8.toNat_ofNat']
  omega
/-- 'byte(n)' -/
theorem byte_of (n : Nat) : ((n : Int) % 256) = ((UInt8.ofNat n).toNat : Int) := by
  simp [UInt8.toNat_ofNat']
theorem num_length (n : Nat) : 1 ≤ (num n).length ∧ (num n).length ≤ 10 := numF_length 9 n

/-- the k lowest bytes of a number, least first -/
def fix : Nat → Nat → List UInt8
  | _, 0 => []
  | n, k + 1 => UInt8.ofNat n :: fix (n / 256) k
theorem fix_length (k : Nat) : ∀ n, (fix n k).length = k := by
  induction k with
  | zero => intro n; rfl
  | succ k ih => intro n; simp [fix, ih]
theorem fix_rel {n k j m : Nat} (l : List UInt8) (e : l ++ fix k (m - j) = fix n m) (h : j < m) : (l ++ [UInt8.ofNat k]) ++ fix (k / 256) (m - (j + 1)) = fix n m := by
  rw [← e, show m - j = (m - (j + 1)) + 1 from by omega, fix]; simp

/-- how many bytes Fix lays -/
def fixN (many : Int) : Nat := (max 0 (min many 8)).toNat
theorem fixN8 : fixN 8 = 8 := by decide
theorem fixN_le (many : Int) : fixN many ≤ 8 := by unfold fixN; omega
end Go.Proofs.Ytoccmedadiangaa
