/-
  What is proved here (plain law): bytes that are mixed, padded keys byte by byte, equality by what is unlike. No program in sight but the words for bytes' operations.
-/
import Derived.Test.YtjkcdnangmjoeaaDoorMacLaw
import Derived.Test.YtjkcdnangmjoeaaDoorShaW
namespace Go.Proofs.YtjkcdnangmjoeaaDoor
open Go.RowKit

def xor8 (a b : UInt8) : UInt8 := a ^^^ b
def or8 (a b : UInt8) : UInt8 := a ||| b
theorem X_xor (a b : UInt8) : bits .xor .u8 (a.toNat : Int) (b.toNat : Int) = ((xor8 a b).toNat : Int) := by unfold xor8; rw [u8_xor_nat _ _ a.toNat_lt b.toNat_lt, UInt8.toNat_xor]
theorem X_or (a b : UInt8) : bits .or .u8 (a.toNat : Int) (b.toNat : Int) = ((or8 a b).toNat : Int) := by unfold or8; rw [u8_or_nat _ _ a.toNat_lt b.toNat_lt, UInt8.toNat_or]
theorem xor8_comm (a b : UInt8) : xor8 a b = xor8 b a := UInt8.xor_comm a b
theorem xor8_zero (a b : UInt8) : xor8 a b = 0 ↔ a = b := UInt8.xor_eq_zero_iff
theorem or8_zero (a b : UInt8) : or8 a b = 0 ↔ a = 0 ∧ b = 0 := UInt8.or_eq_zero_iff
/-- what is unlike in the first n places -/
def unl (a b : List UInt8) : Nat → UInt8
  | 0 => 0
  | i + 1 => or8 (unl a b i) (xor8 (a[i]?.getD 0) (b[i]?.getD 0))
theorem unl_zero (a b : List UInt8) (h : a.length = b.length) : ∀ n, n ≤ a.length → (unl a b n = 0 ↔ a.take n = b.take n)
  | 0, _ => by simp [unl]
  | n + 1, hn => by
    rw [unl, or8_zero, xor8_zero, unl_zero a b h n (by omega), List.getElem?_eq_getElem (show n < a.length by omega), List.getElem?_eq_getElem (show n < b.length by omega), List.take_add_one, List.take_add_one, List.getElem?_eq_getElem (show n < a.length by omega), List.getElem?_eq_getElem (show n < b.length by omega)]
    constructor
    · rintro ⟨h1, h2⟩
      have h3 : a[n] = b[n] := h2
      rw [h1, h3]
    · intro h1
      have h2 := List.append_inj h1 (by rw [List.length_take, List.length_take]; omega)
      exact ⟨h2.1, by have := h2.2; simpa using this⟩
theorem unl_all (a b : List UInt8) (h : a.length = b.length) : (unl a b a.length == 0) = (a == b) := by
  have h1 := unl_zero a b h a.length (Nat.le_refl _)
  rw [List.take_length, h, List.take_length, ← h] at h1
  rw [Bool.eq_iff_iff, beq_iff_eq, beq_iff_eq]
  exact h1
/-- a padded key's byte, mixed -/
theorem mix_at (x : UInt8) (k : List UInt8) (i : Nat) (hi : i < 64) : (xorL x (padK k))[i]? = some (if h : i < (keyOf64 k).length then xor8 x ((keyOf64 k)[i]'h) else x) := by
  unfold xorL padK
  rw [List.getElem?_map]
  by_cases h : i < (keyOf64 k).length
  · rw [List.getElem?_append_left h, List.getElem?_eq_getElem h, dif_pos h, xor8_comm]
    rfl
  · have hl := keyOf64_length k
    rw [List.getElem?_append_right (by omega), List.getElem?_replicate, if_pos (by omega), dif_neg h]
    simp
end Go.Proofs.YtjkcdnangmjoeaaDoor
