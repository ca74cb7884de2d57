/-
  What is proved here (plain law): the digest of bytes under a key, the bytes that are made of a key. No program in sight.
-/
import Derived.Test.YtjkcdnangmjoeaaDoorShaLaw2
namespace Go.Proofs.YtjkcdnangmjoeaaDoor

/-- a key as it is mixed in -/
def keyOf64 (k : List UInt8) : List UInt8 := if 64 < k.length then shaOf k else k
def padK (k : List UInt8) : List UInt8 := keyOf64 k ++ List.replicate (64 - (keyOf64 k).length) 0
def xorL (by_ : UInt8) (l : List UInt8) : List UInt8 := l.map (fun x => x ^^^ by_)
/-- the digest of bytes under a key -/
def macOf (k b : List UInt8) : List UInt8 := shaOf (xorL 92 (padK k) ++ shaOf (xorL 54 (padK k) ++ b))
theorem macOf_length (k b : List UInt8) : (macOf k b).length = 32 := shaOf_length _
theorem keyOf64_length (k : List UInt8) : (keyOf64 k).length ≤ 64 := by
  unfold keyOf64
  split
  · rw [shaOf_length]; omega
  · omega
theorem padK_length (k : List UInt8) : (padK k).length = 64 := by
  have := keyOf64_length k
  unfold padK
  rw [List.length_append, List.length_replicate]
  omega
theorem xorL_length (x : UInt8) (l : List UInt8) : (xorL x l).length = l.length := by simp [xorL]
theorem padK_zeros (k : List UInt8) (h : k.length ≤ 64) : padK (k ++ List.replicate (64 - k.length) 0) = padK k := by
  have h1 : keyOf64 k = k := by unfold keyOf64; rw [if_neg (by omega)]
  have h2 : (k ++ List.replicate (64 - k.length) (0 : UInt8)).length = 64 := by rw [List.length_append, List.length_replicate]; omega
  have h3 : keyOf64 (k ++ List.replicate (64 - k.length) 0) = k ++ List.replicate (64 - k.length) 0 := by unfold keyOf64; rw [if_neg (by omega)]
  unfold padK
  rw [h3, h2, h1]
  simp
theorem macOf_zeros (k b : List UInt8) (h : k.length ≤ 64) : macOf (k ++ List.replicate (64 - k.length) 0) b = macOf k b := by
  unfold macOf; rw [padK_zeros k h]
theorem macOf_long (k b : List UInt8) (h : 64 < k.length) : macOf (shaOf k) b = macOf k b := by
  have h1 : keyOf64 k = shaOf k := by unfold keyOf64; rw [if_pos h]
  have h2 : keyOf64 (shaOf k) = shaOf k := by unfold keyOf64; rw [if_neg (by rw [shaOf_length]; omega)]
  unfold macOf padK
  rw [h1, h2]
/-- the n-th piece of the bytes that are made of a key -/
def expT (k u : List UInt8) : Nat → List UInt8
  | 0 => []
  | n + 1 => macOf k (expT k u n ++ u ++ [UInt8.ofNat (n + 1)])
def expAll (k u : List UInt8) : Nat → List UInt8
  | 0 => []
  | n + 1 => expAll k u n ++ expT k u (n + 1)
theorem expT_length (k u : List UInt8) (n : Nat) : (expT k u (n + 1)).length = 32 := macOf_length _ _
theorem expAll_length (k u : List UInt8) : ∀ n, (expAll k u n).length = 32 * n
  | 0 => rfl
  | n + 1 => by rw [expAll, List.length_append, expAll_length k u n, expT_length]; omega
/-- how many pieces n bytes take -/
def pieces (n : Nat) : Nat := (n + 31) / 32
def expand (k u : List UInt8) (n : Nat) : List UInt8 := (expAll k u (pieces n)).take n
theorem expand_length (k u : List UInt8) (n : Nat) : (expand k u n).length = n := by
  unfold expand
  rw [List.length_take, expAll_length]
  unfold pieces
  omega
theorem expAll_prefix (k u : List UInt8) (a : Nat) : ∀ d, ∃ r, expAll k u (a + d) = expAll k u a ++ r
  | 0 => ⟨[], by simp⟩
  | d + 1 => by
    obtain ⟨r, h⟩ := expAll_prefix k u a d
    exact ⟨r ++ expT k u (a + d + 1), by rw [← Nat.add_assoc, expAll, h, List.append_assoc]⟩
/-- less bytes are the beginning of more -/
theorem expand_prefix (k u : List UInt8) (m n : Nat) (h : m ≤ n) : (expand k u n).take m = expand k u m := by
  unfold expand
  rw [List.take_take, Nat.min_eq_left h]
  obtain ⟨r, e⟩ := expAll_prefix k u (pieces m) (pieces n - pieces m)
  rw [show pieces m + (pieces n - pieces m) = pieces n by unfold pieces; omega] at e
  rw [e]
  exact List.take_append_of_le_length (by rw [expAll_length]; unfold pieces; omega)
theorem expT_last (k u : List UInt8) (n : Nat) : (expAll k u n).drop (32 * n - 32) = expT k u n := by
  cases n with
  | zero => rfl
  | succ n =>
    rw [expAll]
    have h := expAll_length k u n
    rw [show 32 * (n + 1) - 32 = (expAll k u n).length by rw [h]; omega, List.drop_left]
theorem shown_mac : (macOf [107, 101, 121] [84, 104, 101, 32, 113, 117, 105, 99, 107, 32, 98, 114, 111, 119, 110, 32, 102, 111, 120, 32, 106, 117, 109, 112, 115, 32, 111, 118, 101, 114, 32, 116, 104, 101, 32, 108, 97, 122, 121, 32, 100, 111, 103]).take 8 = [247, 188, 131, 244, 48, 83, 132, 36] := by decide +kernel
end Go.Proofs.YtjkcdnangmjoeaaDoor
