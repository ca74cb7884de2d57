/-
  What is proved here: plain laws of the reference's way to take a number: first how many groups go on, then from the last to the first. No program in sight. No condition.
-/
import Derived.Test.YtoccmedadiangaaReaderLaw
namespace Go.Proofs.Ytoccmedadiangaa

/-- groups of seven bits, least first -/
def le128 : List UInt8 → Nat
  | [] => 0
  | x :: r => x.toNat % 128 + 128 * le128 r
theorem le128_append (l m : List UInt8) : le128 (l ++ m) = le128 l + 128 ^ l.length * le128 m := by
  induction l with
  | nil => simp [le128]
  | cons x r ih => rw [List.cons_append, le128, le128, ih, List.length_cons, Nat.pow_succ, Nat.mul_add, ← Nat.mul_assoc, Nat.mul_comm 128 (128 ^ r.length), Nat.add_assoc]
theorem le128_lt (l : List UInt8) : le128 l < 128 ^ l.length := by
  induction l with
  | nil => simp [le128]
  | cons x r ih => rw [le128, List.length_cons, Nat.pow_succ]; omega
theorem le128_take (l : List UInt8) (k : Nat) (h : k < l.length) : le128 (l.take (k + 1)) = le128 (l.take k) + l[k].toNat % 128 * 128 ^ k := by
  have e : l.take (k + 1) = l.take k ++ [l[k]] := by simp
  rw [e, le128_append]
  simp [le128, Nat.min_eq_left (Nat.le_of_lt h), Nat.mul_comm]
/-- how the number stands behind k groups that go on -/
theorem number_lead (l : List UInt8) : ∀ k, k ≤ 9 → k ≤ l.length → (∀ j (hj : j < l.length), j < k → 128 ≤ l[j].toNat) → numG k (le128 (l.take k)) (l.drop k) = number l := by
  intro k
  induction k with
  | zero => intro _ _ _; simp [le128, number]
  | succ k ih =>
    intro hk hl h
    have h1 := ih (by omega) (by omega) (fun j hj hjk => h j hj (by omega))
    have hx := h k (by omega) (by omega)
    rw [← h1, List.drop_eq_getElem_cons (show k < l.length by omega), numG, if_neg (by omega), if_neg (by omega), le128_take l k (by omega)]
/-- ten groups that go on are no number -/
theorem number_ten (l : List UInt8) (hl : 10 ≤ l.length) (h : ∀ j (hj : j < l.length), j < 10 → 128 ≤ l[j].toNat) : number l = (0, 0, 11) := by
  rw [← number_lead l 9 (by omega) (by omega) (fun j hj hjk => h j hj (by omega)), List.drop_eq_getElem_cons (show 9 < l.length by omega), numG]
  have := h 9 (by omega) (by omega)
  rw [if_pos ⟨rfl, by omega⟩]
/-- bytes that end while groups go on are too short -/
theorem number_ends (l : List UInt8) (k : Nat) (hk : k ≤ 9) (hl : k = l.length) (h : ∀ j (hj : j < l.length), j < k → 128 ≤ l[j].toNat) : number l = (0, 0, 10) := by
  rw [← number_lead l k hk (by omega) h, List.drop_eq_nil_of_le (by omega)]
  rfl
/-- the last group -/
theorem number_last (l : List UInt8) (k : Nat) (hk : k ≤ 9) (hl : k < l.length) (h : ∀ j (hj : j < l.length), j < k → 128 ≤ l[j].toNat) (hx : l[k].toNat < 128) :
    number l = if (k = 9 ∧ 1 < l[k].toNat) ∨ (0 < k ∧ l[k].toNat = 0) then (0, 0, 11) else (le128 (l.take k) + l[k].toNat * 128 ^ k, k + 1, 0) := by
  rw [← number_lead l k hk (by omega) h, List.drop_eq_getElem_cons hl, numG]
  by_cases h1 : k = 9 ∧ 1 < l[k].toNat
  · rw [if_pos h1, if_pos (.inl h1)]
  · rw [if_neg h1, if_pos hx]
    by_cases h2 : 0 < k ∧ l[k].toNat = 0
    · rw [if_pos h2, if_pos (.inr h2)]
    · rw [if_neg h2, if_neg (by omega), Nat.mod_eq_of_lt hx]
/-- the sum stays below 2 to the 64 -/
theorem last_lt (l : List UInt8) (k : Nat) (hk : k ≤ 9) (hl : k < l.length) (hx : l[k].toNat < 128) (h9 : ¬ (k = 9 ∧ 1 < l[k].toNat)) : le128 (l.take k) + l[k].toNat * 128 ^ k < 18446744073709551616 := by
  have h1 := le128_lt (l.take k)
  rw [List.length_take, Nat.min_eq_left (by omega)] at h1
  rcases Nat.lt_or_ge k 9 with h | h
  · have h2 : l[k].toNat * 128 ^ k ≤ 127 * 128 ^ k := Nat.mul_le_mul_right _ (by omega)
    have h3 : 128 ^ (k + 1) ≤ 128 ^ 9 := Nat.pow_le_pow_right (by omega) (by omega)
    rw [Nat.pow_succ, pow128_9] at h3
    omega
  · have e : k = 9 := by omega
    subst e
    have h2 : l[9].toNat * 128 ^ 9 ≤ 1 * 128 ^ 9 := Nat.mul_le_mul_right _ (by omega)
    rw [pow128_9] at h1 h2 ⊢
    omega
/-- what is gathered from the last group down to group j -/
def acc128 (l : List UInt8) (x j : Nat) : Nat := le128 (l.drop j) + x * 128 ^ (l.length - j)
theorem acc128_step (l : List UInt8) (x j : Nat) (h : j < l.length) : acc128 l x j = acc128 l x (j + 1) * 128 + l[j].toNat % 128 := by
  unfold acc128
  rw [List.drop_eq_getElem_cons h, le128, show l.length - j = (l.length - (j + 1)) + 1 from by omega, Nat.pow_succ, ← Nat.mul_assoc]
  omega
theorem acc128_top (l : List UInt8) (x : Nat) : acc128 l x l.length = x := by simp [acc128, le128]
theorem acc128_le (l : List UInt8) (x j : Nat) (h : j ≤ l.length) : acc128 l x j ≤ le128 l + x * 128 ^ l.length := by
  have h1 : le128 l = le128 (l.take j) + 128 ^ j * le128 (l.drop j) := by
    have := le128_append (l.take j) (l.drop j)
    rw [List.take_append_drop, List.length_take, Nat.min_eq_left h] at this
    exact this
  have h2 : 128 ^ l.length = 128 ^ j * 128 ^ (l.length - j) := by rw [← Nat.pow_add]; congr 1; omega
  have h3 : 1 ≤ 128 ^ j := Nat.one_le_pow _ _ (by omega)
  unfold acc128
  rw [h1, h2]
  have h4 : le128 (l.drop j) ≤ 128 ^ j * le128 (l.drop j) := Nat.le_mul_of_pos_left _ h3
  have h5 : x * 128 ^ (l.length - j) ≤ x * (128 ^ j * 128 ^ (l.length - j)) := Nat.mul_le_mul_left _ (Nat.le_mul_of_pos_left _ h3)
  omega
end Go.Proofs.Ytoccmedadiangaa
