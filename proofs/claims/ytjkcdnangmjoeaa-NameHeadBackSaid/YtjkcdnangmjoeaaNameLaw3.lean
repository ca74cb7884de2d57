/-
  What is proved here (plain law): a head's bytes, the head that stands ahead of bytes, a place's nonce: heads lead back from their bytes, unlike ones have unlike bytes, unlike places unlike nonces. No program in sight.
-/
import Derived.Test.YtjkcdnangmjoeaaReaderLaw
namespace Go.Proofs.Ytjkcdnangmjoeaa

/-- a head: kind, level, generation, opening, number -/
structure Hd where
  k : Nat
  lv : Nat
  g : Nat
  e : Nat
  n : Nat
deriving DecidableEq
def Hd.ok (h : Hd) : Prop := h.k < 256 ∧ h.lv < 256 ∧ h.g < 18446744073709551616 ∧ h.e < 18446744073709551616 ∧ h.n < 18446744073709551616
def hd0 : Hd := ⟨0, 0, 0, 0, 0⟩
theorem hd0_ok : hd0.ok := by unfold Hd.ok hd0; simp
/-- a head that may be -/
def rightH (h : Hd) : Bool := if h.k = 2 then decide (h.lv < 5) else decide ((h.k = 1 ∨ h.k = 3) ∧ h.lv = 0 ∧ h.g = 0)
def sTant : List UInt8 := [116, 97, 110, 116]
/-- a head's bytes -/
def layH (h : Hd) : List UInt8 := sTant ++ [UInt8.ofNat h.k, UInt8.ofNat h.lv] ++ fix h.g 8 ++ fix h.e 8 ++ fix h.n 8
theorem layH_len (h : Hd) : (layH h).length = 30 := by simp [layH, sTant, fix_length]
/-- what bytes say of a head, right or not -/
def readH (l : List UInt8) : Hd := ⟨(l.getD 4 0).toNat, (l.getD 5 0).toNat, leN ((l.drop 6).take 8), leN ((l.drop 14).take 8), leN ((l.drop 22).take 8)⟩
theorem leN_take8 (l : List UInt8) : leN (l.take 8) < 18446744073709551616 := by
  have h := leN_lt (l.take 8)
  have h2 : (l.take 8).length ≤ 8 := by rw [List.length_take]; omega
  have h3 : 256 ^ (l.take 8).length ≤ 256 ^ 8 := Nat.pow_le_pow_right (by omega) h2
  have h4 : (256 : Nat) ^ 8 = 18446744073709551616 := by decide
  omega
theorem readH_ok (l : List UInt8) : (readH l).ok := ⟨UInt8.toNat_lt _, UInt8.toNat_lt _, leN_take8 _, leN_take8 _, leN_take8 _⟩
/-- the head that stands ahead of bytes, or its fault -/
def takeH (l : List UInt8) : Hd × Nat :=
  if l.length < 30 then (hd0, 10) else if l.take 4 = sTant ∧ rightH (readH l) = true then (readH l, 0) else (hd0, 70)
theorem takeH_ok (l : List UInt8) : (takeH l).1.ok := by
  unfold takeH
  split
  · exact hd0_ok
  · split
    · exact readH_ok l
    · exact hd0_ok
theorem fix_take8 (l : List UInt8) (h : 8 ≤ l.length) : fix (leN (l.take 8)) 8 = l.take 8 := by
  have h2 : (l.take 8).length = 8 := by rw [List.length_take]; omega
  have := fix_leN (l.take 8)
  rwa [h2] at this
/-- bytes are what their head is laid as, but for the word ahead -/
theorem layH_readH (l : List UInt8) (h : 30 ≤ l.length) : layH (readH l) = sTant ++ (l.drop 4).take 26 := by
  unfold layH readH
  rw [fix_take8 _ (by rw [List.length_drop]; omega), fix_take8 _ (by rw [List.length_drop]; omega), fix_take8 _ (by rw [List.length_drop]; omega)]
  simp only [UInt8.ofNat_toNat, List.append_assoc, List.append_cancel_left_eq]
  have e1 : (l.drop 4).take 26 = l.getD 4 0 :: l.getD 5 0 :: ((l.drop 6).take 24) := by
    rw [List.drop_eq_getElem_cons (by omega : 4 < l.length), List.drop_eq_getElem_cons (by omega : 4 + 1 < l.length), show (26 : Nat) = 24 + 1 + 1 from rfl, List.take_succ_cons, List.take_succ_cons]
    simp [List.getD_eq_getElem?_getD, List.getElem?_eq_getElem (by omega : 4 < l.length), List.getElem?_eq_getElem (by omega : 5 < l.length)]
  have e2 : (l.drop 6).take 24 = (l.drop 6).take 8 ++ ((l.drop 14).take 8 ++ (l.drop 22).take 8) := by
    rw [show (24 : Nat) = 8 + 16 from rfl, List.take_add, List.drop_drop, show (16 : Nat) = 8 + 8 from rfl, List.take_add, List.drop_drop]
  rw [e1, e2]
  rfl
/-- the reference's question -/
theorem lay_iff (l : List UInt8) (h : 30 ≤ l.length) : layH (readH l) = l.take 30 ↔ l.take 4 = sTant := by
  rw [layH_readH l h, show (30 : Nat) = 4 + 26 from rfl, List.take_add]
  constructor
  · intro e
    have h := congrArg (List.take 4) e
    rw [List.take_left' (show (List.take 4 l).length = 4 by rw [List.length_take]; omega)] at h
    exact h.symm
  · intro e
    rw [e]
theorem takeH_ref (l : List UInt8) (h : 30 ≤ l.length) : takeH l = if rightH (readH l) = true ∧ layH (readH l) = l.take 30 then (readH l, 0) else (hd0, 70) := by
  unfold takeH
  rw [if_neg (by omega)]
  by_cases h1 : l.take 4 = sTant
  · by_cases h2 : rightH (readH l) = true
    · rw [if_pos ⟨h1, h2⟩, if_pos ⟨h2, (lay_iff l h).2 h1⟩]
    · rw [if_neg (fun x => h2 x.2), if_neg (fun x => h2 x.1)]
  · rw [if_neg (fun x => h1 x.1), if_neg (fun x => h1 ((lay_iff l h).1 x.2))]
theorem layH_split (h : Hd) (r : List UInt8) : layH h ++ r = sTant ++ (UInt8.ofNat h.k :: UInt8.ofNat h.lv :: (fix h.g 8 ++ (fix h.e 8 ++ (fix h.n 8 ++ r)))) := by
  simp [layH]
theorem take_fix (n : Nat) (r : List UInt8) (h : n < 18446744073709551616) : leN ((fix n 8 ++ r).take 8) = n := by
  rw [List.take_left' (fix_length 8 n), leN_fix8 n h]
/-- a head leads back from its bytes, whatever stands behind -/
theorem readH_lay (h : Hd) (r : List UInt8) (ok : h.ok) : readH (layH h ++ r) = h := by
  obtain ⟨h1, h2, h3, h4, h5⟩ := ok
  obtain ⟨k, lv, g, e, n⟩ := h
  rw [layH_split]
  unfold readH
  have d6 : (sTant ++ (UInt8.ofNat k :: UInt8.ofNat lv :: (fix g 8 ++ (fix e 8 ++ (fix n 8 ++ r))))).drop 6 = fix g 8 ++ (fix e 8 ++ (fix n 8 ++ r)) := rfl
  have d14 : (sTant ++ (UInt8.ofNat k :: UInt8.ofNat lv :: (fix g 8 ++ (fix e 8 ++ (fix n 8 ++ r))))).drop 14 = fix e 8 ++ (fix n 8 ++ r) := by
    rw [show (14 : Nat) = 6 + 8 from rfl, ← List.drop_drop, d6, List.drop_left' (fix_length 8 g)]
  have d22 : (sTant ++ (UInt8.ofNat k :: UInt8.ofNat lv :: (fix g 8 ++ (fix e 8 ++ (fix n 8 ++ r))))).drop 22 = fix n 8 ++ r := by
    rw [show (22 : Nat) = 14 + 8 from rfl, ← List.drop_drop, d14, List.drop_left' (fix_length 8 e)]
  show Hd.mk (UInt8.ofNat k).toNat (UInt8.ofNat lv).toNat _ _ _ = _
  rw [d6, d14, d22, take_fix g _ h3, take_fix e _ h4, take_fix n _ h5, ofNat_small k h1, ofNat_small lv h2]
theorem takeH_lay (h : Hd) (r : List UInt8) (ok : h.ok) : takeH (layH h ++ r) = if rightH h = true then (h, 0) else (hd0, 70) := by
  unfold takeH
  have hl := layH_len h
  rw [if_neg (by rw [List.length_append]; omega), readH_lay h r ok]
  have e4 : (layH h ++ r).take 4 = sTant := by rw [layH_split]; rfl
  simp only [e4, true_and]
theorem layH_inj (h i : Hd) (hh : h.ok) (hi : i.ok) : layH h = layH i ↔ h = i := by
  constructor
  · intro e
    have h1 := readH_lay h [] hh
    rw [e, readH_lay i [] hi] at h1
    exact h1.symm
  · intro e; rw [e]
/-- a place's nonce -/
def nonceOf (p : Nat) : List UInt8 := fix p 8 ++ [0, 0, 0, 0]
theorem nonce_len (p : Nat) : (nonceOf p).length = 12 := by simp [nonceOf, fix_length]
theorem nonce_inj (a b : Nat) (ha : a < 18446744073709551616) (hb : b < 18446744073709551616) : nonceOf a = nonceOf b ↔ a = b := by
  constructor
  · intro e
    have h := congrArg (fun l => leN (l.take 8)) e
    simp only [nonceOf] at h
    rwa [take_fix a _ ha, take_fix b _ hb] at h
  · intro e; rw [e]
end Go.Proofs.Ytjkcdnangmjoeaa
