/-
  What is proved here: plain laws of layer 8: the order of texts and of entries, an inner key's bytes and what they lead back to, short keys between. No program in sight. No condition.
-/
import Derived.Test.YtoccmedadiangaaEnt
import Derived.Test.YtoccmedadiangaaReaderLaw
namespace Go.Proofs.Ytoccmedadiangaa

abbrev ltB (a b : List UInt8) : Bool := Op.bytesLess a b
theorem ltB_irr : ∀ a : List UInt8, ltB a a = false
  | [] => rfl
  | x :: a => by
    have h : ¬ x < x := by rw [UInt8.lt_iff_toNat_lt]; omega
    simp [Op.bytesLess, h, ltB_irr a]
theorem ltB_asymm : ∀ a b : List UInt8, ltB a b = true → ltB b a = false
  | _, [], h => by simp [Op.bytesLess] at h
  | [], _ :: _, _ => rfl
  | x :: a, y :: b, h => by
    simp only [ltB, Op.bytesLess, Bool.or_eq_true, decide_eq_true_eq, Bool.and_eq_true, beq_iff_eq, UInt8.lt_iff_toNat_lt] at h
    rcases h with h | ⟨rfl, h⟩
    · have h1 : ¬ y < x := by rw [UInt8.lt_iff_toNat_lt]; omega
      have h2 : ¬ y = x := by intro e; subst e; omega
      simp [Op.bytesLess, h1, h2]
    · have h1 : ¬ x < x := by rw [UInt8.lt_iff_toNat_lt]; omega
      have := ltB_asymm a b h
      simp only [ltB] at this
      simp [Op.bytesLess, h1, this]
theorem ltB_tri : ∀ a b : List UInt8, ltB a b = false → ltB b a = false → a = b
  | [], [], _, _ => rfl
  | [], _ :: _, h, _ => by simp [Op.bytesLess] at h
  | _ :: _, [], _, h => by simp [Op.bytesLess] at h
  | x :: a, y :: b, h1, h2 => by
    simp only [ltB, Op.bytesLess, Bool.or_eq_false_iff, decide_eq_false_iff_not, UInt8.lt_iff_toNat_lt] at h1 h2
    have e : x = y := by apply UInt8.toNat_inj.1; omega
    subst e
    simp only [BEq.rfl, Bool.true_and] at h1 h2
    rw [ltB_tri a b h1.2 h2.2]
theorem ltB_trans : ∀ a b c : List UInt8, ltB a b = true → ltB b c = true → ltB a c = true
  | _, [], _, h, _ => by simp [Op.bytesLess] at h
  | _, _ :: _, [], _, h => by simp [Op.bytesLess] at h
  | [], _ :: _, _ :: _, _, _ => rfl
  | x :: a, y :: b, z :: c, h1, h2 => by
    simp only [ltB, Op.bytesLess, Bool.or_eq_true, decide_eq_true_eq, Bool.and_eq_true, beq_iff_eq, UInt8.lt_iff_toNat_lt] at h1 h2 ⊢
    rcases h1 with h1 | ⟨rfl, h1⟩
    · rcases h2 with h2 | ⟨rfl, h2⟩
      · left; omega
      · left; omega
    · rcases h2 with h2 | ⟨rfl, h2⟩
      · left; omega
      · right; exact ⟨rfl, ltB_trans a b c h1 h2⟩
/-- which inner key stands ahead -/
def cmpE (a b : Ent) : Int :=
  if ltB a.user.toList b.user.toList then -1 else if ltB b.user.toList a.user.toList then 1 else
  if b.seq.toNat < a.seq.toNat then -1 else if a.seq.toNat < b.seq.toNat then 1 else
  if b.kind.toNat < a.kind.toNat then -1 else if a.kind.toNat < b.kind.toNat then 1 else 0
/-- does an entry stand ahead, by text and moment? -/
def aheadE (a b : Ent) : Bool := ltB a.user.toList b.user.toList || (a.user.toList == b.user.toList && decide (b.seq.toNat < a.seq.toNat))
/-- each ahead of the next one -/
def risesE : List Ent → Bool
  | [] => true
  | [_] => true
  | a :: b :: l => aheadE a b && risesE (b :: l)
/-- an inner key's bytes -/
def layE (e : Ent) : List UInt8 := e.user.data.toList ++ fix ((e.seq.toNat * 256 + e.kind.toNat) % 18446744073709551616) 8
/-- the entry whose inner key a text is -/
def takeE (s : List UInt8) : Ent := ⟨⟨(s.take (s.length - 8)).toArray⟩, UInt64.ofNat (leN (s.drop (s.length - 8)) / 256), UInt8.ofNat (leN (s.drop (s.length - 8)) % 256), ⟨#[]⟩⟩
/-- is a text an inner key? -/
def isKey (s : List UInt8) : Bool := decide (8 ≤ s.length) && rightE (takeE s)
/-- where two texts part -/
def partAt : List UInt8 → List UInt8 → Nat
  | x :: a, y :: b => if x = y then partAt a b + 1 else 0
  | _, _ => 0
theorem partAt_le : ∀ a b, partAt a b ≤ a.length ∧ partAt a b ≤ b.length
  | [], [] => by simp [partAt]
  | [], _ :: _ => by simp [partAt]
  | _ :: _, [] => by simp [partAt]
  | x :: a, y :: b => by
    rw [partAt]
    have := partAt_le a b
    split
    · simp; omega
    · simp
/-- the least place that is not 255 -/
def lowAt : List UInt8 → Nat
  | [] => 0
  | x :: a => if x.toNat = 255 then lowAt a + 1 else 0
/-- a text up to a place, with a greater byte there -/
def raise (a : List UInt8) (k : Nat) : List UInt8 := a.take k ++ [UInt8.ofNat ((a[k]?.getD 0).toNat + 1)]
def between (a b : List UInt8) : List UInt8 :=
  if partAt a b < a.length ∧ partAt a b < b.length ∧ (a[partAt a b]?.getD 0).toNat + 2 ≤ (b[partAt a b]?.getD 0).toNat then raise a (partAt a b) else a
def after (a : List UInt8) : List UInt8 := if lowAt a < a.length then raise a (lowAt a) else a
/-- two texts that are not less and not the same: the other one is less -/
theorem ltB_gt {a b : List UInt8} (h1 : ltB a b = false) (h2 : (!(a == b)) = true) : ltB b a = true := by
  cases h : ltB b a with
  | true => rfl
  | false =>
    rw [ltB_tri a b h1 h] at h2
    simp at h2
theorem ltB_same {a b : List UInt8} (h2 : (!(a == b)) = false) : ltB a b = false ∧ ltB b a = false := by
  have : a = b := by simpa using h2
  subst this
  exact ⟨ltB_irr a, ltB_irr a⟩
theorem cmpE_1 {a b : Ent} (h1 : Op.bytesLess a.user.toList b.user.toList = true) : cmpE a b = -1 := by unfold cmpE; rw [if_pos h1]
theorem cmpE_2 {a b : Ent} (h1 : Op.bytesLess a.user.toList b.user.toList = false) (h2 : (!(a.user.toList == b.user.toList)) = true) : cmpE a b = 1 := by
  unfold cmpE; rw [if_neg (by simpa using h1), if_pos (ltB_gt h1 h2)]
theorem cmpE_3 {a b : Ent} (h2 : (!(a.user.toList == b.user.toList)) = false) (h3 : b.seq.toNat < a.seq.toNat) : cmpE a b = -1 := by
  have h := ltB_same h2
  unfold cmpE; rw [if_neg (by simp [h.1]), if_neg (by simp [h.2]), if_pos h3]
theorem cmpE_4 {a b : Ent} (h2 : (!(a.user.toList == b.user.toList)) = false) (h3 : ((a.seq.toNat : Int) != (b.seq.toNat : Int)) = true) (h4 : ¬ b.seq.toNat < a.seq.toNat) : cmpE a b = 1 := by
  have h := ltB_same h2
  rw [bne_iff_ne] at h3
  unfold cmpE; rw [if_neg (by simp [h.1]), if_neg (by simp [h.2]), if_neg h4, if_pos (by omega)]
theorem cmpE_5 {a b : Ent} (h2 : (!(a.user.toList == b.user.toList)) = false) (h3 : ((a.seq.toNat : Int) != (b.seq.toNat : Int)) = false) (h4 : b.kind.toNat < a.kind.toNat) : cmpE a b = -1 := by
  have h := ltB_same h2
  rw [bne_eq_false_iff_eq] at h3
  unfold cmpE; rw [if_neg (by simp [h.1]), if_neg (by simp [h.2]), if_neg (by omega), if_neg (by omega), if_pos h4]
theorem cmpE_6 {a b : Ent} (h2 : (!(a.user.toList == b.user.toList)) = false) (h3 : ((a.seq.toNat : Int) != (b.seq.toNat : Int)) = false) (h5 : ((a.kind.toNat : Int) != (b.kind.toNat : Int)) = true) (h4 : ¬ b.kind.toNat < a.kind.toNat) : cmpE a b = 1 := by
  have h := ltB_same h2
  rw [bne_eq_false_iff_eq] at h3
  rw [bne_iff_ne] at h5
  unfold cmpE; rw [if_neg (by simp [h.1]), if_neg (by simp [h.2]), if_neg (by omega), if_neg (by omega), if_neg h4, if_pos (by omega)]
theorem cmpE_7 {a b : Ent} (h2 : (!(a.user.toList == b.user.toList)) = false) (h3 : ((a.seq.toNat : Int) != (b.seq.toNat : Int)) = false) (h5 : ((a.kind.toNat : Int) != (b.kind.toNat : Int)) = false) : cmpE a b = 0 := by
  have h := ltB_same h2
  rw [bne_eq_false_iff_eq] at h3 h5
  unfold cmpE; rw [if_neg (by simp [h.1]), if_neg (by simp [h.2]), if_neg (by omega), if_neg (by omega), if_neg (by omega), if_neg (by omega)]
end Go.Proofs.Ytoccmedadiangaa
