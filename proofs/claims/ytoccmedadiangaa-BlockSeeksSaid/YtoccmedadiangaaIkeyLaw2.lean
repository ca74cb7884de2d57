/-
  What is proved here: plain laws of layer 8: that the order is one; that short keys lie between; that an inner key leads back to its entry. No program in sight. No condition.
-/
import Derived.Test.YtoccmedadiangaaIkeyLaw
namespace Go.Proofs.Ytoccmedadiangaa

/-- an entry stands ahead of another one -/
def Stands (a b : Ent) : Prop := ltB a.user.toList b.user.toList = true ∨ (a.user.toList = b.user.toList ∧ (b.seq.toNat < a.seq.toNat ∨ (b.seq.toNat = a.seq.toNat ∧ b.kind.toNat < a.kind.toNat)))
def Alike (a b : Ent) : Prop := a.user.toList = b.user.toList ∧ a.seq.toNat = b.seq.toNat ∧ a.kind.toNat = b.kind.toNat
theorem cmp_ways (a b : Ent) : (cmpE a b = -1 ∧ Stands a b) ∨ (cmpE a b = 1 ∧ Stands b a) ∨ (cmpE a b = 0 ∧ Alike a b) := by
  unfold cmpE
  by_cases h1 : ltB a.user.toList b.user.toList = true
  · left; rw [if_pos h1]; exact ⟨rfl, .inl h1⟩
  · rw [if_neg h1]
    by_cases h2 : ltB b.user.toList a.user.toList = true
    · right; left; rw [if_pos h2]; exact ⟨rfl, .inl h2⟩
    · rw [if_neg h2]
      have e : a.user.toList = b.user.toList := ltB_tri _ _ (by simpa using h1) (by simpa using h2)
      by_cases h3 : b.seq.toNat < a.seq.toNat
      · left; rw [if_pos h3]; exact ⟨rfl, .inr ⟨e, .inl h3⟩⟩
      · rw [if_neg h3]
        by_cases h4 : a.seq.toNat < b.seq.toNat
        · right; left; rw [if_pos h4]; exact ⟨rfl, .inr ⟨e.symm, .inl h4⟩⟩
        · rw [if_neg h4]
          by_cases h5 : b.kind.toNat < a.kind.toNat
          · left; rw [if_pos h5]; exact ⟨rfl, .inr ⟨e, .inr ⟨by omega, h5⟩⟩⟩
          · rw [if_neg h5]
            by_cases h6 : a.kind.toNat < b.kind.toNat
            · right; left; rw [if_pos h6]; exact ⟨rfl, .inr ⟨e.symm, .inr ⟨by omega, h6⟩⟩⟩
            · right; right; rw [if_neg h6]; exact ⟨rfl, e, by omega, by omega⟩
theorem stands_not {a b : Ent} (h : Stands a b) (h' : Stands b a) : False := by
  rcases h with h | ⟨e, h⟩
  · rcases h' with h' | ⟨e', _⟩
    · rw [ltB_asymm _ _ h] at h'; cases h'
    · rw [e', ltB_irr] at h; cases h
  · rcases h' with h' | ⟨_, h'⟩
    · rw [e, ltB_irr] at h'; cases h'
    · omega
theorem stands_alike {a b : Ent} (h : Stands a b) (h' : Alike a b) : False := by
  obtain ⟨e, e1, e2⟩ := h'
  rcases h with h | ⟨_, h⟩
  · rw [e, ltB_irr] at h; cases h
  · omega
theorem stands_trans {a b c : Ent} (h : Stands a b) (h' : Stands b c) : Stands a c := by
  rcases h with h | ⟨e, h⟩
  · rcases h' with h' | ⟨e', _⟩
    · exact .inl (ltB_trans _ _ _ h h')
    · exact .inl (by rw [← e']; exact h)
  · rcases h' with h' | ⟨e', h'⟩
    · exact .inl (by rw [e]; exact h')
    · exact .inr ⟨e.trans e', by omega⟩
theorem alike_stands {a b c : Ent} (h : Alike a b) (h' : Stands b c) : Stands a c := by
  obtain ⟨e, e1, e2⟩ := h
  rcases h' with h' | ⟨e', h'⟩
  · exact .inl (by rw [e]; exact h')
  · exact .inr ⟨e.trans e', by omega⟩
theorem stands_alike_r {a b c : Ent} (h : Stands a b) (h' : Alike b c) : Stands a c := by
  obtain ⟨e, e1, e2⟩ := h'
  rcases h with h | ⟨e', h⟩
  · exact .inl (by rw [← e]; exact h)
  · exact .inr ⟨e'.trans e, by omega⟩
theorem alike_symm {a b : Ent} (h : Alike a b) : Alike b a := ⟨h.1.symm, h.2.1.symm, h.2.2.symm⟩
theorem cmp_bound (a b : Ent) : -1 ≤ cmpE a b ∧ cmpE a b ≤ 1 := by rcases cmp_ways a b with ⟨h, _⟩ | ⟨h, _⟩ | ⟨h, _⟩ <;> omega
theorem cmp_neg (a b : Ent) : cmpE b a = - cmpE a b := by
  rcases cmp_ways a b with ⟨h, s⟩ | ⟨h, s⟩ | ⟨h, s⟩ <;> rcases cmp_ways b a with ⟨k, t⟩ | ⟨k, t⟩ | ⟨k, t⟩ <;> first | omega | (exfalso; first | exact stands_not s t | exact stands_alike s (alike_symm t) | exact stands_alike t (alike_symm s) | exact stands_alike s t | exact stands_alike t s)
theorem cmp_self (a : Ent) : cmpE a a = 0 := by
  rcases cmp_ways a a with ⟨h, s⟩ | ⟨h, s⟩ | ⟨h, s⟩
  · exact (stands_not s s).elim
  · exact (stands_not s s).elim
  · exact h
theorem cmp_zero (a b : Ent) : cmpE a b = 0 ↔ Alike a b := by
  rcases cmp_ways a b with ⟨h, s⟩ | ⟨h, s⟩ | ⟨h, s⟩
  · exact ⟨fun e => by omega, fun e => (stands_alike s e).elim⟩
  · exact ⟨fun e => by omega, fun e => (stands_alike s (alike_symm e)).elim⟩
  · exact ⟨fun _ => s, fun _ => h⟩
theorem cmp_lt (a b : Ent) : cmpE a b < 0 ↔ Stands a b := by
  rcases cmp_ways a b with ⟨h, s⟩ | ⟨h, s⟩ | ⟨h, s⟩
  · exact ⟨fun _ => s, fun _ => by omega⟩
  · exact ⟨fun e => by omega, fun e => (stands_not s e).elim⟩
  · exact ⟨fun e => by omega, fun e => (stands_alike e s).elim⟩
theorem cmp_trans (a b c : Ent) (h1 : cmpE a b ≤ 0) (h2 : cmpE b c ≤ 0) : cmpE a c ≤ 0 ∧ (cmpE a c = 0 → cmpE a b = 0 ∧ cmpE b c = 0) := by
  rcases cmp_ways a b with ⟨x1, s1⟩ | ⟨x1, s1⟩ | ⟨x1, s1⟩
  · rcases cmp_ways b c with ⟨x2, s2⟩ | ⟨x2, s2⟩ | ⟨x2, s2⟩
    · have := (cmp_lt a c).2 (stands_trans s1 s2); omega
    · omega
    · have := (cmp_lt a c).2 (stands_alike_r s1 s2); omega
  · omega
  · rcases cmp_ways b c with ⟨x2, s2⟩ | ⟨x2, s2⟩ | ⟨x2, s2⟩
    · have := (cmp_lt a c).2 (alike_stands s1 s2); omega
    · omega
    · have := (cmp_zero a c).2 ⟨s1.1.trans s2.1, s1.2.1.trans s2.2.1, s1.2.2.trans s2.2.2⟩; omega

theorem ltB_app : ∀ (p u v : List UInt8), ltB (p ++ u) (p ++ v) = ltB u v
  | [], _, _ => rfl
  | x :: p, u, v => by
    have h1 : ¬ x < x := by rw [UInt8.lt_iff_toNat_lt]; omega
    have ih := ltB_app p u v
    simp only [ltB] at ih
    simp [Op.bytesLess, h1, ih]
theorem ltB_head {x y : UInt8} (u v : List UInt8) (h : x.toNat < y.toNat) : ltB (x :: u) (y :: v) = true := by
  have : x < y := by rw [UInt8.lt_iff_toNat_lt]; exact h
  simp [Op.bytesLess, this]
theorem split_at (a : List UInt8) (k : Nat) (h : k < a.length) : a = a.take k ++ (a[k]?.getD 0) :: a.drop (k + 1) := by
  rw [List.getElem?_eq_getElem h]
  conv => lhs; rw [← List.take_append_drop k a, List.drop_eq_getElem_cons h]
  rfl
theorem raise_gt (a : List UInt8) (k : Nat) (h : k < a.length) (h2 : (a[k]?.getD 0).toNat < 255) : ltB a (raise a k) = true := by
  unfold raise
  conv => lhs; arg 1; rw [split_at a k h]
  rw [ltB_app]
  refine ltB_head _ _ ?_
  rw [UInt8.toNat_ofNat']; omega
theorem partAt_take : ∀ (a b : List UInt8), a.take (partAt a b) = b.take (partAt a b)
  | [], [] => rfl
  | [], _ :: _ => by simp [partAt]
  | _ :: _, [] => by simp [partAt]
  | x :: a, y :: b => by
    rw [partAt]
    by_cases h : x = y
    · rw [if_pos h, List.take_succ_cons, List.take_succ_cons, h, partAt_take a b]
    · rw [if_neg h]; rfl
theorem not_ltB_of {a b : List UInt8} (h : ltB a b = true) : ltB b a = false := ltB_asymm a b h
theorem between_ge (a b : List UInt8) : ltB (between a b) a = false := by
  unfold between
  split
  · rename_i h
    exact not_ltB_of (raise_gt a _ h.1 (by have := u8_lt (b[partAt a b]?.getD 0); omega))
  · exact ltB_irr a
theorem between_lt {a b : List UInt8} (hab : ltB a b = true) : ltB (between a b) b = true := by
  unfold between
  split
  · rename_i h
    unfold raise
    conv => lhs; arg 2; rw [split_at b _ h.2.1]
    rw [partAt_take, ltB_app]
    refine ltB_head _ _ ?_
    have := u8_lt (b[partAt a b]?.getD 0)
    rw [UInt8.toNat_ofNat']; omega
  · exact hab
theorem raise_length (a : List UInt8) (k : Nat) (h : k < a.length) : (raise a k).length ≤ a.length := by
  unfold raise; rw [List.length_append, List.length_take]; simp; omega
theorem between_le (a b : List UInt8) : (between a b).length ≤ a.length := by
  unfold between
  split
  · rename_i h; exact raise_length _ _ h.1
  · exact Nat.le_refl _
theorem lowAt_ne : ∀ (a : List UInt8), lowAt a < a.length → (a[lowAt a]?.getD 0).toNat ≠ 255
  | [], h => by simp at h
  | x :: a, h => by
    rw [lowAt] at h ⊢
    by_cases e : x.toNat = 255
    · rw [if_pos e] at h ⊢
      simp only [List.length_cons] at h
      simpa using lowAt_ne a (by omega)
    · rw [if_neg e]; simpa using e
theorem after_ge (a : List UInt8) : ltB (after a) a = false := by
  unfold after
  split
  · rename_i h
    exact not_ltB_of (raise_gt a _ h (by have := lowAt_ne a h; have := u8_lt (a[lowAt a]?.getD 0); omega))
  · exact ltB_irr a
theorem after_le (a : List UInt8) : (after a).length ≤ a.length := by
  unfold after
  split
  · rename_i h; exact raise_length _ _ h
  · exact Nat.le_refl _

/-- an entry without its value -/
def bare (e : Ent) : Ent := ⟨e.user, e.seq, e.kind, ⟨#[]⟩⟩
theorem layE_bare (e : Ent) : layE (bare e) = layE e := rfl
theorem layE_length (e : Ent) : (layE e).length = e.user.size + 8 := by
  have := toList_size e.user
  unfold layE; rw [List.length_append, fix_length]; omega
theorem right_seq {e : Ent} (h : rightE e = true) : e.seq.toNat ≤ 72057594037927935 ∧ e.kind.toNat ≤ 1 := by
  simp only [rightE, Bool.and_eq_true, Bool.or_eq_true] at h
  obtain ⟨⟨⟨_, a2⟩, _⟩, a4⟩ := h
  refine ⟨of_decide_eq_true a2, ?_⟩
  rcases a4 with a4 | a4
  · have := of_decide_eq_true a4; omega
  · have := of_decide_eq_true a4.1; omega
theorem right_bare {e : Ent} (h : rightE e = true) : rightE (bare e) = true := by
  have h2 := rightE_le h
  have h3 := right_seq h
  have z : (bare e).value.size = 0 := rfl
  have a1 : (bare e).user.size ≤ 1024 := h2.1
  have a2 : (bare e).seq.toNat ≤ 72057594037927935 := h3.1
  have a3 : (bare e).value.size ≤ 65536 := by omega
  have a4 : (bare e).kind.toNat = 1 ∨ (bare e).kind.toNat = 0 := by have : (bare e).kind.toNat ≤ 1 := h3.2; omega
  unfold rightE
  rcases a4 with a4 | a4 <;> simp [a1, a2, a3, a4, z]
theorem leN_lay (e : Ent) : leN ((layE e).drop ((layE e).length - 8)) = (e.seq.toNat * 256 + e.kind.toNat) % 18446744073709551616 ∧ (layE e).take ((layE e).length - 8) = e.user.data.toList := by
  have hl := layE_length e
  have hs := toList_size e.user
  have e1 : (layE e).length - 8 = e.user.data.toList.length := by omega
  rw [e1]
  unfold layE
  rw [List.drop_left, List.take_left, leN_fix8 _ (Nat.mod_lt _ (by omega))]
  exact ⟨rfl, rfl⟩
theorem takeE_lay {e : Ent} (h : rightE e = true) : takeE (layE e) = bare e ∧ isKey (layE e) = true := by
  have h3 := right_seq h
  obtain ⟨l1, l2⟩ := leN_lay e
  have hm : (e.seq.toNat * 256 + e.kind.toNat) % 18446744073709551616 = e.seq.toNat * 256 + e.kind.toNat := Nat.mod_eq_of_lt (by omega)
  have ht : takeE (layE e) = bare e := by
    unfold takeE bare
    rw [l1, l2, hm]
    have q1 : (e.seq.toNat * 256 + e.kind.toNat) / 256 = e.seq.toNat := by omega
    have q2 : (e.seq.toNat * 256 + e.kind.toNat) % 256 = e.kind.toNat := by omega
    rw [q1, q2]
    simp
  refine ⟨ht, ?_⟩
  unfold isKey
  rw [ht, right_bare h, layE_length]
  simp
theorem lay_same {a b : Ent} (ha : rightE a = true) (hb : rightE b = true) : layE a = layE b ↔ cmpE a b = 0 := by
  rw [cmp_zero]
  have h1 := right_seq ha
  have h2 := right_seq hb
  constructor
  · intro e
    obtain ⟨l1, l2⟩ := leN_lay a
    obtain ⟨m1, m2⟩ := leN_lay b
    rw [e] at l1 l2
    rw [l1] at m1
    rw [l2] at m2
    rw [Nat.mod_eq_of_lt (by omega), Nat.mod_eq_of_lt (by omega)] at m1
    refine ⟨by rw [Lib.toList_data, Lib.toList_data, m2], by omega, by omega⟩
  · rintro ⟨e1, e2, e3⟩
    rw [Lib.toList_data, Lib.toList_data] at e1
    unfold layE
    rw [e1, e2, e3]
end Go.Proofs.Ytoccmedadiangaa
