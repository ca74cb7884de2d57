/-
  What is proved here (plain law): decimal digits, six at least; the number whose digits a text is; names of kinds. No program in sight.
-/
import Derived.WalkKit
namespace Go.Proofs.Ytjkcdnangmjoeaa

/-- the digits of a number, k at least -/
def dgt (n k : Nat) : List UInt8 := if n = 0 ∧ k = 0 then [] else dgt (n / 10) (k - 1) ++ [UInt8.ofNat (48 + n % 10)]
termination_by n + k
decreasing_by omega
theorem dgt_0 : dgt 0 0 = [] := by rw [dgt, if_pos ⟨rfl, rfl⟩]
theorem dgt_step {n k : Nat} (h : ¬ (n = 0 ∧ k = 0)) : dgt n k = dgt (n / 10) (k - 1) ++ [UInt8.ofNat (48 + n % 10)] := by
  conv => lhs; rw [dgt]
  rw [if_neg h]
def isD (c : UInt8) : Bool := 48 ≤ c.toNat && c.toNat ≤ 57
theorem ofD (d : Nat) (h : d < 10) : (UInt8.ofNat (48 + d)).toNat = 48 + d := by rw [UInt8.toNat_ofNat']; omega
theorem dgt_all (n k : Nat) : ∀ c ∈ dgt n k, isD c = true := by
  generalize hm : n + k = m
  induction m using Nat.strongRecOn generalizing n k with
  | _ m ih =>
    by_cases h : n = 0 ∧ k = 0
    · obtain ⟨rfl, rfl⟩ := h
      rw [dgt_0]
      intro c hc
      cases hc
    · rw [dgt_step h]
      intro c hc
      rcases List.mem_append.1 hc with hc | hc
      · exact ih (n / 10 + (k - 1)) (by omega) _ _ rfl c hc
      · rw [List.mem_singleton] at hc
        subst hc
        unfold isD
        rw [ofD _ (by omega)]
        simp
        omega
theorem dgt_len (n k : Nat) : k ≤ (dgt n k).length := by
  generalize hm : n + k = m
  induction m using Nat.strongRecOn generalizing n k with
  | _ m ih =>
    by_cases h : n = 0 ∧ k = 0
    · omega
    · rw [dgt_step h, List.length_append]
      have := ih (n / 10 + (k - 1)) (by omega) (n / 10) (k - 1) rfl
      simp only [List.length_cons, List.length_nil]
      omega
def digV1 (c : UInt8) : Nat := c.toNat - 48
/-- the number that digits are -/
def val (l : List UInt8) : Nat := l.foldl (fun a c => a * 10 + digV1 c) 0
theorem val_snoc (l : List UInt8) (c : UInt8) : val (l ++ [c]) = val l * 10 + digV1 c := by simp [val, List.foldl_append]
theorem val_dgt (n k : Nat) : val (dgt n k) = n := by
  generalize hm : n + k = m
  induction m using Nat.strongRecOn generalizing n k with
  | _ m ih =>
    by_cases h : n = 0 ∧ k = 0
    · obtain ⟨rfl, rfl⟩ := h
      rw [dgt_0]
      rfl
    · rw [dgt_step h, val_snoc, ih (n / 10 + (k - 1)) (by omega) _ _ rfl]
      unfold digV1
      rw [ofD _ (by omega)]
      omega
theorem digV1_lt {c : UInt8} (h : isD c = true) : digV1 c < 10 ∧ c.toNat = 48 + digV1 c := by
  unfold isD at h
  unfold digV1
  simp at h
  omega
theorem snoc_cases (l : List UInt8) : l = [] ∨ ∃ i c, l = i ++ [c] := by
  by_cases h : l = []
  · exact Or.inl h
  · exact Or.inr ⟨_, _, (List.dropLast_concat_getLast h).symm⟩
theorem val_lt (l : List UInt8) (hd : ∀ c ∈ l, isD c = true) : val l < 10 ^ l.length := by
  generalize hn : l.length = n
  induction n generalizing l with
  | zero =>
    have : l = [] := List.eq_nil_of_length_eq_zero hn
    subst this
    simp [val]
  | succ n ih =>
    rcases snoc_cases l with rfl | ⟨i, c, rfl⟩
    · simp at hn
    · have h1 := ih i (fun c hc => hd c (List.mem_append_left _ hc)) (by simpa using hn)
      have h2 := (digV1_lt (hd c (by simp))).1
      rw [val_snoc, Nat.pow_succ]
      omega
/-- a first digit that is no 0 -/
theorem val_ge (c : UInt8) (l : List UInt8) (hc : isD c = true) (h0 : c ≠ 48) (hd : ∀ x ∈ l, isD x = true) : 10 ^ l.length ≤ val (c :: l) := by
  generalize hn : l.length = n
  induction n generalizing l with
  | zero =>
    have : l = [] := List.eq_nil_of_length_eq_zero hn
    subst this
    have h1 := digV1_lt hc
    have h2 : c.toNat ≠ 48 := fun e => h0 (by apply UInt8.toNat_inj.1; rw [e]; rfl)
    simp [val]
    omega
  | succ n ih =>
    rcases snoc_cases l with rfl | ⟨i, x, rfl⟩
    · simp at hn
    · have h1 := ih i (fun y hy => hd y (List.mem_append_left _ hy)) (by simpa using hn)
      rw [← List.cons_append, val_snoc, Nat.pow_succ]
      omega
theorem val_zero (l : List UInt8) : val (48 :: l) = val l := by
  have : digV1 48 = 0 := by decide
  simp [val, this]
/-- digits are those of their number, if there are so many, and no 0 too many -/
theorem dgt_val (l : List UInt8) (k : Nat) (hd : ∀ c ∈ l, isD c = true) (hk : k ≤ l.length) (h0 : k < l.length → l.head? ≠ some 48) : dgt (val l) k = l := by
  generalize hn : l.length = n
  induction n generalizing l k with
  | zero =>
    have : l = [] := List.eq_nil_of_length_eq_zero hn
    subst this
    have : k = 0 := by simpa using hk
    subst this
    exact dgt_0
  | succ n ih =>
    rcases snoc_cases l with rfl | ⟨i, c, rfl⟩
    · simp at hn
    · have hil : i.length = n := by simpa using hn
      have hc := digV1_lt (hd c (by simp))
      have hid : ∀ x ∈ i, isD x = true := fun x hx => hd x (List.mem_append_left _ hx)
      have hnz : ¬ (val (i ++ [c]) = 0 ∧ k = 0) := by
        rintro ⟨e1, e2⟩
        have hne := h0 (by rw [List.length_append]; simp; omega)
        match i, hid with
        | [], _ =>
          rw [List.nil_append] at hne e1
          have : c = 48 := by
            apply UInt8.toNat_inj.1
            have : digV1 c = 0 := by simpa [val] using e1
            rw [hc.2, this]
            rfl
          rw [this] at hne
          exact hne rfl
        | x :: r, hid =>
          have hx : x ≠ 48 := fun e => hne (by rw [e]; rfl)
          have h1 := val_ge x r (hid x (by simp)) hx (fun y hy => hid y (by simp [hy]))
          have h2 : 0 < 10 ^ r.length := Nat.pow_pos (by omega)
          rw [val_snoc] at e1
          omega
      rw [dgt_step hnz, val_snoc]
      have e1 : (val i * 10 + digV1 c) / 10 = val i := by omega
      have e2 : (val i * 10 + digV1 c) % 10 = digV1 c := by omega
      rw [e1, e2, ih i (k - 1) hid (by rw [List.length_append] at hk; simp at hk; omega) (fun h => by
        have h3 := h0 (by rw [List.length_append]; simp; omega)
        match i with
        | [] => simp at h
        | x :: r => simpa using h3) hil]
      congr 1
      rw [← hc.2]
      simp
/-- may a text be a number's digits? -/
def numOK (l : List UInt8) : Prop := (∀ c ∈ l, isD c = true) ∧ val l < 18446744073709551616 ∧ (6 < l.length → l.head? ≠ some 48)
instance (l : List UInt8) : Decidable (numOK l) := by unfold numOK; exact inferInstance
theorem numOK_nil : numOK [] := ⟨fun c hc => (by cases hc), by decide, fun h => by simp at h⟩
/-- one digit more -/
theorem numOK_snoc (p : List UInt8) (c : UInt8) (hp : numOK p) (hc : isD c = true) : numOK (p ++ [c]) ↔ ¬ (18446744073709551615 - digV1 c) / 10 < val p ∧ ¬ (6 ≤ p.length ∧ val p < 100000) := by
  have hd := digV1_lt hc
  obtain ⟨h1, h2, h3⟩ := hp
  have hall : ∀ x ∈ p ++ [c], isD x = true := by
    intro x hx
    rcases List.mem_append.1 hx with hx | hx
    · exact h1 x hx
    · rw [List.mem_singleton] at hx; rw [hx]; exact hc
  have hhead : (6 < (p ++ [c]).length → (p ++ [c]).head? ≠ some 48) ↔ ¬ (6 ≤ p.length ∧ val p < 100000) := by
    rw [List.length_append]
    simp only [List.length_cons, List.length_nil]
    by_cases h6 : 6 ≤ p.length
    · match p, h6, h1, h3 with
      | x :: r, h6, h1, h3 =>
        have hr : ∀ y ∈ r, isD y = true := fun y hy => h1 y (by simp [hy])
        have hx := h1 x (by simp)
        have hl : 5 ≤ r.length := by simpa using h6
        by_cases hx0 : x = 48
        · have h4 : r.length = 5 := by
            by_cases h5 : 6 < (x :: r).length
            · exact absurd (by rw [hx0]; rfl) (h3 h5)
            · simp at h5; omega
          have h5 := val_lt r hr
          rw [h4] at h5
          have h6' : val (x :: r) = val r := by rw [hx0, val_zero]
          constructor
          · intro h
            exact absurd (by rw [hx0]; rfl) (h (by simp; omega))
          · intro h
            exact absurd ⟨h6, by rw [h6']; exact h5⟩ h
        · have h5 := val_ge x r hx hx0 hr
          have h7 : 10 ^ 5 ≤ 10 ^ r.length := Nat.pow_le_pow_right (by omega) hl
          constructor
          · intro _ h
            omega
          · intro _ _ h
            simp at h
            exact hx0 h
    · constructor
      · intro _ h
        exact h6 h.1
      · intro _ h
        omega
  unfold numOK
  rw [hhead, val_snoc]
  constructor
  · rintro ⟨_, h5, h6⟩
    exact ⟨by omega, h6⟩
  · rintro ⟨h5, h6⟩
    exact ⟨hall, by omega, h6⟩
theorem numOK_pre (p r : List UInt8) (h : numOK (p ++ r)) : numOK p := by
  obtain ⟨h1, h2, h3⟩ := h
  refine ⟨fun c hc => h1 c (List.mem_append_left _ hc), ?_, fun h => ?_⟩
  · generalize hn : r.length = n
    induction n generalizing r with
    | zero =>
      have : r = [] := List.eq_nil_of_length_eq_zero hn
      subst this
      rw [List.append_nil] at h2
      exact h2
    | succ n ih =>
      rcases snoc_cases r with rfl | ⟨i, c, rfl⟩
      · simp at hn
      · rw [← List.append_assoc] at h1 h2 h3
        rw [val_snoc] at h2
        refine ih i (fun x hx => h1 x (List.mem_append_left _ hx)) (by omega) (fun h4 => ?_) (by simpa using hn)
        have h5 := h3 (by rw [List.length_append]; omega)
        rw [List.head?_append] at h5
        intro e
        rw [e] at h5
        simp at h5
  · have h4 := h3 (by rw [List.length_append]; omega)
    rw [List.head?_append] at h4
    intro e
    rw [e] at h4
    simp at h4
theorem numOK_dgt (n : Nat) (h : n < 18446744073709551616) : numOK (dgt n 6) := by
  refine ⟨dgt_all n 6, by rw [val_dgt]; exact h, ?_⟩
  have key : ∀ m k n, n + k = m → k < (dgt n k).length → (dgt n k).head? ≠ some 48 := by
    intro m
    induction m using Nat.strongRecOn with
    | _ m ih =>
      intro k n hm hl
      by_cases h0 : n = 0 ∧ k = 0
      · obtain ⟨rfl, rfl⟩ := h0
        rw [dgt_0] at hl
        simp at hl
      · rw [dgt_step h0] at hl ⊢
        rw [List.length_append] at hl
        simp only [List.length_cons, List.length_nil] at hl
        by_cases hk : k - 1 < (dgt (n / 10) (k - 1)).length
        · have h5 := ih (n / 10 + (k - 1)) (by omega) (k - 1) (n / 10) rfl hk
          rw [List.head?_append]
          cases hh : (dgt (n / 10) (k - 1)).head? with
          | none =>
            rw [List.head?_eq_none_iff] at hh
            rw [hh] at hk
            simp at hk
          | some x => rw [hh] at h5; simpa using h5
        · have h6 := dgt_len (n / 10) (k - 1)
          have h7 : k = 0 := by omega
          subst h7
          have h8 : (dgt (n / 10) (0 - 1)).length = 0 := by omega
          have h9 := List.eq_nil_of_length_eq_zero h8
          rw [h9]
          have h10 : n / 10 = 0 := by
            have := val_dgt (n / 10) (0 - 1)
            rw [h9] at this
            exact this.symm
          have h11 : n ≠ 0 := fun e => h0 ⟨e, rfl⟩
          intro e
          have e2 : UInt8.ofNat (48 + n % 10) = 48 := by simpa using e
          have e3 := congrArg UInt8.toNat e2
          rw [ofD _ (by omega)] at e3
          have e4 : (48 : UInt8).toNat = 48 := rfl
          omega
  exact key _ 6 n rfl
/-- a text is a number's digits just if it may be one, six at least -/
theorem dgt_iff (l : List UInt8) (h : numOK l) (h6 : 6 ≤ l.length) : dgt (val l) 6 = l := dgt_val l 6 h.1 h6 h.2.2
end Go.Proofs.Ytjkcdnangmjoeaa
