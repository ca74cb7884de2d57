/-
  What is proved here: decimal digits, six at least; the number whose digits a text is; names of kinds. No program in sight.
  names of kinds and numbers, what a text's kind and number are, by its ends and by trial: the same. No program in sight.
  the steps of the loops of layer 7: digits one by one, the number whose digits a text is one by one. No program in sight.
  plain laws of the number that stands ahead in bytes: what it is, how many bytes it has, its fault; that laid numbers are taken back, and what is taken is what is laid. No program in sight. No condition.
  a head's bytes, the head that stands ahead of bytes, a place's nonce: heads lead back from their bytes, unlike ones have unlike bytes, unlike places unlike nonces. No program in sight.
-/
import Derived.WalkKit
import Derived.Lib.Strings
import Derived.Test.YtjkcdnangmjoeaaDoorNumLaw
namespace Go.Proofs.YtjkcdnangmjoeaaDoor

/-- the digits of a number, k at least -/
def dgt (n k : Nat) : List UInt8 := if n = 0 ∧ k = 0 then [] else dgt (n / 10) (k - 1) ++ [UInt8.ofNat (48 + n % 10)]
termination_by n + k
decreasing_by omega
theorem dgt_0 : dgt 0 0 = [] := by rw [dgt, if_pos ⟨rfl, rfl⟩]
theorem dgt_step {n k : Nat} (h : ¬ (n = 0 ∧ k = 0)) : dgt n k = dgt (n / 10) (k - 1) ++ [UInt8.ofNat (48 + n % 10)] := by
  conv => lhs; rw [dgt]
  rw [if_neg h]
def isD (c : UInt8) : Bool := 48 ≤ c.toNat && c.toNat ≤ 57
theorem ofD (d : Nat) (h : d < 10) : (UInt8.ofNat (48 + d)).toNat = 48 + d := by rw [UInt8.toNat_ofNat']; omega
theorem dgt_all (n k : Nat) : ∀ c ∈ dgt n k, isD c = true := by
  generalize hm : n + k = m
  induction m using Nat.strongRecOn generalizing n k with
  | _ m ih =>
    by_cases h : n = 0 ∧ k = 0
    · obtain ⟨rfl, rfl⟩ := h
      rw [dgt_0]
      intro c hc
      cases hc
    · rw [dgt_step h]
      intro c hc
      rcases List.mem_append.1 hc with hc | hc
      · exact ih (n / 10 + (k - 1)) (by omega) _ _ rfl c hc
      · rw [List.mem_singleton] at hc
        subst hc
        unfold isD
        rw [ofD _ (by omega)]
        simp
        omega
theorem dgt_len (n k : Nat) : k ≤ (dgt n k).length := by
  generalize hm : n + k = m
  induction m using Nat.strongRecOn generalizing n k with
  | _ m ih =>
    by_cases h : n = 0 ∧ k = 0
    · omega
    · rw [dgt_step h, List.length_append]
      have := ih (n / 10 + (k - 1)) (by omega) (n / 10) (k - 1) rfl
      simp only [List.length_cons, List.length_nil]
      omega
def digV1 (c : UInt8) : Nat := c.toNat - 48
/-- the number that digits are -/
def val (l : List UInt8) : Nat := l.foldl (fun a c => a * 10 + digV1 c) 0
theorem val_snoc (l : List UInt8) (c : UInt8) : val (l ++ [c]) = val l * 10 + digV1 c := by simp [val, List.foldl_append]
theorem val_dgt (n k : Nat) : val (dgt n k) = n := by
  generalize hm : n + k = m
  induction m using Nat.strongRecOn generalizing n k with
  | _ m ih =>
    by_cases h : n = 0 ∧ k = 0
    · obtain ⟨rfl, rfl⟩ := h
      rw [dgt_0]
      rfl
    · rw [dgt_step h, val_snoc, ih (n / 10 + (k - 1)) (by omega) _ _ rfl]
      unfold digV1
      rw [ofD _ (by omega)]
      omega
theorem digV1_lt {c : UInt8} (h : isD c = true) : digV1 c < 10 ∧ c.toNat = 48 + digV1 c := by
  unfold isD at h
  unfold digV1
  simp at h
  omega
theorem snoc_cases (l : List UInt8) : l = [] ∨ ∃ i c, l = i ++ [c] := by
  by_cases h : l = []
  · exact Or.inl h
  · exact Or.inr ⟨_, _, (List.dropLast_concat_getLast h).symm⟩
theorem val_lt (l : List UInt8) (hd : ∀ c ∈ l, isD c = true) : val l < 10 ^ l.length := by
  generalize hn : l.length = n
  induction n generalizing l with
  | zero =>
    have : l = [] := List.eq_nil_of_length_eq_zero hn
    subst this
    simp [val]
  | succ n ih =>
    rcases snoc_cases l with rfl | ⟨i, c, rfl⟩
    · simp at hn
    · have h1 := ih i (fun c hc => hd c (List.mem_append_left _ hc)) (by simpa using hn)
      have h2 := (digV1_lt (hd c (by simp))).1
      rw [val_snoc, Nat.pow_succ]
      omega
/-- a first digit that is no 0 -/
theorem val_ge (c : UInt8) (l : List UInt8) (hc : isD c = true) (h0 : c ≠ 48) (hd : ∀ x ∈ l, isD x = true) : 10 ^ l.length ≤ val (c :: l) := by
  generalize hn : l.length = n
  induction n generalizing l with
  | zero =>
    have : l = [] := List.eq_nil_of_length_eq_zero hn
    subst this
    have h1 := digV1_lt hc
    have h2 : c.toNat ≠ 48 := fun e => h0 (by apply UInt8.toNat_inj.1; rw [e]; rfl)
    simp [val]
    omega
  | succ n ih =>
    rcases snoc_cases l with rfl | ⟨i, x, rfl⟩
    · simp at hn
    · have h1 := ih i (fun y hy => hd y (List.mem_append_left _ hy)) (by simpa using hn)
      rw [← List.cons_append, val_snoc, Nat.pow_succ]
      omega
theorem val_zero (l : List UInt8) : val (48 :: l) = val l := by
  have : digV1 48 = 0 := by decide
  simp [val, this]
/-- digits are those of their number, if there are so many, and no 0 too many -/
theorem dgt_val (l : List UInt8) (k : Nat) (hd : ∀ c ∈ l, isD c = true) (hk : k ≤ l.length) (h0 : k < l.length → l.head? ≠ some 48) : dgt (val l) k = l := by
  generalize hn : l.length = n
  induction n generalizing l k with
  | zero =>
    have : l = [] := List.eq_nil_of_length_eq_zero hn
    subst this
    have : k = 0 := by simpa using hk
    subst this
    exact dgt_0
  | succ n ih =>
    rcases snoc_cases l with rfl | ⟨i, c, rfl⟩
    · simp at hn
    · have hil : i.length = n := by simpa using hn
      have hc := digV1_lt (hd c (by simp))
      have hid : ∀ x ∈ i, isD x = true := fun x hx => hd x (List.mem_append_left _ hx)
      have hnz : ¬ (val (i ++ [c]) = 0 ∧ k = 0) := by
        rintro ⟨e1, e2⟩
        have hne := h0 (by rw [List.length_append]; simp; omega)
        match i, hid with
        | [], _ =>
          rw [List.nil_append] at hne e1
          have : c = 48 := by
            apply UInt8.toNat_inj.1
            have : digV1 c = 0 := by simpa [val] using e1
            rw [hc.2, this]
            rfl
          rw [this] at hne
          exact hne rfl
        | x :: r, hid =>
          have hx : x ≠ 48 := fun e => hne (by rw [e]; rfl)
          have h1 := val_ge x r (hid x (by simp)) hx (fun y hy => hid y (by simp [hy]))
          have h2 : 0 < 10 ^ r.length := Nat.pow_pos (by omega)
          rw [val_snoc] at e1
          omega
      rw [dgt_step hnz, val_snoc]
      have e1 : (val i * 10 + digV1 c) / 10 = val i := by omega
      have e2 : (val i * 10 + digV1 c) % 10 = digV1 c := by omega
      rw [e1, e2, ih i (k - 1) hid (by rw [List.length_append] at hk; simp at hk; omega) (fun h => by
        have h3 := h0 (by rw [List.length_append]; simp; omega)
        match i with
        | [] => simp at h
        | x :: r => simpa using h3) hil]
      congr 1
      rw [← hc.2]
      simp
/-- may a text be a number's digits? -/
def numOK (l : List UInt8) : Prop := (∀ c ∈ l, isD c = true) ∧ val l < 18446744073709551616 ∧ (6 < l.length → l.head? ≠ some 48)
instance (l : List UInt8) : Decidable (numOK l) := by unfold numOK; exact inferInstance
theorem numOK_nil : numOK [] := ⟨fun c hc => (by cases hc), by decide, fun h => by simp at h⟩
/-- one digit more -/
theorem numOK_snoc (p : List UInt8) (c : UInt8) (hp : numOK p) (hc : isD c = true) : numOK (p ++ [c]) ↔ ¬ (18446744073709551615 - digV1 c) / 10 < val p ∧ ¬ (6 ≤ p.length ∧ val p < 100000) := by
  have hd := digV1_lt hc
  obtain ⟨h1, h2, h3⟩ := hp
  have hall : ∀ x ∈ p ++ [c], isD x = true := by
    intro x hx
    rcases List.mem_append.1 hx with hx | hx
    · exact h1 x hx
    · rw [List.mem_singleton] at hx; rw [hx]; exact hc
  have hhead : (6 < (p ++ [c]).length → (p ++ [c]).head? ≠ some 48) ↔ ¬ (6 ≤ p.length ∧ val p < 100000) := by
    rw [List.length_append]
    simp only [List.length_cons, List.length_nil]
    by_cases h6 : 6 ≤ p.length
    · match p, h6, h1, h3 with
      | x :: r, h6, h1, h3 =>
        have hr : ∀ y ∈ r, isD y = true := fun y hy => h1 y (by simp [hy])
        have hx := h1 x (by simp)
        have hl : 5 ≤ r.length := by simpa using h6
        by_cases hx0 : x = 48
        · have h4 : r.length = 5 := by
            by_cases h5 : 6 < (x :: r).length
            · exact absurd (by rw [hx0]; rfl) (h3 h5)
            · simp at h5; omega
          have h5 := val_lt r hr
          rw [h4] at h5
          have h6' : val (x :: r) = val r := by rw [hx0, val_zero]
          constructor
          · intro h
            exact absurd (by rw [hx0]; rfl) (h (by simp; omega))
          · intro h
            exact absurd ⟨h6, by rw [h6']; exact h5⟩ h
        · have h5 := val_ge x r hx hx0 hr
          have h7 : 10 ^ 5 ≤ 10 ^ r.length := Nat.pow_le_pow_right (by omega) hl
          constructor
          · intro _ h
            omega
          · intro _ _ h
            simp at h
            exact hx0 h
    · constructor
      · intro _ h
        exact h6 h.1
      · intro _ h
        omega
  unfold numOK
  rw [hhead, val_snoc]
  constructor
  · rintro ⟨_, h5, h6⟩
    exact ⟨by omega, h6⟩
  · rintro ⟨h5, h6⟩
    exact ⟨hall, by omega, h6⟩
theorem numOK_pre (p r : List UInt8) (h : numOK (p ++ r)) : numOK p := by
  obtain ⟨h1, h2, h3⟩ := h
  refine ⟨fun c hc => h1 c (List.mem_append_left _ hc), ?_, fun h => ?_⟩
  · generalize hn : r.length = n
    induction n generalizing r with
    | zero =>
      have : r = [] := List.eq_nil_of_length_eq_zero hn
      subst this
      rw [List.append_nil] at h2
      exact h2
    | succ n ih =>
      rcases snoc_cases r with rfl | ⟨i, c, rfl⟩
      · simp at hn
      · rw [← List.append_assoc] at h1 h2 h3
        rw [val_snoc] at h2
        refine ih i (fun x hx => h1 x (List.mem_append_left _ hx)) (by omega) (fun h4 => ?_) (by simpa using hn)
        have h5 := h3 (by rw [List.length_append]; omega)
        rw [List.head?_append] at h5
        intro e
        rw [e] at h5
        simp at h5
  · have h4 := h3 (by rw [List.length_append]; omega)
    rw [List.head?_append] at h4
    intro e
    rw [e] at h4
    simp at h4
theorem numOK_dgt (n : Nat) (h : n < 18446744073709551616) : numOK (dgt n 6) := by
  refine ⟨dgt_all n 6, by rw [val_dgt]; exact h, ?_⟩
  have key : ∀ m k n, n + k = m → k < (dgt n k).length → (dgt n k).head? ≠ some 48 := by
    intro m
    induction m using Nat.strongRecOn with
    | _ m ih =>
      intro k n hm hl
      by_cases h0 : n = 0 ∧ k = 0
      · obtain ⟨rfl, rfl⟩ := h0
        rw [dgt_0] at hl
        simp at hl
      · rw [dgt_step h0] at hl ⊢
        rw [List.length_append] at hl
        simp only [List.length_cons, List.length_nil] at hl
        by_cases hk : k - 1 < (dgt (n / 10) (k - 1)).length
        · have h5 := ih (n / 10 + (k - 1)) (by omega) (k - 1) (n / 10) rfl hk
          rw [List.head?_append]
          cases hh : (dgt (n / 10) (k - 1)).head? with
          | none =>
            rw [List.head?_eq_none_iff] at hh
            rw [hh] at hk
            simp at hk
          | some x => rw [hh] at h5; simpa using h5
        · have h6 := dgt_len (n / 10) (k - 1)
          have h7 : k = 0 := by omega
          subst h7
          have h8 : (dgt (n / 10) (0 - 1)).length = 0 := by omega
          have h9 := List.eq_nil_of_length_eq_zero h8
          rw [h9]
          have h10 : n / 10 = 0 := by
            have := val_dgt (n / 10) (0 - 1)
            rw [h9] at this
            exact this.symm
          have h11 : n ≠ 0 := fun e => h0 ⟨e, rfl⟩
          intro e
          have e2 : UInt8.ofNat (48 + n % 10) = 48 := by simpa using e
          have e3 := congrArg UInt8.toNat e2
          rw [ofD _ (by omega)] at e3
          have e4 : (48 : UInt8).toNat = 48 := rfl
          omega
  exact key _ 6 n rfl
/-- a text is a number's digits just if it may be one, six at least -/
theorem dgt_iff (l : List UInt8) (h : numOK l) (h6 : 6 ≤ l.length) : dgt (val l) 6 = l := dgt_val l 6 h.1 h6 h.2.2
end Go.Proofs.YtjkcdnangmjoeaaDoor

namespace Go.Proofs.YtjkcdnangmjoeaaDoor

def sLog : List UInt8 := [46, 108, 111, 103]
def sTab : List UInt8 := [46, 116, 97, 98]
def sMan : List UInt8 := [109, 97, 110, 105, 102, 101, 115, 116, 45]
def sCur : List UInt8 := [99, 117, 114, 114, 101, 110, 116]
def sTmp : List UInt8 := [99, 117, 114, 114, 101, 110, 116, 46, 116, 109, 112]
/-- a file's name -/
def nmOf (k n : Nat) : List UInt8 :=
  if k = 1 then dgt n 6 ++ sLog else if k = 2 then dgt n 6 ++ sTab else if k = 3 then sMan ++ dgt n 6 else if k = 4 then sCur else if k = 5 then sTmp else []
/-- the number that a text is -/
def numR (l : List UInt8) : Nat × Bool := if numOK l then (val l, decide (6 ≤ l.length)) else (0, false)
/-- a text's ends: what is left, and the kind (0: none) -/
def endsR (s : List UInt8) : List UInt8 × Nat :=
  if Lib.hasPrefix s sMan then (Lib.trimPrefix s sMan, 3) else if Lib.hasSuffix s sLog then (Lib.trimSuffix s sLog, 1) else if Lib.hasSuffix s sTab then (Lib.trimSuffix s sTab, 2) else (s, 0)
/-- a text's kind and number -/
def parseR (s : List UInt8) : Option (Nat × Nat) :=
  if s = sCur then some (4, 0) else if s = sTmp then some (5, 0)
  else if (endsR s).2 ≠ 0 ∧ (numR (endsR s).1).2 = true then some ((endsR s).2, (numR (endsR s).1).1) else none
/-- the digits that a text begins with -/
def lead : List UInt8 → List UInt8
  | [] => []
  | c :: r => if isD c then c :: lead r else []
def vpre (s : List UInt8) : Nat := val (lead s) % 18446744073709551616
def tryN (s : List UInt8) (k : Nat) : Nat := if 3 < k then 0 else if k = 3 ∧ 9 < s.length then vpre (s.drop 9) else vpre s
/-- a text's kind and number, by trial, from kind k on -/
def trial (s : List UInt8) : Nat → Nat → Option (Nat × Nat)
  | 0, _ => none
  | f + 1, k => if nmOf k (tryN s k) = s then some (k, tryN s k) else trial s f (k + 1)
theorem lead_all (p r : List UInt8) (hd : ∀ c ∈ p, isD c = true) (hr : ∀ c, r.head? = some c → isD c = false) : lead (p ++ r) = p := by
  induction p with
  | nil =>
    cases r with
    | nil => rfl
    | cons c r =>
      rw [List.nil_append]
      show (if isD c then c :: lead r else []) = []
      rw [hr c rfl]
      rfl
  | cons c p ih =>
    rw [List.cons_append]
    show (if isD c then c :: lead (p ++ r) else []) = _
    rw [hd c (by simp), ih (fun x hx => hd x (by simp [hx]))]
    rfl
theorem vpre_dgt (n : Nat) (h : n < 18446744073709551616) (r : List UInt8) (hr : ∀ c, r.head? = some c → isD c = false) : vpre (dgt n 6 ++ r) = n := by
  unfold vpre
  rw [lead_all _ _ (dgt_all n 6) hr, val_dgt, Nat.mod_eq_of_lt h]
theorem numR_dgt (n : Nat) (h : n < 18446744073709551616) : numR (dgt n 6) = (n, true) := by
  unfold numR
  rw [if_pos (numOK_dgt n h), val_dgt, decide_eq_true (dgt_len n 6)]
theorem pre_iff (s p : List UInt8) : Lib.hasPrefix s p = true ↔ ∃ r, s = p ++ r := by
  unfold Lib.hasPrefix
  rw [List.isPrefixOf_iff_prefix]
  exact ⟨fun ⟨r, h⟩ => ⟨r, h.symm⟩, fun ⟨r, h⟩ => ⟨r, h.symm⟩⟩
theorem suf_iff (s p : List UInt8) : Lib.hasSuffix s p = true ↔ ∃ r, s = r ++ p := by
  unfold Lib.hasSuffix
  rw [List.isSuffixOf_iff_suffix]
  exact ⟨fun ⟨r, h⟩ => ⟨r, h.symm⟩, fun ⟨r, h⟩ => ⟨r, h.symm⟩⟩
theorem trimP (p r : List UInt8) : Lib.trimPrefix (p ++ r) p = r := by
  unfold Lib.trimPrefix
  rw [if_pos ((pre_iff _ _).2 ⟨r, rfl⟩), List.drop_left]
theorem trimS (p r : List UInt8) : Lib.trimSuffix (r ++ p) p = r := by
  unfold Lib.trimSuffix
  rw [if_pos ((suf_iff _ _).2 ⟨r, rfl⟩), List.length_append, show r.length + p.length - p.length = r.length by omega, List.take_left]
theorem dgt_head (n : Nat) : ∃ c r, dgt n 6 = c :: r ∧ isD c = true := by
  have h1 := dgt_len n 6
  have h2 := dgt_all n 6
  cases hd : dgt n 6 with
  | nil => rw [hd] at h1; simp at h1
  | cons c r => exact ⟨c, r, rfl, h2 c (by rw [hd]; simp)⟩
theorem no_pre (n : Nat) (q : List UInt8) : Lib.hasPrefix (dgt n 6 ++ q) sMan = false := by
  rw [Bool.eq_false_iff]
  intro h
  obtain ⟨r, hr⟩ := (pre_iff _ _).1 h
  obtain ⟨c, t, e, hc⟩ := dgt_head n
  rw [e] at hr
  have : c = 109 := by
    have := congrArg List.head? hr
    simpa [sMan] using this
  rw [this] at hc
  exact absurd hc (by decide)
theorem no_cur (n : Nat) (q : List UInt8) : dgt n 6 ++ q ≠ sCur ∧ dgt n 6 ++ q ≠ sTmp := by
  obtain ⟨c, t, e, hc⟩ := dgt_head n
  rw [e]
  constructor
  · intro h
    have h2 : c = 99 := by
      have := congrArg List.head? h
      simpa [sCur] using this
    rw [h2] at hc
    exact absurd hc (by decide)
  · intro h
    have h2 : c = 99 := by
      have := congrArg List.head? h
      simpa [sTmp] using this
    rw [h2] at hc
    exact absurd hc (by decide)
theorem tab_log (r : List UInt8) : Lib.hasSuffix (r ++ sTab) sLog = false := by
  rw [Bool.eq_false_iff]
  intro h
  obtain ⟨t, ht⟩ := (suf_iff _ _).1 h
  have h2 := congrArg List.getLast? ht
  rw [List.getLast?_append, List.getLast?_append] at h2
  simp [sTab, sLog] at h2
/-- a name leads back to its kind and number -/
theorem parse_nm (k n : Nat) (hk : 1 ≤ k ∧ k ≤ 5) (hn : n < 18446744073709551616) (h4 : 3 < k → n = 0) : parseR (nmOf k n) = some (k, n) := by
  have hk' : k = 1 ∨ k = 2 ∨ k = 3 ∨ k = 4 ∨ k = 5 := by omega
  rcases hk' with rfl | rfl | rfl | rfl | rfl
  · show parseR (dgt n 6 ++ sLog) = _
    unfold parseR
    rw [if_neg (no_cur n sLog).1, if_neg (no_cur n sLog).2]
    have e : endsR (dgt n 6 ++ sLog) = (dgt n 6, 1) := by
      unfold endsR
      rw [no_pre, if_neg (by simp), if_pos ((suf_iff _ _).2 ⟨_, rfl⟩), trimS]
    rw [e, numR_dgt n hn]
    simp
  · show parseR (dgt n 6 ++ sTab) = _
    unfold parseR
    rw [if_neg (no_cur n sTab).1, if_neg (no_cur n sTab).2]
    have e : endsR (dgt n 6 ++ sTab) = (dgt n 6, 2) := by
      unfold endsR
      rw [no_pre, if_neg (by simp), tab_log, if_neg (by simp), if_pos ((suf_iff _ _).2 ⟨_, rfl⟩), trimS]
    rw [e, numR_dgt n hn]
    simp
  · show parseR (sMan ++ dgt n 6) = _
    unfold parseR
    rw [if_neg (by intro h; simp [sMan, sCur] at h), if_neg (by intro h; simp [sMan, sTmp] at h)]
    have e : endsR (sMan ++ dgt n 6) = (dgt n 6, 3) := by
      unfold endsR
      rw [if_pos ((pre_iff _ _).2 ⟨_, rfl⟩), trimP]
    rw [e, numR_dgt n hn]
    simp
  · rw [h4 (by omega)]
    rfl
  · rw [h4 (by omega)]
    have e : nmOf 5 0 = sTmp := rfl
    rw [e]
    unfold parseR
    rw [if_neg (by decide), if_pos rfl]
theorem numR_true {l : List UInt8} (h : (numR l).2 = true) : dgt (numR l).1 6 = l ∧ (numR l).1 < 18446744073709551616 := by
  unfold numR at *
  split at h
  · rename_i hok
    rw [if_pos hok]
    have h6 : 6 ≤ l.length := of_decide_eq_true h
    exact ⟨dgt_iff l hok h6, hok.2.1⟩
  · cases h
/-- what is parsed is that name -/
theorem nm_parse (s : List UInt8) (k n : Nat) (h : parseR s = some (k, n)) : nmOf k n = s ∧ 1 ≤ k ∧ k ≤ 5 ∧ n < 18446744073709551616 ∧ (3 < k → n = 0) := by
  unfold parseR at h
  split at h
  · rename_i e
    injection h with h
    injection h with h1 h2
    subst h1; subst h2
    exact ⟨e.symm, by omega, by omega, by omega, fun _ => rfl⟩
  · split at h
    · rename_i e
      injection h with h
      injection h with h1 h2
      subst h1; subst h2
      exact ⟨e.symm, by omega, by omega, by omega, fun _ => rfl⟩
    · split at h
      · rename_i hb
        injection h with h
        injection h with h1 h2
        obtain ⟨hk0, hnum⟩ := hb
        obtain ⟨hd, hlt⟩ := numR_true hnum
        rw [h2] at hd hlt
        have hs : ((endsR s).2 = 3 ∧ s = sMan ++ (endsR s).1) ∨ ((endsR s).2 = 1 ∧ s = (endsR s).1 ++ sLog) ∨ ((endsR s).2 = 2 ∧ s = (endsR s).1 ++ sTab) := by
          unfold endsR at hk0 ⊢
          split
          · rename_i hp
            obtain ⟨r, hr⟩ := (pre_iff _ _).1 hp
            exact Or.inl ⟨rfl, by rw [hr, trimP]⟩
          · split
            · rename_i hp
              obtain ⟨r, hr⟩ := (suf_iff _ _).1 hp
              exact Or.inr (Or.inl ⟨rfl, by rw [hr, trimS]⟩)
            · split
              · rename_i hp
                obtain ⟨r, hr⟩ := (suf_iff _ _).1 hp
                exact Or.inr (Or.inr ⟨rfl, by rw [hr, trimS]⟩)
              · rename_i h1 h2 h3
                rw [if_neg h1, if_neg h2, if_neg h3] at hk0
                exact absurd rfl hk0
        rcases hs with ⟨e, hs⟩ | ⟨e, hs⟩ | ⟨e, hs⟩
        · rw [e] at h1
          subst h1
          refine ⟨?_, by omega, by omega, hlt, fun h => by omega⟩
          show sMan ++ dgt n 6 = s
          rw [hd, ← hs]
        · rw [e] at h1
          subst h1
          refine ⟨?_, by omega, by omega, hlt, fun h => by omega⟩
          show dgt n 6 ++ sLog = s
          rw [hd, ← hs]
        · rw [e] at h1
          subst h1
          refine ⟨?_, by omega, by omega, hlt, fun h => by omega⟩
          show dgt n 6 ++ sTab = s
          rw [hd, ← hs]
      · cases h
theorem tryN_lt (s : List UInt8) (k : Nat) : tryN s k < 18446744073709551616 ∧ (3 < k → tryN s k = 0) := by
  unfold tryN vpre
  refine ⟨?_, fun h => by rw [if_pos h]⟩
  split
  · omega
  · split
    · omega
    · omega
theorem tryN_nm (k n : Nat) (hk : 1 ≤ k ∧ k ≤ 5) (hn : n < 18446744073709551616) (h4 : 3 < k → n = 0) : tryN (nmOf k n) k = n := by
  have hk' : k = 1 ∨ k = 2 ∨ k = 3 ∨ 3 < k := by omega
  rcases hk' with rfl | rfl | rfl | h
  · show (if 3 < 1 then 0 else if 1 = 3 ∧ _ then _ else vpre (dgt n 6 ++ sLog)) = n
    rw [if_neg (by omega), if_neg (by omega)]
    exact vpre_dgt n hn sLog (fun c hc => by simp [sLog] at hc; subst hc; decide)
  · show (if 3 < 2 then 0 else if 2 = 3 ∧ _ then _ else vpre (dgt n 6 ++ sTab)) = n
    rw [if_neg (by omega), if_neg (by omega)]
    exact vpre_dgt n hn sTab (fun c hc => by simp [sTab] at hc; subst hc; decide)
  · have hl := dgt_len n 6
    have e : nmOf 3 n = sMan ++ dgt n 6 := rfl
    rw [e]
    unfold tryN
    rw [if_neg (by omega), if_pos ⟨rfl, by rw [List.length_append]; simp [sMan]; omega⟩]
    rw [show (sMan ++ dgt n 6).drop 9 = dgt n 6 from List.drop_left' rfl]
    have := vpre_dgt n hn [] (fun c hc => by simp at hc)
    rwa [List.append_nil] at this
  · rw [(tryN_lt _ k).2 h, h4 h]
/-- by trial: the same -/
theorem trial_parse (s : List UInt8) : trial s 5 1 = parseR s := by
  have key : ∀ f k, f + k = 6 → 1 ≤ k → (∀ j, 1 ≤ j → j < k → nmOf j (tryN s j) ≠ s) → trial s f k = parseR s := by
    intro f
    induction f with
    | zero =>
      intro k hk _ hno
      show none = parseR s
      cases hp : parseR s with
      | none => rfl
      | some x =>
        obtain ⟨j, n⟩ := x
        obtain ⟨h1, h2, h3, h4, h5⟩ := nm_parse s j n hp
        have e := tryN_nm j n ⟨h2, h3⟩ h4 h5
        rw [h1] at e
        exact absurd (by rw [e]; exact h1) (hno j h2 (by omega))
    | succ f ih =>
      intro k hk hk1 hno
      show (if nmOf k (tryN s k) = s then some (k, tryN s k) else trial s f (k + 1)) = _
      by_cases h : nmOf k (tryN s k) = s
      · rw [if_pos h]
        have h2 := parse_nm k (tryN s k) ⟨hk1, by omega⟩ (tryN_lt s k).1 (tryN_lt s k).2
        rw [h] at h2
        exact h2.symm
      · rw [if_neg h]
        refine ih (k + 1) (by omega) (by omega) (fun j hj hjk => ?_)
        by_cases e : j = k
        · subst e; exact h
        · exact hno j hj (by omega)
  exact key 5 1 rfl (by omega) (fun j h1 h2 => by omega)
end Go.Proofs.YtjkcdnangmjoeaaDoor

namespace Go.Proofs.YtjkcdnangmjoeaaDoor

theorem dgt_le : ∀ j n k : Nat, n < 10 ^ j → k ≤ j → (dgt n k).length ≤ j
  | 0, n, k, h, hk => by
    have h1 : n = 0 := by simpa using h
    have h2 : k = 0 := by omega
    rw [h1, h2, dgt_0]
    exact Nat.le_refl _
  | j + 1, n, k, h, hk => by
    by_cases h0 : n = 0 ∧ k = 0
    · rw [h0.1, h0.2, dgt_0]
      exact Nat.zero_le _
    · have := dgt_le j (n / 10) (k - 1) (by rw [Nat.pow_succ] at h; omega) (by omega)
      rw [dgt_step h0, List.length_append]
      simp only [List.length_cons, List.length_nil]
      omega
theorem dgt_20 (n : Nat) (h : n < 18446744073709551616) : (dgt n 6).length ≤ 20 := dgt_le 20 n 6 (by omega) (by omega)
theorem dgt_rel {k : Nat} (l m : List UInt8) (h : ¬ (k = 0 ∧ 6 ≤ l.length)) (e : dgt k (6 - l.length) ++ l = m) : dgt (k / 10) (6 - (l.length + 1)) ++ UInt8.ofNat (48 + k % 10) :: l = m := by
  rw [← e, dgt_step (n := k) (k := 6 - l.length) (by omega), show 6 - (l.length + 1) = 6 - l.length - 1 from by omega]
  simp
theorem dgt_end {l m : List UInt8} (h : 6 ≤ l.length) (e : dgt 0 (6 - l.length) ++ l = m) : l = m := by
  rw [← e, show 6 - l.length = 0 from by omega, dgt_0, List.nil_append]
theorem take_next (l : List UInt8) (k : Nat) (h : k < l.length) : l.take (k + 1) = l.take k ++ [l[k]] := by
  rw [List.take_add_one, List.getElem?_eq_getElem h]; rfl
theorem numR_no {l : List UInt8} (h : ¬ numOK l) : numR l = (0, false) := by unfold numR; rw [if_neg h]
theorem numR_yes {l : List UInt8} (h : numOK l) : numR l = (val l, decide (6 ≤ l.length)) := by unfold numR; rw [if_pos h]
/-- a byte that is no digit -/
theorem numR_char {l : List UInt8} {k : Nat} (hk : k < l.length) (h : isD l[k] = false) : numR l = (0, false) :=
  numR_no fun ok => by rw [ok.1 l[k] (List.getElem_mem hk)] at h; cases h
theorem numR_big {l : List UInt8} {k : Nat} (hk : k < l.length) (hp : numOK (l.take k)) (hd : isD l[k] = true) (h : (18446744073709551615 - digV1 l[k]) / 10 < val (l.take k) ∨ (6 ≤ k ∧ val (l.take k) < 100000)) : numR l = (0, false) :=
  numR_no fun ok => by
    have hs := numOK_pre (l.take (k + 1)) (l.drop (k + 1)) (by rw [List.take_append_drop]; exact ok)
    rw [take_next l k hk, numOK_snoc _ _ hp hd, List.length_take, Nat.min_eq_left (by omega)] at hs
    rcases h with h | h
    · exact hs.1 h
    · exact hs.2 h
theorem numOK_next {l : List UInt8} {k : Nat} (hk : k < l.length) (hp : numOK (l.take k)) (hd : isD l[k] = true) (h1 : ¬ (18446744073709551615 - digV1 l[k]) / 10 < val (l.take k)) (h2 : ¬ (6 ≤ k ∧ val (l.take k) < 100000)) : numOK (l.take (k + 1)) ∧ val (l.take (k + 1)) = val (l.take k) * 10 + digV1 l[k] := by
  rw [take_next l k hk, val_snoc]
  refine ⟨(numOK_snoc _ _ hp hd).2 ⟨h1, ?_⟩, rfl⟩
  rw [List.length_take, Nat.min_eq_left (by omega)]
  exact h2
end Go.Proofs.YtjkcdnangmjoeaaDoor

namespace Go.Proofs.YtjkcdnangmjoeaaDoor

/-- the number from group k on, what was gathered being n -/
def numG : Nat → Nat → List UInt8 → Nat × Nat × Nat
  | _, _, [] => (0, 0, 10)
  | k, n, x :: r => if k = 9 ∧ 1 < x.toNat then (0, 0, 11) else
      if x.toNat < 128 then (if 0 < k ∧ x.toNat = 0 then (0, 0, 11) else (n + x.toNat % 128 * 128 ^ k, k + 1, 0)) else numG (k + 1) (n + x.toNat % 128 * 128 ^ k) r
/-- the number that stands ahead in bytes, how many bytes it has, its fault -/
def number (l : List UInt8) : Nat × Nat × Nat := numG 0 0 l

theorem numG_k (l : List UInt8) : ∀ k n, (numG k n l).2.1 = 0 ∨ ((numG k n l).2.2 = 0 ∧ k < (numG k n l).2.1 ∧ (numG k n l).2.1 ≤ k + l.length) := by
  induction l with
  | nil => intro k n; left; rfl
  | cons x r ih =>
    intro k n
    rw [numG]
    split
    · left; rfl
    · split
      · split
        · left; rfl
        · right; exact ⟨rfl, Nat.lt_succ_self _, by simp only [List.length_cons]; omega⟩
      · rcases ih (k + 1) (n + x.toNat % 128 * 128 ^ k) with h | ⟨h0, h1, h2⟩
        · left; exact h
        · right; exact ⟨h0, by omega, by simp only [List.length_cons]; omega⟩
theorem numG_e (l : List UInt8) : ∀ k n, (numG k n l).2.2 = 0 ∨ ((numG k n l) = (0, 0, 10) ∨ (numG k n l) = (0, 0, 11)) := by
  induction l with
  | nil => intro k n; right; left; rfl
  | cons x r ih =>
    intro k n
    rw [numG]
    split
    · right; right; rfl
    · split
      · split
        · right; right; rfl
        · left; rfl
      · exact ih _ _
theorem number_le (l : List UInt8) : (number l).2.1 ≤ l.length := by
  rcases numG_k l 0 0 with h | ⟨_, _, h⟩
  · unfold number; omega
  · unfold number; omega
theorem numG_lt (l : List UInt8) : ∀ k n, k ≤ 9 → n < 128 ^ k → (numG k n l).1 < 18446744073709551616 := by
  induction l with
  | nil => intro k n _ _; simp [numG]
  | cons x r ih =>
    intro k n hk hn
    rw [numG]
    split
    · simp
    · rename_i h9
      have hstep : n + x.toNat % 128 * 128 ^ k < 128 ^ (k + 1) := by
        have h1 : x.toNat % 128 * 128 ^ k ≤ 127 * 128 ^ k := Nat.mul_le_mul_right _ (by omega)
        rw [Nat.pow_succ]
        omega
      split
      · split
        · simp
        · rcases Nat.lt_or_ge k 9 with h | h
          · have h2 : 128 ^ (k + 1) ≤ 128 ^ 9 := Nat.pow_le_pow_right (by omega) (by omega)
            have h3 : (128 : Nat) ^ 9 < 18446744073709551616 := by decide
            simp only
            omega
          · have e : k = 9 := by omega
            subst e
            have h4 : x.toNat ≤ 1 := by omega
            have h5 : x.toNat % 128 * 128 ^ 9 ≤ 1 * 128 ^ 9 := Nat.mul_le_mul_right _ (by omega)
            have h6 : (128 : Nat) ^ 9 + 128 ^ 9 ≤ 18446744073709551616 := by decide
            simp only
            omega
      · rcases Nat.lt_or_ge k 9 with h | h
        · exact ih _ _ (by omega) hstep
        · exfalso
          have e : k = 9 := by omega
          subst e
          omega
theorem number_lt (l : List UInt8) : (number l).1 < 18446744073709551616 := numG_lt l 0 0 (by omega) (by simp)

/-- a number from its bytes, least first -/
def leN : List UInt8 → Nat
  | [] => 0
  | x :: r => x.toNat + 256 * leN r
theorem leN_lt (l : List UInt8) : leN l < 256 ^ l.length := by
  induction l with
  | nil => simp [leN]
  | cons x r ih =>
    have hx : x.toNat < 256 := UInt8.toNat_lt x
    rw [leN, List.length_cons, Nat.pow_succ]
    omega
theorem leN_append (l m : List UInt8) : leN (l ++ m) = leN l + 256 ^ l.length * leN m := by
  induction l with
  | nil => simp [leN]
  | cons x r ih =>
    rw [List.cons_append, leN, leN, ih, List.length_cons, Nat.pow_succ, Nat.mul_add, ← Nat.mul_assoc, Nat.mul_comm 256 (256 ^ r.length), Nat.add_assoc]
/-- a reader: what is left, its fault -/
abbrev Rs := List UInt8 × Nat
/-- what Num takes -/
def sNum (s : Rs) : Nat × Rs := if s.2 = 0 then ((number s.1).1, s.1.drop (number s.1).2.1, (number s.1).2.2) else (0, s)
/-- what Str takes -/
def sStr (most : Int) (s : Rs) : List UInt8 × Rs :=
  if s.2 ≠ 0 then ([], s) else
  if (number s.1).2.2 ≠ 0 then ([], s.1, (number s.1).2.2) else
  if max 0 most < ((number s.1).1 : Int) then ([], s.1, 4) else
  if s.1.length - (number s.1).2.1 < (number s.1).1 then ([], s.1, 10) else
    ((s.1.take ((number s.1).2.1 + (number s.1).1)).drop (number s.1).2.1, s.1.drop ((number s.1).2.1 + (number s.1).1), 0)
/-- what Fix takes -/
def sFix (many : Int) (s : Rs) : Nat × Rs :=
  if s.2 ≠ 0 then (0, s) else
  if many < 0 ∨ 8 < many then (0, s.1, 1) else
  if (s.1.length : Int) < many then (0, s.1, 10) else (leN (s.1.take many.toNat), s.1.drop many.toNat, 0)
/-- what End tells -/
def sEnd (s : Rs) : Nat := if s.2 = 0 ∧ 0 < s.1.length then 12 else s.2
theorem number_bad (l : List UInt8) : (number l).2.2 ≤ 11 := by
  rcases numG_e l 0 0 with h | h | h
  · unfold number; omega
  · unfold number; rw [h]; decide
  · unfold number; rw [h]; decide
theorem sNum_lt (s : Rs) : (sNum s).1 < 18446744073709551616 := by
  unfold sNum; split
  · exact number_lt _
  · simp
theorem sFix_lt (many : Int) (s : Rs) : (sFix many s).1 < 18446744073709551616 := by
  unfold sFix; split
  · simp
  · split
    · simp
    · split
      · simp
      · have h := leN_lt (s.1.take many.toNat)
        have h1 : (s.1.take many.toNat).length ≤ 8 := by rw [List.length_take]; omega
        have h2 : 256 ^ (s.1.take many.toNat).length ≤ 256 ^ 8 := Nat.pow_le_pow_right (by omega) h1
        exact Nat.lt_of_lt_of_le (Nat.lt_of_lt_of_le h h2) (by decide)

theorem ofNat_small (n : Nat) (h : n < 256) : (UInt8.ofNat n).toNat = n := by rw [UInt8.toNat_ofNat']; omega
theorem pow128_9 : (128 : Nat) ^ 9 = 9223372036854775808 := by decide
theorem lt_of_pow9 (n : Nat) (h : n * 128 ^ 9 < 18446744073709551616) : n ≤ 1 := by
  rw [pow128_9] at h
  omega
/-- a laid number is taken -/
theorem numG_num (f : Nat) : ∀ (k acc n : Nat) (r : List UInt8), k + f = 9 → n * 128 ^ k < 18446744073709551616 → (0 < k → 0 < n) → numG k acc (numF f n ++ r) = (acc + n * 128 ^ k, k + (numF f n).length, 0) := by
  induction f with
  | zero =>
    intro k acc n r hk hn h0
    have e : k = 9 := by omega
    subst e
    have h1 := lt_of_pow9 n hn
    have h2 := h0 (by omega)
    have h3 := ofNat_small n (by omega)
    simp only [numF, List.cons_append, List.nil_append, numG, h3]
    rw [if_neg (by omega), if_pos (by omega), if_neg (by omega), Nat.mod_eq_of_lt (by omega)]
    rfl
  | succ f ih =>
    intro k acc n r hk hn h0
    rw [numF]
    split
    · rename_i h1
      have h3 := ofNat_small n (by omega)
      simp only [List.cons_append, List.nil_append, numG, h3]
      rw [if_neg (by omega), if_pos (by omega), if_neg (by omega), Nat.mod_eq_of_lt (by omega)]
      rfl
    · rename_i h1
      have h3 := ofNat_small (n % 128 + 128) (by omega)
      have h4 : (n % 128 + 128) % 128 = n % 128 := by omega
      have h5 : n / 128 * 128 ≤ n := Nat.div_mul_le_self n 128
      have h6 : n / 128 * 128 ^ (k + 1) < 18446744073709551616 := by
        rw [Nat.pow_succ, Nat.mul_comm (128 ^ k) 128, ← Nat.mul_assoc]
        exact Nat.lt_of_le_of_lt (Nat.mul_le_mul_right _ h5) hn
      simp only [List.cons_append, numG, h3]
      rw [if_neg (by omega), if_neg (by omega), ih (k + 1) _ (n / 128) r (by omega) h6 (by omega), h4]
      have h7 : n % 128 * 128 ^ k + n / 128 * 128 ^ (k + 1) = n * 128 ^ k := by
        rw [Nat.pow_succ, Nat.mul_comm (128 ^ k) 128, ← Nat.mul_assoc, ← Nat.add_mul]
        congr 1
        omega
      rw [Nat.add_assoc, h7, List.length_cons]
      have h8 : k + 1 + (numF f (n / 128)).length = k + ((numF f (n / 128)).length + 1) := by omega
      rw [h8]
theorem number_num (n : Nat) (r : List UInt8) (hn : n < 18446744073709551616) : number (num n ++ r) = (n, (num n).length, 0) := by
  have := numG_num 9 0 0 n r (by omega) (by simpa using hn) (by omega)
  unfold number num
  rw [this]
  simp
/-- what is taken is what is laid -/
theorem numG_back (l : List UInt8) : ∀ (k acc v k' : Nat), k ≤ 9 → numG k acc l = (v, k', 0) → ∃ n, v = acc + n * 128 ^ k ∧ k' = k + (numF (9 - k) n).length ∧ l.take (numF (9 - k) n).length = numF (9 - k) n ∧ (0 < k → 0 < n) := by
  induction l with
  | nil => intro k acc v k' _ h; simp [numG] at h
  | cons x r ih =>
    intro k acc v k' hk h
    have hx : x.toNat < 256 := UInt8.toNat_lt x
    rw [numG] at h
    split at h
    · simp at h
    · rename_i h1
      split at h
      · rename_i h2
        split at h
        · simp at h
        · rename_i h3
          simp only [Prod.mk.injEq, and_true] at h
          obtain ⟨rfl, rfl⟩ := h
          have e : numF (9 - k) x.toNat = [x] := by
            rcases Nat.eq_zero_or_pos (9 - k) with h0 | h0
            · rw [h0]; simp [numF]
            · rw [show 9 - k = (9 - k - 1) + 1 from by omega, numF, if_pos (by omega)]; simp
          refine ⟨x.toNat, ?_, ?_, ?_, fun _ => by omega⟩
          · rw [Nat.mod_eq_of_lt h2]
          · rw [e]; rfl
          · rw [e]; rfl
      · rename_i h2
        have hk9 : k < 9 := by omega
        obtain ⟨n, h3, h4, h5, h6⟩ := ih (k + 1) _ v k' (by omega) h
        have h7 := h6 (by omega)
        have e : numF (9 - k) (x.toNat % 128 + 128 * n) = x :: numF (9 - (k + 1)) n := by
          rw [show 9 - k = (9 - (k + 1)) + 1 from by omega, numF, if_neg (by omega)]
          have e1 : (x.toNat % 128 + 128 * n) % 128 + 128 = x.toNat := by omega
          have e2 : (x.toNat % 128 + 128 * n) / 128 = n := by omega
          rw [e1, e2]
          simp
        refine ⟨x.toNat % 128 + 128 * n, ?_, ?_, ?_, fun _ => by omega⟩
        · rw [h3, Nat.add_mul, Nat.add_assoc]
          congr 2
          rw [Nat.pow_succ, Nat.mul_comm (128 ^ k) 128, ← Nat.mul_assoc, Nat.mul_comm n 128]
        · rw [e, h4, List.length_cons]; omega
        · rw [e, List.length_cons, List.take_succ_cons, h5]
theorem number_back (l : List UInt8) (n k : Nat) (h : number l = (n, k, 0)) : k = (num n).length ∧ l.take k = num n := by
  obtain ⟨m, h1, h2, h3, _⟩ := numG_back l 0 0 n k (by omega) h
  simp only [Nat.zero_add, Nat.pow_zero, Nat.mul_one, Nat.sub_zero] at h1 h2 h3
  subst h1
  exact ⟨h2, by rw [h2]; exact h3⟩
/-- what is cut is too short -/
theorem numG_cut (f : Nat) : ∀ (k acc n j : Nat), k + f = 9 → j < (numF f n).length → numG k acc ((numF f n).take j) = (0, 0, 10) := by
  induction f with
  | zero =>
    intro k acc n j _ hj
    simp only [numF, List.length_singleton] at hj
    have e : j = 0 := by omega
    subst e
    rfl
  | succ f ih =>
    intro k acc n j hk hj
    rw [numF] at hj ⊢
    split at hj
    · rename_i h1
      simp only [List.length_singleton] at hj
      have e : j = 0 := by omega
      subst e
      rfl
    · rename_i h1
      rw [if_neg h1]
      cases j with
      | zero => rfl
      | succ j =>
        have h3 := ofNat_small (n % 128 + 128) (by omega)
        simp only [List.length_cons] at hj
        rw [List.take_succ_cons, numG, h3, if_neg (by omega), if_neg (by omega)]
        exact ih (k + 1) _ (n / 128) j (by omega) (by omega)
theorem number_cut (n j : Nat) (h : j < (num n).length) : number ((num n).take j) = (0, 0, 10) := numG_cut 9 0 0 n j (by omega) h
/-- the greater has no fewer bytes -/
theorem numF_mono (f : Nat) : ∀ m n, m ≤ n → (numF f m).length ≤ (numF f n).length := by
  induction f with
  | zero => intro m n _; simp [numF]
  | succ f ih =>
    intro m n h
    rw [numF, numF]
    have := ih (m / 128) (n / 128) (Nat.div_le_div_right h)
    split <;> split <;> simp <;> omega
theorem num_mono (m n : Nat) (h : m ≤ n) : (num m).length ≤ (num n).length := numF_mono 9 m n h
theorem leN_fix (k : Nat) : ∀ n, leN (fix n k) = n % 256 ^ k := by
  induction k with
  | zero => intro n; simp [fix, leN, Nat.mod_one]
  | succ k ih =>
    intro n
    rw [fix, leN, ih, Nat.pow_succ, Nat.mul_comm (256 ^ k) 256, Nat.mod_mul, UInt8.toNat_ofNat']
theorem leN_fix8 (n : Nat) (h : n < 18446744073709551616) : leN (fix n 8) = n := by
  rw [leN_fix, Nat.mod_eq_of_lt]
  exact Nat.lt_of_lt_of_le h (by decide)
theorem fix_leN (l : List UInt8) : fix (leN l) l.length = l := by
  induction l with
  | nil => rfl
  | cons x r ih =>
    have hx : x.toNat < 256 := UInt8.toNat_lt x
    rw [leN, List.length_cons, fix]
    have e1 : (x.toNat + 256 * leN r) / 256 = leN r := by omega
    have e2 : UInt8.ofNat (x.toNat + 256 * leN r) = x := by
      apply UInt8.toNat_inj.1
      rw [UInt8.toNat_ofNat']
      omega
    rw [e1, e2, ih]
theorem sNum_num (n : Nat) (r : List UInt8) (hn : n < 18446744073709551616) : sNum (num n ++ r, 0) = (n, r, 0) := by
  unfold sNum
  rw [if_pos rfl]
  simp only [number_num n r hn, List.drop_left]
theorem sFix_fix8 (n : Nat) (r : List UInt8) (hn : n < 18446744073709551616) : sFix 8 (fix n 8 ++ r, 0) = (n, r, 0) := by
  unfold sFix
  have hl := fix_length 8 n
  rw [if_neg (by simp), if_neg (by omega), if_neg (by simp [hl]; omega)]
  have h1 : (fix n 8 ++ r).take 8 = fix n 8 := by rw [List.take_append_of_le_length (by omega), List.take_of_length_le (by omega)]
  have h2 : (fix n 8 ++ r).drop 8 = r := by rw [List.drop_append_of_le_length (by omega), List.drop_of_length_le (by omega)]; rfl
  simp only [show (8 : Int).toNat = 8 from rfl, h1, h2, leN_fix8 n hn]
theorem sStr_str (most : Int) (t r : List UInt8) (hm : (t.length : Int) ≤ max 0 most) (ht : t.length < 18446744073709551616) : sStr most (num t.length ++ t ++ r, 0) = (t, r, 0) := by
  unfold sStr
  have hn := number_num t.length (t ++ r) ht
  rw [← List.append_assoc] at hn
  have hl : (num t.length ++ t ++ r).length = (num t.length).length + t.length + r.length := by simp; omega
  have h1 : (num t.length ++ t ++ r).take ((num t.length).length + t.length) = num t.length ++ t := by
    rw [List.take_append_of_le_length (by simp), List.take_of_length_le (by simp)]
  have h2 : (num t.length ++ t ++ r).drop ((num t.length).length + t.length) = r := by
    rw [show (num t.length).length + t.length = (num t.length ++ t).length from by simp, List.drop_left]
  simp only [hn, hl, h1, h2, List.drop_left]
  rw [if_neg (by simp), if_neg (by simp), if_neg (by omega), if_neg (by omega)]
end Go.Proofs.YtjkcdnangmjoeaaDoor

namespace Go.Proofs.YtjkcdnangmjoeaaDoor

/-- a head: kind, level, generation, opening, number -/
structure Hd where
  k : Nat
  lv : Nat
  g : Nat
  e : Nat
  n : Nat
deriving DecidableEq
def Hd.ok (h : Hd) : Prop := h.k < 256 ∧ h.lv < 256 ∧ h.g < 18446744073709551616 ∧ h.e < 18446744073709551616 ∧ h.n < 18446744073709551616
def hd0 : Hd := ⟨0, 0, 0, 0, 0⟩
theorem hd0_ok : hd0.ok := by unfold Hd.ok hd0; simp
/-- a head that may be -/
def rightH (h : Hd) : Bool := if h.k = 2 then decide (h.lv < 5) else decide ((h.k = 1 ∨ h.k = 3) ∧ h.lv = 0 ∧ h.g = 0)
def sTant : List UInt8 := [116, 97, 110, 116]
/-- a head's bytes -/
def layH (h : Hd) : List UInt8 := sTant ++ [UInt8.ofNat h.k, UInt8.ofNat h.lv] ++ fix h.g 8 ++ fix h.e 8 ++ fix h.n 8
theorem layH_len (h : Hd) : (layH h).length = 30 := by simp [layH, sTant, fix_length]
/-- what bytes say of a head, right or not -/
def readH (l : List UInt8) : Hd := ⟨(l.getD 4 0).toNat, (l.getD 5 0).toNat, leN ((l.drop 6).take 8), leN ((l.drop 14).take 8), leN ((l.drop 22).take 8)⟩
theorem leN_take8 (l : List UInt8) : leN (l.take 8) < 18446744073709551616 := by
  have h := leN_lt (l.take 8)
  have h2 : (l.take 8).length ≤ 8 := by rw [List.length_take]; omega
  have h3 : 256 ^ (l.take 8).length ≤ 256 ^ 8 := Nat.pow_le_pow_right (by omega) h2
  have h4 : (256 : Nat) ^ 8 = 18446744073709551616 := by decide
  omega
theorem readH_ok (l : List UInt8) : (readH l).ok := ⟨UInt8.toNat_lt _, UInt8.toNat_lt _, leN_take8 _, leN_take8 _, leN_take8 _⟩
/-- the head that stands ahead of bytes, or its fault -/
def takeH (l : List UInt8) : Hd × Nat :=
  if l.length < 30 then (hd0, 10) else if l.take 4 = sTant ∧ rightH (readH l) = true then (readH l, 0) else (hd0, 70)
theorem takeH_ok (l : List UInt8) : (takeH l).1.ok := by
  unfold takeH
  split
  · exact hd0_ok
  · split
    · exact readH_ok l
    · exact hd0_ok
theorem fix_take8 (l : List UInt8) (h : 8 ≤ l.length) : fix (leN (l.take 8)) 8 = l.take 8 := by
  have h2 : (l.take 8).length = 8 := by rw [List.length_take]; omega
  have := fix_leN (l.take 8)
  rwa [h2] at this
/-- bytes are what their head is laid as, but for the word ahead -/
theorem layH_readH (l : List UInt8) (h : 30 ≤ l.length) : layH (readH l) = sTant ++ (l.drop 4).take 26 := by
  unfold layH readH
  rw [fix_take8 _ (by rw [List.length_drop]; omega), fix_take8 _ (by rw [List.length_drop]; omega), fix_take8 _ (by rw [List.length_drop]; omega)]
  simp only [UInt8.ofNat_toNat, List.append_assoc, List.append_cancel_left_eq]
  have e1 : (l.drop 4).take 26 = l.getD 4 0 :: l.getD 5 0 :: ((l.drop 6).take 24) := by
    rw [List.drop_eq_getElem_cons (by omega : 4 < l.length), List.drop_eq_getElem_cons (by omega : 4 + 1 < l.length), show (26 : Nat) = 24 + 1 + 1 from rfl, List.take_succ_cons, List.take_succ_cons]
    simp [List.getD_eq_getElem?_getD, List.getElem?_eq_getElem (by omega : 4 < l.length), List.getElem?_eq_getElem (by omega : 5 < l.length)]
  have e2 : (l.drop 6).take 24 = (l.drop 6).take 8 ++ ((l.drop 14).take 8 ++ (l.drop 22).take 8) := by
    rw [show (24 : Nat) = 8 + 16 from rfl, List.take_add, List.drop_drop, show (16 : Nat) = 8 + 8 from rfl, List.take_add, List.drop_drop]
  rw [e1, e2]
  rfl
/-- the reference's question -/
theorem lay_iff (l : List UInt8) (h : 30 ≤ l.length) : layH (readH l) = l.take 30 ↔ l.take 4 = sTant := by
  rw [layH_readH l h, show (30 : Nat) = 4 + 26 from rfl, List.take_add]
  constructor
  · intro e
    have h := congrArg (List.take 4) e
    rw [List.take_left' (show (List.take 4 l).length = 4 by rw [List.length_take]; omega)] at h
    exact h.symm
  · intro e
    rw [e]
theorem takeH_ref (l : List UInt8) (h : 30 ≤ l.length) : takeH l = if rightH (readH l) = true ∧ layH (readH l) = l.take 30 then (readH l, 0) else (hd0, 70) := by
  unfold takeH
  rw [if_neg (by omega)]
  by_cases h1 : l.take 4 = sTant
  · by_cases h2 : rightH (readH l) = true
    · rw [if_pos ⟨h1, h2⟩, if_pos ⟨h2, (lay_iff l h).2 h1⟩]
    · rw [if_neg (fun x => h2 x.2), if_neg (fun x => h2 x.1)]
  · rw [if_neg (fun x => h1 x.1), if_neg (fun x => h1 ((lay_iff l h).1 x.2))]
theorem layH_split (h : Hd) (r : List UInt8) : layH h ++ r = sTant ++ (UInt8.ofNat h.k :: UInt8.ofNat h.lv :: (fix h.g 8 ++ (fix h.e 8 ++ (fix h.n 8 ++ r)))) := by
  simp [layH]
theorem take_fix (n : Nat) (r : List UInt8) (h : n < 18446744073709551616) : leN ((fix n 8 ++ r).take 8) = n := by
  rw [List.take_left' (fix_length 8 n), leN_fix8 n h]
/-- a head leads back from its bytes, whatever stands behind -/
theorem readH_lay (h : Hd) (r : List UInt8) (ok : h.ok) : readH (layH h ++ r) = h := by
  obtain ⟨h1, h2, h3, h4, h5⟩ := ok
  obtain ⟨k, lv, g, e, n⟩ := h
  rw [layH_split]
  unfold readH
  have d6 : (sTant ++ (UInt8.ofNat k :: UInt8.ofNat lv :: (fix g 8 ++ (fix e 8 ++ (fix n 8 ++ r))))).drop 6 = fix g 8 ++ (fix e 8 ++ (fix n 8 ++ r)) := rfl
  have d14 : (sTant ++ (UInt8.ofNat k :: UInt8.ofNat lv :: (fix g 8 ++ (fix e 8 ++ (fix n 8 ++ r))))).drop 14 = fix e 8 ++ (fix n 8 ++ r) := by
    rw [show (14 : Nat) = 6 + 8 from rfl, ← List.drop_drop, d6, List.drop_left' (fix_length 8 g)]
  have d22 : (sTant ++ (UInt8.ofNat k :: UInt8.ofNat lv :: (fix g 8 ++ (fix e 8 ++ (fix n 8 ++ r))))).drop 22 = fix n 8 ++ r := by
    rw [show (22 : Nat) = 14 + 8 from rfl, ← List.drop_drop, d14, List.drop_left' (fix_length 8 e)]
  show Hd.mk (UInt8.ofNat k).toNat (UInt8.ofNat lv).toNat _ _ _ = _
  rw [d6, d14, d22, take_fix g _ h3, take_fix e _ h4, take_fix n _ h5, ofNat_small k h1, ofNat_small lv h2]
theorem takeH_lay (h : Hd) (r : List UInt8) (ok : h.ok) : takeH (layH h ++ r) = if rightH h = true then (h, 0) else (hd0, 70) := by
  unfold takeH
  have hl := layH_len h
  rw [if_neg (by rw [List.length_append]; omega), readH_lay h r ok]
  have e4 : (layH h ++ r).take 4 = sTant := by rw [layH_split]; rfl
  simp only [e4, true_and]
theorem layH_inj (h i : Hd) (hh : h.ok) (hi : i.ok) : layH h = layH i ↔ h = i := by
  constructor
  · intro e
    have h1 := readH_lay h [] hh
    rw [e, readH_lay i [] hi] at h1
    exact h1.symm
  · intro e; rw [e]
/-- a place's nonce -/
def nonceOf (p : Nat) : List UInt8 := fix p 8 ++ [0, 0, 0, 0]
theorem nonce_len (p : Nat) : (nonceOf p).length = 12 := by simp [nonceOf, fix_length]
theorem nonce_inj (a b : Nat) (ha : a < 18446744073709551616) (hb : b < 18446744073709551616) : nonceOf a = nonceOf b ↔ a = b := by
  constructor
  · intro e
    have h := congrArg (fun l => leN (l.take 8)) e
    simp only [nonceOf] at h
    rwa [take_fix a _ ha, take_fix b _ hb] at h
  · intro e; rw [e]
end Go.Proofs.YtjkcdnangmjoeaaDoor
