/-
  What is proved here (plain law): names of kinds and numbers, what a text's kind and number are, by its ends and by trial: the same. No program in sight.
-/
import Derived.Test.YtjkcdnangmjoeaaNameLaw
import Derived.Lib.Strings
namespace Go.Proofs.Ytjkcdnangmjoeaa

def sLog : List UInt8 := [46, 108, 111, 103]
def sTab : List UInt8 := [46, 116, 97, 98]
def sMan : List UInt8 := [109, 97, 110, 105, 102, 101, 115, 116, 45]
def sCur : List UInt8 := [99, 117, 114, 114, 101, 110, 116]
def sTmp : List UInt8 := [99, 117, 114, 114, 101, 110, 116, 46, 116, 109, 112]
/-- a file's name -/
def nmOf (k n : Nat) : List UInt8 :=
  if k = 1 then dgt n 6 ++ sLog else if k = 2 then dgt n 6 ++ sTab else if k = 3 then sMan ++ dgt n 6 else if k = 4 then sCur else if k = 5 then sTmp else []
/-- the number that a text is -/
def numR (l : List UInt8) : Nat × Bool := if numOK l then (val l, decide (6 ≤ l.length)) else (0, false)
/-- a text's ends: what is left, and the kind (0: none) -/
def endsR (s : List UInt8) : List UInt8 × Nat :=
  if Lib.hasPrefix s sMan then (Lib.trimPrefix s sMan, 3) else if Lib.hasSuffix s sLog then (Lib.trimSuffix s sLog, 1) else if Lib.hasSuffix s sTab then (Lib.trimSuffix s sTab, 2) else (s, 0)
/-- a text's kind and number -/
def parseR (s : List UInt8) : Option (Nat × Nat) :=
  if s = sCur then some (4, 0) else if s = sTmp then some (5, 0)
  else if (endsR s).2 ≠ 0 ∧ (numR (endsR s).1).2 = true then some ((endsR s).2, (numR (endsR s).1).1) else none
/-- the digits that a text begins with -/
def lead : List UInt8 → List UInt8
  | [] => []
  | c :: r => if isD c then c :: lead r else []
def vpre (s : List UInt8) : Nat := val (lead s) % 18446744073709551616
def tryN (s : List UInt8) (k : Nat) : Nat := if 3 < k then 0 else if k = 3 ∧ 9 < s.length then vpre (s.drop 9) else vpre s
/-- a text's kind and number, by trial, from kind k on -/
def trial (s : List UInt8) : Nat → Nat → Option (Nat × Nat)
  | 0, _ => none
  | f + 1, k => if nmOf k (tryN s k) = s then some (k, tryN s k) else trial s f (k + 1)
theorem lead_all (p r : List UInt8) (hd : ∀ c ∈ p, isD c = true) (hr : ∀ c, r.head? = some c → isD c = false) : lead (p ++ r) = p := by
  induction p with
  | nil =>
    cases r with
    | nil => rfl
    | cons c r =>
      rw [List.nil_append]
      show (if isD c then c :: lead r else []) = []
      rw [hr c rfl]
      rfl
  | cons c p ih =>
    rw [List.cons_append]
    show (if isD c then c :: lead (p ++ r) else []) = _
    rw [hd c (by simp), ih (fun x hx => hd x (by simp [hx]))]
    rfl
theorem vpre_dgt (n : Nat) (h : n < 18446744073709551616) (r : List UInt8) (hr : ∀ c, r.head? = some c → isD c = false) : vpre (dgt n 6 ++ r) = n := by
  unfold vpre
  rw [lead_all _ _ (dgt_all n 6) hr, val_dgt, Nat.mod_eq_of_lt h]
theorem numR_dgt (n : Nat) (h : n < 18446744073709551616) : numR (dgt n 6) = (n, true) := by
  unfold numR
  rw [if_pos (numOK_dgt n h), val_dgt, decide_eq_true (dgt_len n 6)]
theorem pre_iff (s p : List UInt8) : Lib.hasPrefix s p = true ↔ ∃ r, s = p ++ r := by
  unfold Lib.hasPrefix
  rw [List.isPrefixOf_iff_prefix]
  exact ⟨fun ⟨r, h⟩ => ⟨r, h.symm⟩, fun ⟨r, h⟩ => ⟨r, h.symm⟩⟩
theorem suf_iff (s p : List UInt8) : Lib.hasSuffix s p = true ↔ ∃ r, s = r ++ p := by
  unfold Lib.hasSuffix
  rw [List.isSuffixOf_iff_suffix]
  exact ⟨fun ⟨r, h⟩ => ⟨r, h.symm⟩, fun ⟨r, h⟩ => ⟨r, h.symm⟩⟩
theorem trimP (p r : List UInt8) : Lib.trimPrefix (p ++ r) p = r := by
  unfold Lib.trimPrefix
  rw [if_pos ((pre_iff _ _).2 ⟨r, rfl⟩), List.drop_left]
theorem trimS (p r : List UInt8) : Lib.trimSuffix (r ++ p) p = r := by
  unfold Lib.trimSuffix
  rw [if_pos ((suf_iff _ _).2 ⟨r, rfl⟩), List.length_append, show r.length + p.length - p.length = r.length by omega, List.take_left]
theorem dgt_head (n : Nat) : ∃ c r, dgt n 6 = c :: r ∧ isD c = true := by
  have h1 := dgt_len n 6
  have h2 := dgt_all n 6
  cases hd : dgt n 6 with
  | nil => rw [hd] at h1; simp at h1
  | cons c r => exact ⟨c, r, rfl, h2 c (by rw [hd]; simp)⟩
theorem no_pre (n : Nat) (q : List UInt8) : Lib.hasPrefix (dgt n 6 ++ q) sMan = false := by
  rw [Bool.eq_false_iff]
  intro h
  obtain ⟨r, hr⟩ := (pre_iff _ _).1 h
  obtain ⟨c, t, e, hc⟩ := dgt_head n
  rw [e] at hr
  have : c = 109 := by
    have := congrArg List.head? hr
    simpa [sMan] using this
  rw [this] at hc
  exact absurd hc (by decide)
theorem no_cur (n : Nat) (q : List UInt8) : dgt n 6 ++ q ≠ sCur ∧ dgt n 6 ++ q ≠ sTmp := by
  obtain ⟨c, t, e, hc⟩ := dgt_head n
  rw [e]
  constructor
  · intro h
    have h2 : c = 99 := by
      have := congrArg List.head? h
      simpa [sCur] using this
    rw [h2] at hc
    exact absurd hc (by decide)
  · intro h
    have h2 : c = 99 := by
      have := congrArg List.head? h
      simpa [sTmp] using this
    rw [h2] at hc
    exact absurd hc (by decide)
theorem tab_log (r : List UInt8) : Lib.hasSuffix (r ++ sTab) sLog = false := by
  rw [Bool.eq_false_iff]
  intro h
  obtain ⟨t, ht⟩ := (suf_iff _ _).1 h
  have h2 := congrArg List.getLast? ht
  rw [List.getLast?_append, List.getLast?_append] at h2
  simp [sTab, sLog] at h2
/-- a name leads back to its kind and number -/
theorem parse_nm (k n : Nat) (hk : 1 ≤ k ∧ k ≤ 5) (hn : n < 18446744073709551616) (h4 : 3 < k → n = 0) : parseR (nmOf k n) = some (k, n) := by
  have hk' : k = 1 ∨ k = 2 ∨ k = 3 ∨ k = 4 ∨ k = 5 := by omega
  rcases hk' with rfl | rfl | rfl | rfl | rfl
  · show parseR (dgt n 6 ++ sLog) = _
    unfold parseR
    rw [if_neg (no_cur n sLog).1, if_neg (no_cur n sLog).2]
    have e : endsR (dgt n 6 ++ sLog) = (dgt n 6, 1) := by
      unfold endsR
      rw [no_pre, if_neg (by simp), if_pos ((suf_iff _ _).2 ⟨_, rfl⟩), trimS]
    rw [e, numR_dgt n hn]
    simp
  · show parseR (dgt n 6 ++ sTab) = _
    unfold parseR
    rw [if_neg (no_cur n sTab).1, if_neg (no_cur n sTab).2]
    have e : endsR (dgt n 6 ++ sTab) = (dgt n 6, 2) := by
      unfold endsR
      rw [no_pre, if_neg (by simp), tab_log, if_neg (by simp), if_pos ((suf_iff _ _).2 ⟨_, rfl⟩), trimS]
    rw [e, numR_dgt n hn]
    simp
  · show parseR (sMan ++ dgt n 6) = _
    unfold parseR
    rw [if_neg (by intro h; simp [sMan, sCur] at h), if_neg (by intro h; simp [sMan, sTmp] at h)]
    have e : endsR (sMan ++ dgt n 6) = (dgt n 6, 3) := by
      unfold endsR
      rw [if_pos ((pre_iff _ _).2 ⟨_, rfl⟩), trimP]
    rw [e, numR_dgt n hn]
    simp
  · rw [h4 (by omega)]
    rfl
  · rw [h4 (by omega)]
    have e : nmOf 5 0 = sTmp := rfl
    rw [e]
    unfold parseR
    rw [if_neg (by decide), if_pos rfl]
theorem numR_true {l : List UInt8} (h : (numR l).2 = true) : dgt (numR l).1 6 = l ∧ (numR l).1 < 18446744073709551616 := by
  unfold numR at *
  split at h
  · rename_i hok
    rw [if_pos hok]
    have h6 : 6 ≤ l.length := of_decide_eq_true h
    exact ⟨dgt_iff l hok h6, hok.2.1⟩
  · cases h
/-- what is parsed is that name -/
theorem nm_parse (s : List UInt8) (k n : Nat) (h : parseR s = some (k, n)) : nmOf k n = s ∧ 1 ≤ k ∧ k ≤ 5 ∧ n < 18446744073709551616 ∧ (3 < k → n = 0) := by
  unfold parseR at h
  split at h
  · rename_i e
    injection h with h
    injection h with h1 h2
    subst h1; subst h2
    exact ⟨e.symm, by omega, by omega, by omega, fun _ => rfl⟩
  · split at h
    · rename_i e
      injection h with h
      injection h with h1 h2
      subst h1; subst h2
      exact ⟨e.symm, by omega, by omega, by omega, fun _ => rfl⟩
    · split at h
      · rename_i hb
        injection h with h
        injection h with h1 h2
        obtain ⟨hk0, hnum⟩ := hb
        obtain ⟨hd, hlt⟩ := numR_true hnum
        rw [h2] at hd hlt
        have hs : ((endsR s).2 = 3 ∧ s = sMan ++ (endsR s).1) ∨ ((endsR s).2 = 1 ∧ s = (endsR s).1 ++ sLog) ∨ ((endsR s).2 = 2 ∧ s = (endsR s).1 ++ sTab) := by
          unfold endsR at hk0 ⊢
          split
          · rename_i hp
            obtain ⟨r, hr⟩ := (pre_iff _ _).1 hp
            exact Or.inl ⟨rfl, by rw [hr, trimP]⟩
          · split
            · rename_i hp
              obtain ⟨r, hr⟩ := (suf_iff _ _).1 hp
              exact Or.inr (Or.inl ⟨rfl, by rw [hr, trimS]⟩)
            · split
              · rename_i hp
                obtain ⟨r, hr⟩ := (suf_iff _ _).1 hp
                exact Or.inr (Or.inr ⟨rfl, by rw [hr, trimS]⟩)
              · rename_i h1 h2 h3
                rw [if_neg h1, if_neg h2, if_neg h3] at hk0
                exact absurd rfl hk0
        rcases hs with ⟨e, hs⟩ | ⟨e, hs⟩ | ⟨e, hs⟩
        · rw [e] at h1
          subst h1
          refine ⟨?_, by omega, by omega, hlt, fun h => by omega⟩
          show sMan ++ dgt n 6 = s
          rw [hd, ← hs]
        · rw [e] at h1
          subst h1
          refine ⟨?_, by omega, by omega, hlt, fun h => by omega⟩
          show dgt n 6 ++ sLog = s
          rw [hd, ← hs]
        · rw [e] at h1
          subst h1
          refine ⟨?_, by omega, by omega, hlt, fun h => by omega⟩
          show dgt n 6 ++ sTab = s
          rw [hd, ← hs]
      · cases h
theorem tryN_lt (s : List UInt8) (k : Nat) : tryN s k < 18446744073709551616 ∧ (3 < k → tryN s k = 0) := by
  unfold tryN vpre
  refine ⟨?_, fun h => by rw [if_pos h]⟩
  split
  · omega
  · split
    · omega
    · omega
theorem tryN_nm (k n : Nat) (hk : 1 ≤ k ∧ k ≤ 5) (hn : n < 18446744073709551616) (h4 : 3 < k → n = 0) : tryN (nmOf k n) k = n := by
  have hk' : k = 1 ∨ k = 2 ∨ k = 3 ∨ 3 < k := by omega
  rcases hk' with rfl | rfl | rfl | h
  · show (if 3 < 1 then 0 else if 1 = 3 ∧ _ then _ else vpre (dgt n 6 ++ sLog)) = n
    rw [if_neg (by omega), if_neg (by omega)]
    exact vpre_dgt n hn sLog (fun c hc => by simp [sLog] at hc; subst hc; decide)
  · show (if 3 < 2 then 0 else if 2 = 3 ∧ _ then _ else vpre (dgt n 6 ++ sTab)) = n
    rw [if_neg (by omega), if_neg (by omega)]
    exact vpre_dgt n hn sTab (fun c hc => by simp [sTab] at hc; subst hc; decide)
  · have hl := dgt_len n 6
    have e : nmOf 3 n = sMan ++ dgt n 6 := rfl
    rw [e]
    unfold tryN
    rw [if_neg (by omega), if_pos ⟨rfl, by rw [List.length_append]; simp [sMan]; omega⟩]
    rw [show (sMan ++ dgt n 6).drop 9 = dgt n 6 from List.drop_left' rfl]
    have := vpre_dgt n hn [] (fun c hc => by simp at hc)
    rwa [List.append_nil] at this
  · rw [(tryN_lt _ k).2 h, h4 h]
/-- by trial: the same -/
theorem trial_parse (s : List UInt8) : trial s 5 1 = parseR s := by
  have key : ∀ f k, f + k = 6 → 1 ≤ k → (∀ j, 1 ≤ j → j < k → nmOf j (tryN s j) ≠ s) → trial s f k = parseR s := by
    intro f
    induction f with
    | zero =>
      intro k hk _ hno
      show none = parseR s
      cases hp : parseR s with
      | none => rfl
      | some x =>
        obtain ⟨j, n⟩ := x
        obtain ⟨h1, h2, h3, h4, h5⟩ := nm_parse s j n hp
        have e := tryN_nm j n ⟨h2, h3⟩ h4 h5
        rw [h1] at e
        exact absurd (by rw [e]; exact h1) (hno j h2 (by omega))
    | succ f ih =>
      intro k hk hk1 hno
      show (if nmOf k (tryN s k) = s then some (k, tryN s k) else trial s f (k + 1)) = _
      by_cases h : nmOf k (tryN s k) = s
      · rw [if_pos h]
        have h2 := parse_nm k (tryN s k) ⟨hk1, by omega⟩ (tryN_lt s k).1 (tryN_lt s k).2
        rw [h] at h2
        exact h2.symm
      · rw [if_neg h]
        refine ih (k + 1) (by omega) (by omega) (fun j hj hjk => ?_)
        by_cases e : j = k
        · subst e; exact h
        · exact hno j hj (by omega)
  exact key 5 1 rfl (by omega) (fun j h1 h2 => by omega)
end Go.Proofs.Ytjkcdnangmjoeaa
