/-
  What is proved here (plain law): the digest of a list by halves, and by a stack of whole trees: the same. No program in sight.
-/
import Derived.Test.YtjmlohfldkbbaaaDoorShaLaw2
namespace Go.Proofs.YtjmlohfldkbbaaaDoor

/-- the greatest power of two below n (1, where there is none) -/
def part (n : Nat) : Nat := if n ≤ 2 then 1 else 2 * part ((n + 1) / 2)
termination_by n
theorem part_small {n : Nat} (h : n ≤ 2) : part n = 1 := by rw [part, if_pos h]
theorem part_big {n : Nat} (h : 2 < n) : part n = 2 * part ((n + 1) / 2) := by rw [part, if_neg (by omega)]
theorem part_pos (n : Nat) : 0 < part n := by
  induction n using Nat.strongRecOn with
  | _ n ih =>
    by_cases h : n ≤ 2
    · rw [part_small h]; omega
    · rw [part_big (by omega)]
      have := ih ((n + 1) / 2) (by omega)
      omega
theorem part_lt {n : Nat} (h : 2 ≤ n) : part n < n := by
  induction n using Nat.strongRecOn with
  | _ n ih =>
    by_cases h2 : n ≤ 2
    · rw [part_small h2]; omega
    · rw [part_big (by omega)]
      have := ih ((n + 1) / 2) (by omega) (by omega)
      omega
theorem part_half {n : Nat} (h : 2 ≤ n) : n ≤ 2 * part n := by
  induction n using Nat.strongRecOn with
  | _ n ih =>
    by_cases h2 : n ≤ 2
    · rw [part_small h2]; omega
    · rw [part_big (by omega)]
      have := ih ((n + 1) / 2) (by omega) (by omega)
      omega
theorem part_even {n : Nat} (h : 2 < n) : part n % 2 = 0 := by rw [part_big h]; omega

section
variable {D : Type} (jn : D → D → D)
/-- the digest of a list that is not empty, by halves -/
def rootR (z : D) (l : List D) : D :=
  match h : l with
  | [] => z
  | [x] => x
  | x :: y :: r => jn (rootR z ((x :: y :: r).take (part (x :: y :: r).length))) (rootR z ((x :: y :: r).drop (part (x :: y :: r).length)))
termination_by l.length
decreasing_by
  · subst h
    have h1 := part_lt (n := (x :: y :: r).length) (by simp)
    rw [List.length_take]
    omega
  · subst h
    have h1 := part_pos (x :: y :: r).length
    have h2 : 0 < (x :: y :: r).length := by simp
    rw [List.length_drop]
    omega
theorem rootR_one (z x : D) : rootR jn z [x] = x := by rw [rootR]
theorem rootR_more (z : D) (l : List D) (h : 2 ≤ l.length) : rootR jn z l = jn (rootR jn z (l.take (part l.length))) (rootR jn z (l.drop (part l.length))) := by
  match l, h with
  | x :: y :: r, _ => rw [rootR]
/-- two and two -/
def pairs : List D → List D
  | x :: y :: r => jn x y :: pairs r
  | _ => []
theorem pairs_length : ∀ l : List D, (pairs jn l).length = l.length / 2
  | [] => by simp [pairs]
  | [_] => by simp [pairs]
  | x :: y :: r => by rw [pairs, List.length_cons, pairs_length r, List.length_cons, List.length_cons]; omega
theorem pairs_take : ∀ (k : Nat) (l : List D), 2 * k ≤ l.length → pairs jn (l.take (2 * k)) = (pairs jn l).take k
  | 0, l, _ => by rw [Nat.mul_zero, List.take_zero, List.take_zero]; rfl
  | k + 1, l, h => by
    match l, h with
    | x :: y :: r, h =>
      rw [show 2 * (k + 1) = 2 * k + 1 + 1 from rfl, List.take_succ_cons, List.take_succ_cons, pairs, pairs, List.take_succ_cons, pairs_take k r (by simp at h; omega)]
    | [x], h => simp at h; omega
    | [], h => simp at h
theorem pairs_drop : ∀ (k : Nat) (l : List D), 2 * k ≤ l.length → pairs jn (l.drop (2 * k)) = (pairs jn l).drop k
  | 0, l, _ => by simp
  | k + 1, l, h => by
    match l, h with
    | x :: y :: r, h =>
      rw [show 2 * (k + 1) = 2 * k + 1 + 1 from rfl, List.drop_succ_cons, List.drop_succ_cons, pairs, List.drop_succ_cons, pairs_drop k r (by simp at h; omega)]
    | [x], h => simp at h; omega
    | [], h => simp at h
theorem pairs_app : ∀ (l : List D) (x y : D), l.length % 2 = 0 → pairs jn (l ++ [x, y]) = pairs jn l ++ [jn x y]
  | [], _, _, _ => rfl
  | [_], _, _, h => by simp at h
  | a :: b :: r, x, y, h => by
    rw [List.cons_append, List.cons_append, pairs, pairs_app r x y (by simp at h; omega), pairs, List.cons_append]
/-- a list of even length and its pairs have one digest -/
theorem rootR_pairs (z : D) (l : List D) (he : l.length % 2 = 0) (h0 : 0 < l.length) : rootR jn z l = rootR jn z (pairs jn l) := by
  generalize hn : l.length = n
  induction n using Nat.strongRecOn generalizing l with
  | _ n ih =>
    have hpl := pairs_length jn l
    by_cases h2 : n ≤ 2
    · match l, hn with
      | [x, y], _ =>
        rw [rootR_more jn z [x, y] (by simp)]
        have hp : part ([x, y] : List D).length = 1 := part_small (by simp)
        rw [hp]
        show jn (rootR jn z [x]) (rootR jn z [y]) = rootR jn z [jn x y]
        rw [rootR_one, rootR_one, rootR_one]
      | [], hn => simp at h0
      | [x], hn => simp at he
      | x :: y :: w :: r, hn => simp at hn; omega
    · obtain ⟨q, hq⟩ : ∃ q, q = part ((n + 1) / 2) := ⟨_, rfl⟩
      have hpn : part n = 2 * q := by rw [part_big (by omega), hq]
      have hpq : part (n / 2) = q := by rw [hq]; congr 1; omega
      have h3 := part_lt (n := n) (by omega)
      have h4 := part_pos ((n + 1) / 2)
      rw [rootR_more jn z l (by omega), rootR_more jn z (pairs jn l) (by rw [hpl]; omega), hpl, hn, hpn, hpq, ← pairs_take jn q l (by omega), ← pairs_drop jn q l (by omega)]
      rw [ih (2 * q) (by omega) (l.take (2 * q)) (by rw [List.length_take]; omega) (by rw [List.length_take]; omega) (by rw [List.length_take]; omega)]
      rw [ih (n - 2 * q) (by omega) (l.drop (2 * q)) (by rw [List.length_drop]; omega) (by rw [List.length_drop]; omega) (by rw [List.length_drop]; omega)]
/-- the stack behind a list, its top first -/
def stk (l : List D) : List D :=
  if h0 : l = [] then [] else if l.length % 2 = 1 then l.getLast h0 :: stk (pairs jn l.dropLast) else stk (pairs jn l)
termination_by l.length
decreasing_by
  · rw [pairs_length, List.length_dropLast]
    have : 0 < l.length := List.length_pos_iff.2 h0
    omega
  · rw [pairs_length]
    have : 0 < l.length := List.length_pos_iff.2 h0
    omega
theorem stk_nil : stk jn ([] : List D) = [] := by rw [stk, dif_pos rfl]
theorem stk_odd (l : List D) (x : D) (h : l.length % 2 = 0) : stk jn (l ++ [x]) = x :: stk jn (pairs jn l) := by
  rw [stk, dif_neg (by simp), if_pos (by rw [List.length_append, List.length_singleton]; omega)]
  simp
theorem stk_even (l : List D) (h : l.length % 2 = 0) : stk jn l = stk jn (pairs jn l) := by
  by_cases h0 : l = []
  · subst h0; rfl
  · conv => lhs; rw [stk]
    rw [dif_neg h0, if_neg (by omega)]
/-- one more item: n are there -/
def push (st : List D) (n : Nat) (d : D) : List D :=
  if n % 2 = 1 then (match st with | t :: r => push r (n / 2) (jn t d) | [] => [d]) else d :: st
termination_by n
decreasing_by omega
theorem push_even (st : List D) {n : Nat} (d : D) (h : n % 2 = 0) : push jn st n d = d :: st := by
  conv => lhs; unfold push
  rw [if_neg (by omega)]
theorem push_odd (t : D) (r : List D) {n : Nat} (d : D) (h : n % 2 = 1) : push jn (t :: r) n d = push jn r (n / 2) (jn t d) := by
  conv => lhs; unfold push
  rw [if_pos h]
theorem stk_push (l : List D) (d : D) : stk jn (l ++ [d]) = push jn (stk jn l) l.length d := by
  generalize hn : l.length = n
  induction n using Nat.strongRecOn generalizing l d with
  | _ n ih =>
    by_cases he : n % 2 = 0
    · rw [push_even jn _ d he, stk_odd jn l d (by omega), ← stk_even jn l (by omega)]
    · have hne : l ≠ [] := by intro e; subst e; simp at hn; omega
      obtain ⟨i, x, rfl⟩ : ∃ i x, l = i ++ [x] := ⟨_, _, (List.dropLast_concat_getLast hne).symm⟩
      rw [List.length_append, List.length_singleton] at hn
      have hi : i.length % 2 = 0 := by omega
      rw [List.append_assoc, stk_even jn _ (by simp; omega)]
      show stk jn (pairs jn (i ++ [x, d])) = _
      rw [pairs_app jn i x d hi, stk_odd jn i x hi, push_odd jn _ _ d (by omega)]
      have := ih (n / 2) (by omega) (pairs jn i) (jn x d) (by rw [pairs_length]; omega)
      exact this
/-- the stack's last is the digest of the greatest whole tree -/
theorem stk_last (z : D) (l : List D) (h0 : 0 < l.length) : stk jn l = stk jn (l.drop (part (l.length + 1))) ++ [rootR jn z (l.take (part (l.length + 1)))] := by
  generalize hn : l.length = n
  induction n using Nat.strongRecOn generalizing l with
  | _ n ih =>
    by_cases h1 : n = 1
    · match l, hn with
      | [x], _ =>
        subst h1
        rw [part_small (by omega)]
        show stk jn ([] ++ [x]) = stk jn [] ++ [rootR jn z [x]]
        rw [stk_odd jn [] x rfl, rootR_one]
        show x :: stk jn [] = _
        rw [stk_nil]
        rfl
      | [], hn => simp at h0
      | x :: y :: r, hn => simp at hn; omega
    · obtain ⟨q, hq⟩ : ∃ q, q = part (n / 2 + 1) := ⟨_, rfl⟩
      have hp : part (n + 1) = 2 * q := by rw [part_big (by omega), hq]; congr 2; omega
      have hlt : part (n / 2 + 1) < n / 2 + 1 := part_lt (by omega)
      have hpos := part_pos (n / 2 + 1)
      rw [hp]
      by_cases he : n % 2 = 0
      · have e1 := ih (n / 2) (by omega) (pairs jn l) (by rw [pairs_length]; omega) (by rw [pairs_length]; omega)
        rw [← hq] at e1
        rw [stk_even jn l (by omega), e1, ← pairs_take jn q l (by omega), ← pairs_drop jn q l (by omega), ← stk_even jn _ (by rw [List.length_drop]; omega), ← rootR_pairs jn z _ (by rw [List.length_take]; omega) (by rw [List.length_take]; omega)]
      · have hne : l ≠ [] := by intro e; subst e; simp at h0
        obtain ⟨i, x, rfl⟩ : ∃ i x, l = i ++ [x] := ⟨_, _, (List.dropLast_concat_getLast hne).symm⟩
        rw [List.length_append, List.length_singleton] at hn
        have hi : i.length % 2 = 0 := by omega
        have e1 := ih (n / 2) (by omega) (pairs jn i) (by rw [pairs_length]; omega) (by rw [pairs_length]; omega)
        rw [← hq] at e1
        rw [stk_odd jn i x hi, e1, ← pairs_take jn q i (by omega), ← pairs_drop jn q i (by omega), ← rootR_pairs jn z _ (by rw [List.length_take]; omega) (by rw [List.length_take]; omega),
          List.drop_append_of_le_length (by omega), List.take_append_of_le_length (by omega), stk_odd jn (i.drop (2 * q)) x (by rw [List.length_drop]; omega)]
        rfl
/-- the stack joined, from its top on -/
def fold1 (z : D) : List D → D
  | [] => z
  | t :: r => r.foldl (fun d x => jn x d) t
theorem fold1_app (z : D) (st : List D) (x : D) (h : st ≠ []) : fold1 jn z (st ++ [x]) = jn x (fold1 jn z st) := by
  cases st with
  | nil => exact absurd rfl h
  | cons t r => simp [fold1, List.foldl_append]
theorem stk_ne (l : List D) (h : 0 < l.length) : stk jn l ≠ [] := by
  intro e
  match l, h with
  | x :: r, h =>
    have := stk_last jn x (x :: r) h
    rw [e] at this
    simp at this
/-- THE STACK's DIGEST IS THE ONE BY HALVES -/
theorem fold_stk (z : D) (l : List D) (h : 0 < l.length) : fold1 jn z (stk jn l) = rootR jn z l := by
  generalize hn : l.length = n
  induction n using Nat.strongRecOn generalizing l with
  | _ n ih =>
    rw [stk_last jn z l h, hn]
    have hp := part_lt (n := n + 1) (by omega)
    have hpos := part_pos (n + 1)
    by_cases hk : part (n + 1) = n
    · rw [hk, List.drop_eq_nil_of_le (by omega), List.take_of_length_le (by omega), stk_nil]
      rfl
    · have h2 : 2 ≤ n := by omega
      have hpp : part n = part (n + 1) := by
        have h3 := part_half (n := n) h2
        have h4 := part_half (n := n + 1) (by omega)
        have key : ∀ m, 2 ≤ m → part (m + 1) ≠ m → part m = part (m + 1) := by
          intro m
          induction m using Nat.strongRecOn with
          | _ m ihm =>
            intro hm hne
            by_cases hm2 : m = 2
            · subst hm2
              exact absurd (by decide +kernel) hne
            · rw [part_big (n := m) (by omega), part_big (n := m + 1) (by omega)]
              by_cases hev : m % 2 = 0
              · have e1 : (m + 1) / 2 = m / 2 := by omega
                have e2 : (m + 1 + 1) / 2 = m / 2 + 1 := by omega
                rw [e1, e2]
                congr 1
                refine ihm (m / 2) (by omega) (by omega) (fun e => hne ?_)
                rw [part_big (by omega), e2, e]
                omega
              · have e1 : (m + 1) / 2 = (m + 1 + 1) / 2 := by omega
                rw [e1]
        exact key n h2 hk
      rw [fold1_app jn z _ _ (stk_ne jn _ (by rw [List.length_drop]; omega)), ih (n - part (n + 1)) (by omega) (l.drop (part (n + 1))) (by rw [List.length_drop]; omega) (by rw [List.length_drop]; omega), rootR_more jn z l (by omega), hn, hpp]
end
end Go.Proofs.YtjmlohfldkbbaaaDoor
