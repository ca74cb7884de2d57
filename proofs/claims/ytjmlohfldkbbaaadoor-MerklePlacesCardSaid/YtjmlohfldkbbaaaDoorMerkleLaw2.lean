/-
  What is proved here (plain law): proofs of places, what is led to by them, lists with one digest. No program in sight.
-/
import Derived.Test.YtjmlohfldkbbaaaDoorMerkleLaw
namespace Go.Proofs.YtjmlohfldkbbaaaDoor

section
variable {D : Type} (jn : D → D → D)
/-- a place's proof, from the item up -/
def proofR (z : D) (l : List D) (i : Nat) : List D :=
  if h : l.length ≤ 1 then []
  else if i < part l.length then proofR z (l.take (part l.length)) i ++ [rootR jn z (l.drop (part l.length))]
  else proofR z (l.drop (part l.length)) (i - part l.length) ++ [rootR jn z (l.take (part l.length))]
termination_by l.length
decreasing_by
  · have h1 := part_lt (n := l.length) (by omega)
    rw [List.length_take]
    omega
  · have h1 := part_pos l.length
    rw [List.length_drop]
    omega
/-- is the item in the right part? from the root down -/
def dirs (n i : Nat) : List Bool :=
  if h : n ≤ 1 then []
  else if i < part n then false :: dirs (part n) i
  else true :: dirs (n - part n) (i - part n)
termination_by n
decreasing_by
  · exact part_lt (by omega)
  · have := part_pos n; omega
/-- from the item up -/
def climb (d : D) : List Bool → List D → D
  | b :: bs, q :: qs => climb (if b then jn q d else jn d q) bs qs
  | _, _ => d
theorem climb_app (d : D) : ∀ (bs : List Bool) (qs : List D) (b : Bool) (q : D), bs.length = qs.length → climb jn d (bs ++ [b]) (qs ++ [q]) = (if b then jn q (climb jn d bs qs) else jn (climb jn d bs qs) q)
  | [], [], b, q, _ => by simp [climb]
  | [], _ :: _, _, _, h => by simp at h
  | _ :: _, [], _, _, h => by simp at h
  | a :: bs, x :: qs, b, q, h => by
    rw [List.cons_append, List.cons_append, climb, climb_app _ bs qs b q (by simpa using h), climb]
theorem dirs_small {n : Nat} (i : Nat) (h : n ≤ 1) : dirs n i = [] := by rw [dirs, dif_pos h]
theorem dirs_left {n i : Nat} (h : 1 < n) (h2 : i < part n) : dirs n i = false :: dirs (part n) i := by
  conv => lhs; rw [dirs]
  rw [dif_neg (by omega), if_pos h2]
theorem dirs_right {n i : Nat} (h : 1 < n) (h2 : ¬ i < part n) : dirs n i = true :: dirs (n - part n) (i - part n) := by
  conv => lhs; rw [dirs]
  rw [dif_neg (by omega), if_neg h2]
theorem proofR_small (z : D) {l : List D} (i : Nat) (h : l.length ≤ 1) : proofR jn z l i = [] := by rw [proofR, dif_pos h]
theorem proofR_left (z : D) {l : List D} {i : Nat} (h : 1 < l.length) (h2 : i < part l.length) : proofR jn z l i = proofR jn z (l.take (part l.length)) i ++ [rootR jn z (l.drop (part l.length))] := by
  conv => lhs; rw [proofR]
  rw [dif_neg (by omega), if_pos h2]
theorem proofR_right (z : D) {l : List D} {i : Nat} (h : 1 < l.length) (h2 : ¬ i < part l.length) : proofR jn z l i = proofR jn z (l.drop (part l.length)) (i - part l.length) ++ [rootR jn z (l.take (part l.length))] := by
  conv => lhs; rw [proofR]
  rw [dif_neg (by omega), if_neg h2]
theorem proofR_length (z : D) (l : List D) (i : Nat) : (proofR jn z l i).length = (dirs l.length i).length := by
  generalize hn : l.length = n
  induction n using Nat.strongRecOn generalizing l i with
  | _ n ih =>
    by_cases h : n ≤ 1
    · rw [proofR_small jn z i (by omega), dirs_small i h]; rfl
    · have h1 := part_lt (n := n) (by omega)
      have h2 := part_pos n
      by_cases hi : i < part n
      · rw [proofR_left jn z (by omega) (by rw [hn]; exact hi), dirs_left (by omega) hi, List.length_append, hn, ih (part n) h1 _ _ (by rw [List.length_take]; omega)]
        rfl
      · rw [proofR_right jn z (by omega) (by rw [hn]; exact hi), dirs_right (by omega) hi, List.length_append, hn, ih (n - part n) (by omega) _ _ (by rw [List.length_drop]; omega)]
        rfl
/-- what another item at a place leads to by the place's proof -/
theorem climb_proof (z : D) (l : List D) (i : Nat) (hi : i < l.length) (x : D) : climb jn x (dirs l.length i).reverse (proofR jn z l i) = rootR jn z (l.set i x) := by
  generalize hn : l.length = n
  induction n using Nat.strongRecOn generalizing l i with
  | _ n ih =>
    by_cases h : n ≤ 1
    · match l, hn, hi with
      | [a], _, hi =>
        have : i = 0 := by simp at hi; exact hi
        subst this
        rw [proofR_small jn z 0 (by simp), dirs_small 0 h]
        show x = rootR jn z [x]
        rw [rootR_one]
      | [], _, hi => simp at hi
      | a :: b :: r, hn, _ => simp at hn; omega
    · have h1 := part_lt (n := n) (by omega)
      have h2 := part_pos n
      have hs : (l.set i x).length = n := by rw [List.length_set, hn]
      rw [rootR_more jn z (l.set i x) (by omega), hs]
      by_cases hp : i < part n
      · rw [proofR_left jn z (by omega) (by rw [hn]; exact hp), dirs_left (by omega) hp, hn, List.reverse_cons]
        have hl : (l.take (part n)).length = part n := by rw [List.length_take]; omega
        rw [climb_app jn x _ _ false _ (by rw [List.length_reverse, proofR_length, hl])]
        have e1 := ih (part n) h1 (l.take (part n)) i (by omega) hl
        have e2 : (l.set i x).take (part n) = (l.take (part n)).set i x := by rw [List.take_set]
        have e3 : (l.set i x).drop (part n) = l.drop (part n) := by rw [List.drop_set_of_lt hp]
        rw [e1, e2, e3]
        rfl
      · rw [proofR_right jn z (by omega) (by rw [hn]; exact hp), dirs_right (by omega) hp, hn, List.reverse_cons]
        have hl : (l.drop (part n)).length = n - part n := by rw [List.length_drop]; omega
        rw [climb_app jn x _ _ true _ (by rw [List.length_reverse, proofR_length, hl])]
        have e1 := ih (n - part n) (by omega) (l.drop (part n)) (i - part n) (by omega) hl
        have e2 : (l.set i x).take (part n) = l.take (part n) := by rw [List.take_set, List.set_eq_of_length_le (by rw [List.length_take]; omega)]
        have e3 : (l.set i x).drop (part n) = (l.drop (part n)).set (i - part n) x := by rw [List.drop_set, if_neg hp]
        rw [e1, e2, e3]
        rfl
theorem climb_held (z : D) (l : List D) (i : Nat) (hi : i < l.length) : climb jn l[i] (dirs l.length i).reverse (proofR jn z l i) = rootR jn z l := by
  rw [climb_proof jn z l i hi, List.set_getElem_self]
/-- how often a number can be halved -/
def halves (n : Nat) : Nat := if n = 0 then 0 else halves (n / 2) + 1
termination_by n
decreasing_by omega
theorem halves_pos {n : Nat} (h : n ≠ 0) : halves n = halves (n / 2) + 1 := by rw [halves, if_neg h]
theorem halves_mono : ∀ (b a : Nat), a ≤ b → halves a ≤ halves b := by
  intro b
  induction b using Nat.strongRecOn with
  | _ b ih =>
    intro a hab
    by_cases h0 : a = 0
    · subst h0; rw [halves]; simp
    · rw [halves_pos h0, halves_pos (n := b) (by omega)]
      have := ih (b / 2) (by omega) (a / 2) (by omega)
      omega
theorem part_halves (n : Nat) : 2 ≤ n → halves (part n - 1) + 1 ≤ halves (n - 1) := by
  induction n using Nat.strongRecOn with
  | _ n ih =>
    intro h
    by_cases h2 : n ≤ 2
    · rw [part_small h2]
      have : n = 2 := by omega
      subst this
      decide +kernel
    · have e := ih ((n + 1) / 2) (by omega) (by omega)
      have hp := part_pos ((n + 1) / 2)
      rw [part_big (by omega), halves_pos (n := 2 * part ((n + 1) / 2) - 1) (by omega), halves_pos (n := n - 1) (by omega)]
      rw [show (2 * part ((n + 1) / 2) - 1) / 2 = part ((n + 1) / 2) - 1 by omega, show (n - 1) / 2 = (n + 1) / 2 - 1 by omega]
      omega
theorem dirs_halves (n i : Nat) (hi : i < n) : (dirs n i).length ≤ halves (n - 1) := by
  induction n using Nat.strongRecOn generalizing i with
  | _ n ih =>
    by_cases h : n ≤ 1
    · rw [dirs_small i h]; simp
    · have h1 := part_lt (n := n) (by omega)
      have h2 := part_pos n
      have h3 := part_half (n := n) (by omega)
      have h4 := part_halves n (by omega)
      by_cases hp : i < part n
      · rw [dirs_left (by omega) hp, List.length_cons]
        have := ih (part n) h1 i hp
        omega
      · rw [dirs_right (by omega) hp, List.length_cons]
        have e := ih (n - part n) (by omega) (i - part n) (by omega)
        have m := halves_mono (part n - 1) (n - part n - 1) (by omega)
        omega
/-- two lists of one length with one root: unlike pairs that meet -/
def clashR (z : D) (l m : List D) : Prop :=
  if h : l.length ≤ 1 then False
  else ((rootR jn z (l.take (part l.length)) ≠ rootR jn z (m.take (part l.length)) ∨ rootR jn z (l.drop (part l.length)) ≠ rootR jn z (m.drop (part l.length))) ∧
      jn (rootR jn z (l.take (part l.length))) (rootR jn z (l.drop (part l.length))) = jn (rootR jn z (m.take (part l.length))) (rootR jn z (m.drop (part l.length)))) ∨
    clashR z (l.take (part l.length)) (m.take (part l.length)) ∨ clashR z (l.drop (part l.length)) (m.drop (part l.length))
termination_by l.length
decreasing_by
  · have h1 := part_lt (n := l.length) (by omega)
    rw [List.length_take]
    omega
  · have h1 := part_pos l.length
    rw [List.length_drop]
    omega
theorem root_apart (z : D) (l m : List D) (h : l.length = m.length) (hr : rootR jn z l = rootR jn z m) : l = m ∨ clashR jn z l m := by
  generalize hn : l.length = n
  induction n using Nat.strongRecOn generalizing l m with
  | _ n ih =>
    by_cases h1 : n ≤ 1
    · left
      match l, m, h, hn, hr with
      | [], [], _, _, _ => rfl
      | [a], [b], _, _, hr => rw [rootR_one, rootR_one] at hr; rw [hr]
      | _ :: _ :: _, _, _, hn, _ => simp at hn; omega
      | [], _ :: _, h, _, _ => simp at h
      | [_], [], h, _, _ => simp at h
      | [_], _ :: _ :: _, h, _, _ => simp at h
    · have hp1 := part_lt (n := n) (by omega)
      have hp2 := part_pos n
      rw [rootR_more jn z l (by omega), rootR_more jn z m (by omega), ← h, hn] at hr
      by_cases e : rootR jn z (l.take (part n)) = rootR jn z (m.take (part n)) ∧ rootR jn z (l.drop (part n)) = rootR jn z (m.drop (part n))
      · rcases ih (part n) hp1 (l.take (part n)) (m.take (part n)) (by rw [List.length_take, List.length_take, h]) e.1 (by rw [List.length_take]; omega) with a | a
        · rcases ih (n - part n) (by omega) (l.drop (part n)) (m.drop (part n)) (by rw [List.length_drop, List.length_drop, h]) e.2 (by rw [List.length_drop]; omega) with b | b
          · left
            rw [← List.take_append_drop (part n) l, ← List.take_append_drop (part n) m, a, b]
          · right
            rw [clashR, dif_neg (by omega), hn]
            exact .inr (.inr b)
        · right
          rw [clashR, dif_neg (by omega), hn]
          exact .inr (.inl a)
      · right
        rw [clashR, dif_neg (by omega), hn]
        refine .inl ⟨?_, hr⟩
        by_cases e1 : rootR jn z (l.take (part n)) = rootR jn z (m.take (part n))
        · exact .inr (fun e2 => e ⟨e1, e2⟩)
        · exact .inl e1
end
end Go.Proofs.YtjmlohfldkbbaaaDoor
