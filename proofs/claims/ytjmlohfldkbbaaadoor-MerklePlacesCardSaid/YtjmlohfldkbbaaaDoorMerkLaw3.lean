/-
  What is proved here (plain law): the stack of whole trees, step by step. No program in sight.
-/
import Derived.Test.YtjmlohfldkbbaaaDoorMerkleLaw2
namespace Go.Proofs.YtjmlohfldkbbaaaDoor

section
variable {D : Type} (jn : D → D → D)
theorem rootR_nil (z : D) : rootR jn z [] = z := by rw [rootR]
theorem stk_pop (L : List D) (h : L.length % 2 = 1) : ∃ t L', stk jn L = t :: stk jn L' ∧ L'.length = L.length / 2 := by
  have hne : L ≠ [] := by intro e; subst e; simp at h
  obtain ⟨i, x, rfl⟩ : ∃ i x, L = i ++ [x] := ⟨_, _, (List.dropLast_concat_getLast hne).symm⟩
  rw [List.length_append, List.length_singleton] at h ⊢
  exact ⟨x, pairs jn i, stk_odd jn i x (by omega), by rw [pairs_length]; omega⟩
theorem stk_len (L : List D) : (stk jn L).length ≤ L.length := by
  generalize hn : L.length = n
  induction n using Nat.strongRecOn generalizing L with
  | _ n ih =>
    by_cases h0 : n = 0
    · have : L = [] := List.eq_nil_of_length_eq_zero (by omega)
      subst this
      rw [stk_nil]
      exact Nat.zero_le _
    · by_cases h : n % 2 = 1
      · obtain ⟨t, L', e1, e2⟩ := stk_pop jn L (by omega)
        have := ih (n / 2) (by omega) L' (by omega)
        rw [e1, List.length_cons]
        omega
      · have e := stk_even jn L (by omega)
        have h2 := pairs_length jn L
        have := ih (n / 2) (by omega) (pairs jn L) (by omega)
        rw [e]
        omega
/-- the stack joined so far -/
def foldUp (t : D) (r : List D) (j : Nat) : D := (r.take j).foldl (fun d x => jn x d) t
theorem foldUp_0 (t : D) (r : List D) : foldUp jn t r 0 = t := rfl
theorem foldUp_step (t : D) (r : List D) {j : Nat} (hj : j < r.length) : foldUp jn t r (j + 1) = jn r[j] (foldUp jn t r j) := by
  unfold foldUp
  rw [List.take_add_one, List.getElem?_eq_getElem hj, List.foldl_append]
  rfl
theorem foldUp_all (z t : D) (r : List D) : foldUp jn t r r.length = fold1 jn z (t :: r) := by
  unfold foldUp
  rw [List.take_length]
  rfl
end
end Go.Proofs.YtjmlohfldkbbaaaDoor
