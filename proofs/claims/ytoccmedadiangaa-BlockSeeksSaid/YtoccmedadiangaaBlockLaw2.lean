/-
  What is proved here (plain law): the first entry that is not ahead of a key at a moment: by halving and one by one the same. No program in sight.
-/
import Derived.Test.YtoccmedadiangaaBlockLaw
namespace Go.Proofs.Ytoccmedadiangaa

theorem ahead_iff (a b : Ent) : aheadE a b = true ↔ (ltB a.user.toList b.user.toList = true ∨ (a.user.toList = b.user.toList ∧ b.seq.toNat < a.seq.toNat)) := by
  unfold aheadE
  rw [Bool.or_eq_true, Bool.and_eq_true, beq_iff_eq, decide_eq_true_iff]
theorem ahead_trans {a b c : Ent} (h : aheadE a b = true) (h' : aheadE b c = true) : aheadE a c = true := by
  rw [ahead_iff] at *
  rcases h with h | ⟨e, h⟩
  · rcases h' with h' | ⟨e', _⟩
    · exact .inl (ltB_trans _ _ _ h h')
    · rw [← e']; exact .inl h
  · rcases h' with h' | ⟨e', h'⟩
    · rw [e]; exact .inl h'
    · exact .inr ⟨e.trans e', by omega⟩
theorem rises_all : ∀ (a : Ent) (l : List Ent), risesE (a :: l) = true → risesE l = true ∧ ∀ x ∈ l, aheadE a x = true
  | _, [], _ => ⟨rfl, fun _ h => by cases h⟩
  | a, b :: l, h => by
    rw [risesE, Bool.and_eq_true] at h
    refine ⟨h.2, fun x hx => ?_⟩
    rcases List.mem_cons.1 hx with rfl | hx
    · exact h.1
    · exact ahead_trans h.1 ((rises_all b l h.2).2 x hx)
/-- the first entry that is not ahead of a key at a moment -/
def firstE (l : List Ent) (q : Ent) : Option Ent := l.find? (fun e => !aheadE e q)
theorem rises_at {l : List Ent} (h : risesE l = true) (q : Ent) : ∀ i j, i ≤ j → j < l.length → (!aheadE (l.getD i ent0) q) = true → (!aheadE (l.getD j ent0) q) = true := by
  induction l with
  | nil => intro i j _ hj; simp at hj
  | cons a l ih =>
    obtain ⟨h1, h2⟩ := rises_all a l h
    intro i j hij hj hp
    cases j with
    | zero => rw [show i = 0 from by omega] at hp; exact hp
    | succ j =>
      have hj' : j < l.length := by rw [List.length_cons] at hj; omega
      rw [List.getD_cons_succ]
      cases i with
      | zero =>
        rw [List.getD_cons_zero] at hp
        have hg : l.getD j ent0 = l[j] := by rw [List.getD_eq_getElem?_getD, List.getElem?_eq_getElem hj']; rfl
        rw [hg]
        cases hx : aheadE l[j] q with
        | false => rfl
        | true =>
          rw [ahead_trans (h2 _ (List.getElem_mem hj')) hx] at hp
          exact hp
      | succ i =>
        rw [List.getD_cons_succ] at hp
        exact ih h1 i j (by omega) hj' hp
theorem find_count (p : Ent → Bool) : ∀ l : List Ent, (∀ i j, i ≤ j → j < l.length → p (l.getD i ent0) = true → p (l.getD j ent0) = true) → l.find? p = l[(List.range l.length).countP (fun i => !p (l.getD i ent0))]?
  | [], _ => rfl
  | a :: l, h => by
    rw [List.length_cons, List.range_succ_eq_map, List.countP_cons, List.countP_map, List.find?_cons]
    cases ha : p a with
    | true =>
      have z : (List.range l.length).countP ((fun i => !p ((a :: l).getD i ent0)) ∘ Nat.succ) = 0 := by
        rw [List.countP_eq_zero]
        intro i hi
        have := h 0 (i + 1) (by omega) (by rw [List.length_cons]; have := List.mem_range.1 hi; omega) (by rw [List.getD_cons_zero]; exact ha)
        show ¬ (!p ((a :: l).getD (i + 1) ent0)) = true
        rw [this]; simp
      rw [z, List.getD_cons_zero, ha]
      rfl
    | false =>
      have ih := find_count p l (fun i j hij hj hp => by
        have := h (i + 1) (j + 1) (by omega) (by rw [List.length_cons]; omega) (by rw [List.getD_cons_succ]; exact hp)
        rwa [List.getD_cons_succ] at this)
      rw [List.getD_cons_zero, ha]
      show l.find? p = (a :: l)[(List.range l.length).countP _ + 1]?
      rw [List.getElem?_cons_succ, ih]
      rfl
theorem first_count {l : List Ent} (h : risesE l = true) (q : Ent) : firstE l q = l[(List.range l.length).countP (fun i => !!aheadE (l.getD i ent0) q)]? :=
  find_count (fun e => !aheadE e q) l (rises_at h q)
/-- what is read stands in order -/
theorem readB_rises (b : List UInt8) : risesE (readB b).1 = true := by
  unfold readB
  split
  · rfl
  · split
    · rfl
    · split
      · rename_i h2; exact (rightL_all (buildB_ok h2).2.2.1).1
      · rfl
end Go.Proofs.Ytoccmedadiangaa
