/-
  What is proved here (plain law): what Get tells before and behind an insertion; the entries from a place on. Conditions stand with each.
-/
import Derived.Test.YtlphbkhcdnbbnaaSkipW4
namespace Go.Proofs.Ytlphbkhcdnbbnaa
open Go.RowKit

/-- what Get tells, parted -/
def getX (E : List Ent) (q : Ent) : Ent × Bool := match (restE E q).head? with
  | none => (zeroE, false)
  | some x => if (x.user.toList == q.user.toList) = true then (x, true) else (zeroE, false)
theorem getV_eq (E : List Ent) (q : Ent) : getV E q = .tuple #[entV (getX E q).1, .bool (getX E q).2] := by
  unfold getV getX
  cases (restE E q).head? with
  | none => rfl
  | some x => by_cases h : (x.user.toList == q.user.toList) = true <;> simp only [h] <;> rfl
theorem drop_all {p : Ent → Bool} : ∀ (T r : List Ent), (∀ x ∈ T, p x = true) → (T ++ r).dropWhile p = r.dropWhile p
  | [], _, _ => rfl
  | a :: T, r, h => by
    rw [List.cons_append, List.dropWhile_cons, if_pos (h a (by simp))]
    exact drop_all T r (fun x hx => h x (by simp [hx]))
theorem drop_head {p : Ent → Bool} {b : Ent} (T r s : List Ent) (h : ∃ x ∈ T, p x = false) : ((T ++ r).dropWhile p).head? = ((T ++ s).dropWhile p).head? := by
  induction T with
  | nil => obtain ⟨x, hx, _⟩ := h; cases hx
  | cons a T ih =>
    rw [List.cons_append, List.cons_append, List.dropWhile_cons, List.dropWhile_cons]
    by_cases ha : p a = true
    · rw [if_pos ha, if_pos ha]
      obtain ⟨x, hx, hp⟩ := h
      rcases List.mem_cons.1 hx with rfl | hx
      · rw [ha] at hp; cases hp
      · exact ih ⟨x, hx, hp⟩
    · rw [if_neg ha, if_neg ha]; rfl
theorem ahead_user {a b : Ent} (h : aheadE a b = true) (hne : a.user.toList ≠ b.user.toList) : ltB a.user.toList b.user.toList = true := by
  rcases (aheadE_iff a b).1 h with h | h
  · exact h
  · exact absurd h.1 hne
theorem ahead_of_lt {a b : Ent} (h : ltB a.user.toList b.user.toList = true) : aheadE a b = true := (aheadE_iff a b).2 (.inl h)
theorem ahead_le {a b : Ent} (h : aheadE a b = true) : ltB a.user.toList b.user.toList = true ∨ a.user.toList = b.user.toList := by
  rcases (aheadE_iff a b).1 h with h | h
  · exact .inl h
  · exact .inr h.1
theorem there_less {E : List Ent} {e : Ent} (h : ∀ x ∈ E, x.seq.toNat < e.seq.toNat) : there e E = false := by
  unfold there
  cases hd : (E.dropWhile (fun x => aheadE x e)).head? with
  | none => rfl
  | some x =>
    have hx : x ∈ E := (List.dropWhile_sublist _).subset (List.mem_of_head? hd)
    have := h x hx
    simp
    omega
/-- what is put at a greater moment is told from that moment on -/
theorem newest_is {E : List Ent} {p q : Ent} (h : ∀ x ∈ E, x.seq.toNat < p.seq.toNat) (hu : q.user.toList = p.user.toList) (hs : p.seq.toNat ≤ q.seq.toNat) : getX (insE p E) q = (p, true) := by
  have h1 : ((insE p E).dropWhile (fun x => aheadE x q)).head? = some p := by
    unfold insE
    rw [drop_all]
    · rw [List.dropWhile_cons, if_neg]
      · rfl
      · intro e
        rcases (aheadE_iff p q).1 e with e | e
        · rw [hu, ltB_irr] at e; cases e
        · omega
    · intro x hx
      have hxa := takeWhile_ahead x hx
      have hxE : x ∈ E := (List.takeWhile_sublist _).subset hx
      have hxs := h x hxE
      refine ahead_of_lt ?_
      rcases (aheadE_iff x p).1 hxa with e | e
      · rw [hu]; exact e
      · omega
  unfold getX restE
  rw [h1]
  simp [hu]
/-- and changes nothing of what was told up to it -/
theorem newest_not {E : List Ent} {p q : Ent} (hE : OkE E) (hth : there p E = false) (h : ¬ (q.user.toList = p.user.toList ∧ p.seq.toNat ≤ q.seq.toNat)) : getX (insE p E) q = getX E q := by
  have hb := behind hE.1 hth
  have hspl := List.takeWhile_append_dropWhile (p := fun x => aheadE x p) (l := E)
  have hins : insE p E = E.takeWhile (fun x => aheadE x p) ++ p :: E.dropWhile (fun x => aheadE x p) := rfl
  have ht : ∀ x ∈ E.takeWhile (fun x => aheadE x p), aheadE x p = true := takeWhile_ahead
  generalize E.takeWhile (fun x => aheadE x p) = T at hspl hins ht
  generalize E.dropWhile (fun x => aheadE x p) = D at hspl hins hb
  cases hpq : aheadE p q with
  | true =>
    have h1 : restE (insE p E) q = restE E q := by
      unfold restE
      rw [hins, ← hspl, drop_all T _ (fun x hx => ahead_trans (ht x hx) hpq), drop_all T _ (fun x hx => ahead_trans (ht x hx) hpq), List.dropWhile_cons, if_pos hpq]
    unfold getX
    rw [h1]
  | false =>
    have hne : q.user.toList ≠ p.user.toList := by
      intro e
      refine h ⟨e, ?_⟩
      rcases Nat.lt_or_ge q.seq.toNat p.seq.toNat with hlt | hge
      · rw [(aheadE_iff p q).2 (.inr ⟨e.symm, hlt⟩)] at hpq; cases hpq
      · exact hge
    by_cases hT : ∃ x ∈ T, aheadE x q = false
    · have h1 : (restE (insE p E) q).head? = (restE E q).head? := by
        unfold restE
        rw [hins, ← hspl]
        exact drop_head (b := p) T _ _ hT
      unfold getX
      rw [h1]
    · have hT' : ∀ x ∈ T, aheadE x q = true := fun x hx => by
        cases hc : aheadE x q with
        | true => rfl
        | false => exact absurd ⟨x, hx, hc⟩ hT
      have hqp : ltB q.user.toList p.user.toList = true := by
        cases hc : ltB q.user.toList p.user.toList with
        | true => rfl
        | false =>
          cases hd : ltB p.user.toList q.user.toList with
          | true => rw [ahead_of_lt hd] at hpq; cases hpq
          | false => exact absurd (ltB_tri _ _ hc hd) hne
      have h1 : (restE (insE p E) q).head? = some p := by
        unfold restE
        rw [hins, drop_all T _ hT', List.dropWhile_cons, if_neg (by rw [hpq]; decide)]
        rfl
      have h2 : restE E q = D.dropWhile (fun x => aheadE x q) := by
        unfold restE
        rw [← hspl, drop_all T _ hT']
      have hbeq : ∀ x : Ent, q.user.toList ≠ x.user.toList → (x.user.toList == q.user.toList) = false := fun x hx => by
        rw [beq_eq_false_iff_ne]; exact fun e => hx e.symm
      unfold getX
      rw [h1, h2]
      simp only [hbeq p hne]
      cases hd : (D.dropWhile (fun x => aheadE x q)).head? with
      | none => rfl
      | some x =>
        have hx : x ∈ D := (List.dropWhile_sublist _).subset (List.mem_of_head? hd)
        have hxq : q.user.toList ≠ x.user.toList := by
          intro e
          rcases ahead_le (hb x hx) with h3 | h3
          · have := ltB_trans _ _ _ hqp h3
            rw [e, ltB_irr] at this; cases this
          · exact hne (e.trans h3.symm)
        simp only [hbeq x hxq, Bool.false_eq_true, if_false]
theorem restE_len (E : List Ent) (q : Ent) : (restE E q).length ≤ E.length := (List.dropWhile_sublist _).length_le
theorem restE_take (E : List Ent) (q : Ent) : (restE E q).take E.length = restE E q := List.take_of_length_le (restE_len E q)
theorem restE_drop (E : List Ent) (q : Ent) : E.drop (E.length - (restE E q).length) = restE E q := by
  have h := List.takeWhile_append_dropWhile (p := fun x => aheadE x q) (l := E)
  unfold restE
  generalize E.takeWhile (fun x => aheadE x q) = T at h
  generalize E.dropWhile (fun x => aheadE x q) = D at h
  rw [← h, List.length_append, Nat.add_sub_cancel, List.drop_left]
theorem ahead_at {E : List Ent} {q : Ent} (hE : OkE E) {i : Nat} (hi : i < E.length) : aheadE E[i] q = decide (i < E.length - (restE E q).length) := by
  have h := List.takeWhile_append_dropWhile (p := fun x => aheadE x q) (l := E)
  have hl : E.length - (restE E q).length = (E.takeWhile (fun x => aheadE x q)).length := by
    unfold restE
    conv => lhs; lhs; rw [← h]
    rw [List.length_append]; omega
  rw [hl]
  by_cases hlt : i < (E.takeWhile (fun x => aheadE x q)).length
  · rw [decide_eq_true hlt]
    have hm : E[i] ∈ E.takeWhile (fun x => aheadE x q) := by
      have : E[i] = (E.takeWhile (fun x => aheadE x q))[i] := by
        have h2 : (E.takeWhile (fun x => aheadE x q) ++ E.dropWhile (fun x => aheadE x q))[i]? = E[i]? := by rw [h]
        rw [List.getElem?_append_left hlt, List.getElem?_eq_getElem hlt, List.getElem?_eq_getElem hi] at h2
        injection h2 with h2; exact h2.symm
      rw [this]; exact List.getElem_mem _
    exact takeWhile_ahead _ hm
  · rw [decide_eq_false hlt]
    have hm : E[i] ∈ E.dropWhile (fun x => aheadE x q) := by
      have h2 : (E.takeWhile (fun x => aheadE x q) ++ E.dropWhile (fun x => aheadE x q))[i]? = E[i]? := by rw [h]
      rw [List.getElem?_append_right (by omega), List.getElem?_eq_getElem hi] at h2
      exact List.mem_of_getElem? h2
    exact dropWhile_ahead hE.1 _ hm
theorem rises_of {E : List Ent} (hE : E.Pairwise (fun a b => aheadE a b = true)) : risesE E = true := by
  induction E with
  | nil => rfl
  | cons a E ih =>
    rw [List.pairwise_cons] at hE
    cases E with
    | nil => rfl
    | cons b E => rw [risesE, hE.1 b (by simp), ih hE.2]; rfl
end Go.Proofs.Ytlphbkhcdnbbnaa
