/-
  What is proved here (plain law): entries' bytes as a block, the entries whose bytes those are; what was built is read; bytes with one more or one less are no block. No program in sight.
-/
import Derived.Test.YtoccmedadiangaaIkeyLaw2
namespace Go.Proofs.Ytoccmedadiangaa

def ent0 : Ent := ⟨⟨#[]⟩, 0, 0, ⟨#[]⟩⟩
/-- the inner key of the entry at a place -/
def keyAt (l : List Ent) (i : Nat) : List UInt8 := layE (l.getD i ent0)
/-- the inner key ahead of a place -/
def lastAt (l : List Ent) : Nat → List UInt8
  | 0 => []
  | i + 1 => keyAt l i
/-- how many bytes of its key an entry shares -/
def shareAt (ev : Nat) (l : List Ent) (i : Nat) : Nat := if i % ev = 0 then 0 else partAt (lastAt l i) (keyAt l i)
/-- an entry's bytes, so many of its key shared -/
def oneB (k : Nat) (e : Ent) : List UInt8 := num k ++ num ((layE e).length - k) ++ num e.value.size ++ (layE e).drop k ++ e.value.data.toList
/-- the bytes up to a place -/
def outAt (ev : Nat) (l : List Ent) : Nat → List UInt8
  | 0 => num ev ++ num l.length
  | i + 1 => outAt ev l i ++ oneB (shareAt ev l i) (l.getD i ent0)
/-- the places of restarts up to a place -/
def placesAt (ev : Nat) (l : List Ent) : Nat → List UInt8
  | 0 => []
  | i + 1 => if i % ev = 0 then placesAt ev l i ++ fix (outAt ev l i).length 4 else placesAt ev l i
/-- how many restarts up to a place -/
def startsAt (ev : Nat) : Nat → Nat
  | 0 => 0
  | i + 1 => if i % ev = 0 then startsAt ev i + 1 else startsAt ev i
def blockB (ev : Nat) (l : List Ent) : List UInt8 := outAt ev l l.length ++ placesAt ev l l.length ++ fix (startsAt ev l.length) 4
/-- may entries be a block's? -/
def rightL (l : List Ent) : Bool := risesE l && l.all rightE
/-- entries' bytes, and the fault -/
def buildB (ev : Int) (l : List Ent) : List UInt8 × Nat :=
  if 1 ≤ ev ∧ ev ≤ 1024 ∧ rightL l = true then (if 1048576 < (blockB ev.toNat l).length then ([], 4) else (blockB ev.toNat l, 0)) else ([], 1)
/-- an entry that is taken, its inner key, and what is left -/
def takeB1 (s : Rs) (last : List UInt8) : Option (Ent × List UInt8 × List UInt8) :=
  let a := sNum s
  let b := sNum a.2
  let c := sNum b.2
  if c.2.2 ≠ 0 ∨ last.length < a.1 ∨ c.2.1.length < b.1 ∨ c.2.1.length - b.1 < c.1 then none
  else if isKey (last.take a.1 ++ c.2.1.take b.1) then
    some (⟨(takeE (last.take a.1 ++ c.2.1.take b.1)).user, (takeE (last.take a.1 ++ c.2.1.take b.1)).seq, (takeE (last.take a.1 ++ c.2.1.take b.1)).kind, ⟨((c.2.1.drop b.1).take c.1).toArray⟩⟩, last.take a.1 ++ c.2.1.take b.1, c.2.1.drop (b.1 + c.1))
  else none
/-- so many entries -/
def readL : Nat → List UInt8 → List UInt8 → Option (List Ent)
  | 0, _, _ => some []
  | n + 1, s, last => match takeB1 (s, 0) last with
    | none => none
    | some (e, key, r) => (readL n r key).map (e :: ·)
/-- the entries whose bytes those are -/
def readB (b : List UInt8) : List Ent × Nat :=
  if (sNum (sNum (b, 0)).2).2.2 ≠ 0 ∨ 1024 < (sNum (b, 0)).1 then ([], 100)
  else match readL (sNum (sNum (b, 0)).2).1 (sNum (sNum (b, 0)).2).2.1 [] with
    | none => ([], 100)
    | some l => if buildB ((sNum (b, 0)).1 : Nat) l = (b, 0) then (l, 0) else ([], 100)

theorem lay_le {e : Ent} (h : rightE e = true) : (layE e).length ≤ 1032 := by
  have h1 := layE_length e
  have h2 := rightE_le h
  omega
/-- an entry's bytes are taken as that entry -/
theorem takeB1_one (e : Ent) (k : Nat) (last r : List UInt8) (he : rightE e = true) (h1 : k ≤ last.length) (h2 : k ≤ (layE e).length) (h3 : last.take k = (layE e).take k) :
    takeB1 (oneB k e ++ r, 0) last = some (e, layE e, r) := by
  have hl := lay_le he
  have hv := (rightE_le he).2
  have hd : ((layE e).drop k).length = (layE e).length - k := List.length_drop
  have hz := toList_size e.value
  have e0 : oneB k e ++ r = num k ++ (num ((layE e).length - k) ++ (num e.value.size ++ ((layE e).drop k ++ (e.value.data.toList ++ r)))) := by simp [oneB]
  have q1 : ((layE e).drop k ++ (e.value.data.toList ++ r)).take ((layE e).length - k) = (layE e).drop k := List.take_left' hd
  have q2 : ((layE e).drop k ++ (e.value.data.toList ++ r)).drop ((layE e).length - k) = e.value.data.toList ++ r := List.drop_left' hd
  have q3 : (e.value.data.toList ++ r).take e.value.size = e.value.data.toList := List.take_left' hz
  have q4 : ((layE e).drop k ++ (e.value.data.toList ++ r)).drop ((layE e).length - k + e.value.size) = r := by rw [← List.drop_drop, q2, List.drop_left' hz]
  have q5 : last.take k ++ (layE e).drop k = layE e := by rw [h3, List.take_append_drop]
  unfold takeB1
  rw [e0, sNum_num k _ (by omega)]
  simp only []
  rw [sNum_num _ _ (by omega)]
  simp only []
  rw [sNum_num _ _ (by omega)]
  simp only []
  rw [if_neg (by simp only [List.length_append]; omega), q1, q2, q3, q4, q5, (takeE_lay he).1, if_pos (takeE_lay he).2]
  simp [bare]
/-- the bytes of entries from a place on -/
def onesB (ev : Nat) (l : List Ent) : Nat → Nat → List UInt8
  | _, 0 => []
  | i, j + 1 => oneB (shareAt ev l i) (l.getD i ent0) ++ onesB ev l (i + 1) j
theorem out_ones (ev : Nat) (l : List Ent) : ∀ j i, outAt ev l (i + j) = outAt ev l i ++ onesB ev l i j := by
  intro j
  induction j with
  | zero => intro i; simp [onesB]
  | succ j ih =>
    intro i
    rw [show i + (j + 1) = (i + 1) + j from by omega, ih (i + 1), onesB, outAt, List.append_assoc]
theorem blockB_form (ev : Nat) (l : List Ent) : blockB ev l = num ev ++ (num l.length ++ (onesB ev l 0 l.length ++ (placesAt ev l l.length ++ fix (startsAt ev l.length) 4))) := by
  have h := out_ones ev l l.length 0
  rw [Nat.zero_add] at h
  unfold blockB
  rw [h, outAt]
  simp
theorem share_le (ev : Nat) (l : List Ent) (i : Nat) : shareAt ev l i ≤ (lastAt l i).length ∧ shareAt ev l i ≤ (keyAt l i).length ∧ (lastAt l i).take (shareAt ev l i) = (keyAt l i).take (shareAt ev l i) := by
  unfold shareAt
  split
  · simp
  · have := partAt_le (lastAt l i) (keyAt l i)
    exact ⟨this.1, this.2, partAt_take _ _⟩
theorem readL_ones (ev : Nat) (l : List Ent) (hr : ∀ e ∈ l, rightE e = true) (r : List UInt8) : ∀ j i, i + j = l.length → readL j (onesB ev l i j ++ r) (lastAt l i) = some (l.drop i) := by
  intro j
  induction j with
  | zero => intro i h; rw [List.drop_of_length_le (by omega)]; rfl
  | succ j ih =>
    intro i h
    have hi : i < l.length := by omega
    have hg : l.getD i ent0 = l[i] := by rw [List.getD_eq_getElem?_getD, List.getElem?_eq_getElem hi]; rfl
    obtain ⟨s1, s2, s3⟩ := share_le ev l i
    have ht := takeB1_one (l.getD i ent0) (shareAt ev l i) (lastAt l i) (onesB ev l (i + 1) j ++ r) (by rw [hg]; exact hr _ (List.getElem_mem hi)) s1 s2 s3
    rw [readL, onesB, List.append_assoc, ht]
    show (readL j (onesB ev l (i + 1) j ++ r) (keyAt l i)).map _ = _
    have := ih (i + 1) (by omega)
    rw [show lastAt l (i + 1) = keyAt l i from rfl] at this
    rw [this, List.drop_eq_getElem_cons hi, hg]
    rfl
theorem rightL_all {l : List Ent} (h : rightL l = true) : risesE l = true ∧ ∀ e ∈ l, rightE e = true := by
  unfold rightL at h
  rw [Bool.and_eq_true, List.all_eq_true] at h
  exact h
theorem num_pos (n : Nat) : 1 ≤ (num n).length := by
  unfold num
  rw [numF]
  split <;> simp
theorem onesB_len (ev : Nat) (l : List Ent) : ∀ j i, j ≤ (onesB ev l i j).length := by
  intro j
  induction j with
  | zero => intro i; simp
  | succ j ih =>
    intro i
    have h1 := ih (i + 1)
    have h2 := num_pos (shareAt ev l i)
    rw [onesB]
    simp only [oneB, List.length_append]
    omega
theorem buildB_ok {ev : Int} {l : List Ent} {b : List UInt8} (h : buildB ev l = (b, 0)) : 1 ≤ ev ∧ ev ≤ 1024 ∧ rightL l = true ∧ blockB ev.toNat l = b ∧ b.length ≤ 1048576 ∧ l.length ≤ 1048576 := by
  unfold buildB at h
  split at h
  · rename_i h1
    split at h
    · simp at h
    · rename_i h2
      have e := congrArg Prod.fst h
      have hl := onesB_len ev.toNat l l.length 0
      have hf := congrArg List.length (blockB_form ev.toNat l)
      simp only [List.length_append] at hf
      simp only at e
      exact ⟨h1.1, h1.2.1, h1.2.2, e, by rw [← e]; omega, by omega⟩
  · simp at h
/-- the head of a block, and its entries, whatever stands behind -/
theorem read_head (ev : Nat) (l : List Ent) (r : List UInt8) (hev : ev ≤ 1024) (hl : l.length ≤ 1048576) (hr : ∀ e ∈ l, rightE e = true) (b : List UInt8) (hb : b = num ev ++ (num l.length ++ (onesB ev l 0 l.length ++ r))) :
    (sNum (b, 0)).1 = ev ∧ (sNum (sNum (b, 0)).2).1 = l.length ∧ (sNum (sNum (b, 0)).2).2.2 = 0 ∧ readL (sNum (sNum (b, 0)).2).1 (sNum (sNum (b, 0)).2).2.1 [] = some l := by
  have h1 : sNum (b, 0) = (ev, num l.length ++ (onesB ev l 0 l.length ++ r), 0) := by rw [hb, sNum_num _ _ (by omega)]
  have h2 : sNum (sNum (b, 0)).2 = (l.length, onesB ev l 0 l.length ++ r, 0) := by rw [h1, sNum_num _ _ (by omega)]
  have h3 := readL_ones ev l hr r l.length 0 (by omega)
  rw [h2, h1]
  exact ⟨rfl, rfl, rfl, h3⟩
theorem readB_head (ev : Nat) (l : List Ent) (r : List UInt8) (hev : ev ≤ 1024) (hl : l.length ≤ 1048576) (hr : ∀ e ∈ l, rightE e = true) (b : List UInt8) (hb : b = num ev ++ (num l.length ++ (onesB ev l 0 l.length ++ r))) :
    readB b = if buildB (ev : Nat) l = (b, 0) then (l, 0) else ([], 100) := by
  obtain ⟨h1, h2, h3, h4⟩ := read_head ev l r hev hl hr b hb
  unfold readB
  rw [h4, h3, h1, if_neg (by omega)]
/-- what was built is read -/
theorem readB_back {ev : Int} {l : List Ent} {b : List UInt8} (h : buildB ev l = (b, 0)) : readB b = (l, 0) := by
  obtain ⟨h1, h2, h3, h4, h5, h6⟩ := buildB_ok h
  have he : ((ev.toNat : Nat) : Int) = ev := by omega
  rw [readB_head ev.toNat l _ (by omega) h6 (rightL_all h3).2 b (by rw [← h4, blockB_form]), he, if_pos h]
/-- other bytes with that beginning are no block -/
theorem readB_other {ev : Int} {l : List Ent} {b c r : List UInt8} (h : buildB ev l = (b, 0)) (hc : c = num ev.toNat ++ (num l.length ++ (onesB ev.toNat l 0 l.length ++ r))) (hn : b ≠ c) : readB c = ([], 100) := by
  obtain ⟨h1, h2, h3, h4, h5, h6⟩ := buildB_ok h
  have he : ((ev.toNat : Nat) : Int) = ev := by omega
  rw [readB_head ev.toNat l r (by omega) h6 (rightL_all h3).2 c hc, he, if_neg]
  intro x
  rw [h] at x
  exact hn (congrArg Prod.fst x)
theorem readB_more {ev : Int} {l : List Ent} {b : List UInt8} (h : buildB ev l = (b, 0)) (x : UInt8) : readB (b ++ [x]) = ([], 100) := by
  have h4 := (buildB_ok h).2.2.2.1
  refine readB_other (r := placesAt ev.toNat l l.length ++ fix (startsAt ev.toNat l.length) 4 ++ [x]) h ?_ ?_
  · rw [← h4, blockB_form]; simp
  · intro e
    have := congrArg List.length e
    simp at this
theorem readB_less {ev : Int} {l : List Ent} {b : List UInt8} (h : buildB ev l = (b, 0)) : readB (b.take (b.length - 1)) = ([], 100) ∧ 6 ≤ b.length := by
  have h4 := (buildB_ok h).2.2.2.1
  have hf := blockB_form ev.toNat l
  rw [h4] at hf
  have hx := fix_length 4 (startsAt ev.toNat l.length)
  have p1 := num_pos ev.toNat
  have p2 := num_pos l.length
  have hlen := congrArg List.length hf
  simp only [List.length_append] at hlen
  refine ⟨readB_other (r := (placesAt ev.toNat l l.length ++ fix (startsAt ev.toNat l.length) 4).dropLast) h ?_ ?_, by omega⟩
  · rw [← List.dropLast_eq_take]
    have n4 : placesAt ev.toNat l l.length ++ fix (startsAt ev.toNat l.length) 4 ≠ [] := by
      intro e
      have := congrArg List.length e
      simp [hx] at this
    rw [hf, List.dropLast_append_of_ne_nil (by simp [n4]), List.dropLast_append_of_ne_nil (by simp [n4]), List.dropLast_append_of_ne_nil n4]
  · intro e
    have := congrArg List.length e
    rw [List.length_take] at this
    omega
/-- what is read is built so, by one every alone -/
theorem readB_ok {b : List UInt8} {l : List Ent} (h : readB b = (l, 0)) : buildB ((sNum (b, 0)).1 : Nat) l = (b, 0) := by
  unfold readB at h
  split at h
  · simp at h
  · split at h
    · simp at h
    · rename_i m _
      split at h
      · rename_i h2
        have e := congrArg Prod.fst h
        simp only at e
        rw [← e]; exact h2
      · simp at h
theorem build_every {b : List UInt8} {l : List Ent} {ev : Int} (h : buildB ev l = (b, 0)) : ev = ((sNum (b, 0)).1 : Nat) := by
  obtain ⟨h1, h2, h3, h4, h5, h6⟩ := buildB_ok h
  have := (read_head ev.toNat l _ (by omega) h6 (rightL_all h3).2 b (by rw [← h4, blockB_form])).1
  rw [this]; omega
/-- what is not read is none -/
theorem readB_bad {b : List UInt8} (h : (readB b).2 ≠ 0) : readB b = ([], 100) := by
  unfold readB at h ⊢
  split at h
  · rename_i c; rw [if_pos c]
  · rename_i c
    rw [if_neg c]
    split at h
    · rfl
    · split at h
      · exact absurd rfl h
      · rename_i c2; rw [if_neg c2]
/-- where entries are to follow, none are built -/
theorem build_none {b : List UInt8} {ev : Int} (h : buildB ev [] = (b, 0)) : (sNum (sNum (b, 0)).2).1 = 0 := by
  obtain ⟨h1, h2, h3, h4, h5, h6⟩ := buildB_ok h
  exact (read_head ev.toNat [] _ (by omega) h6 (fun _ h => by cases h) b (by rw [← h4, blockB_form])).2.1
end Go.Proofs.Ytoccmedadiangaa
