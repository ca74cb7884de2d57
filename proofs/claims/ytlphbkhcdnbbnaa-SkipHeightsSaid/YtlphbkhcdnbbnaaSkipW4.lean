/-
  What is proved here: the functions of package skip over a list of entries, at this seat's numbers; the examples at the head of layer 13's statements hold.
-/
import Derived.Test.YtlphbkhcdnbbnaaSkipW3
namespace Go.Proofs.Ytlphbkhcdnbbnaa
open Go.RowKit

theorem SL.len {w : World} {base L : Nat} {E : List Ent} {ns : List Nd} {cs : Nat → List Nat} (hE : entsN ns cs = E) (hl : ns.length = (cs 0).length + 1) : ns.length = E.length + 1 := by
  rw [← hE, hl]; simp [entsN]
theorem SL.on {w w' : World} {base B L : Nat} {E : List Ent} (h : SL w base L E) (hb : Below B w w') (hB : w.heap.size ≤ B) : SL w' base L E := by
  obtain ⟨ns, cs, hli, h2, h3, h4⟩ := h
  exact ⟨ns, cs, hli.on hb hB, h2, h3, h4⟩
theorem SL.lt {w : World} {base L : Nat} {E : List Ent} (h : SL w base L E) : base ≤ L ∧ L < w.heap.size := by
  obtain ⟨ns, cs, hli, h2, h3, h4⟩ := h
  refine ⟨?_, hli.lt⟩
  obtain ⟨g, n, cap, _, _, _, _, h, _⟩ := hli
  exact h
theorem SL.row {w : World} {base L : Nat} {E : List Ent} (h : SL w base L E) : ∃ g, rowAt w L = some g ∧ g ≠ L ∧ base ≤ g ∧ g < w.heap.size := by
  obtain ⟨ns, cs, hli, h2, h3, h4⟩ := h
  obtain ⟨g, n, cap, hL, _, _, h5, _, h6, h7⟩ := hli
  exact ⟨g, rowAt_of hL, h5, h6, h7⟩
/-- a list is kept where its two blocks are -/
theorem SL.kept {w w' : World} {base L : Nat} {E : List Ent} (h : SL w base L E) (hs : w.heap.size ≤ w'.heap.size) (h1 : w'.heap[L]? = w.heap[L]?) (h2 : ∀ g, rowAt w L = some g → w'.heap[g]? = w.heap[g]?) : SL w' base L E ∧ rowAt w' L = rowAt w L := by
  obtain ⟨ns, cs, ⟨g, n, cap, hL, hn, ho, h5, h6, h7, h8⟩, h9⟩ := h
  have hr := rowAt_of hL
  have hL' := h1.trans hL
  refine ⟨⟨ns, cs, ⟨g, n, cap, hL', hn, ?_, h5, h6, h7, by omega⟩, h9⟩, by rw [hr, rowAt_of hL']⟩
  refine ⟨ho.1, ?_⟩
  rcases ho.2 with hn | ⟨g', cap', cur, hv, hbg, hg, rest⟩
  · exact .inl hn
  · injection hv with hv1 hv2 hv3
    injection hv1 with hv1
    injection hv1 with hv1
    subst hv1
    exact .inr ⟨g, cap', cur, by rw [hv3, hn], hbg, (h2 g hr).trans hg, rest⟩
theorem sNew_any (w : World) : Calls Try.prog 9 #[] w fun e w' => ∃ L, e = .returned (.pointer (some ⟨L, 0, none⟩)) ∧ SL w' w.heap.size L [] ∧ Below w.heap.size w w' := by
  refine (kNew_any w).mono ?_
  rintro e w' ⟨L, rfl, hli, hb⟩
  exact ⟨L, rfl, ⟨_, _, hli, Good.new _ (fun _ => rfl), rfl, rfl⟩, hb⟩
theorem sLen_any (base L : Nat) (E : List Ent) (w : World) (h : SL w base L E) (hn : E.length ≤ 1000) : Calls Try.prog 15 #[.pointer (some ⟨L, 0, none⟩)] w fun e w' => e = .returned (.int .i64 (E.length : Int)) ∧ Below w.heap.size w w' := by
  obtain ⟨ns, cs, hli, hg, hE, hl⟩ := h
  have hlen := SL.len (w := w) (base := base) (L := L) hE hl
  have h1 := kLen_any base L ns _ w hli (by omega) (by omega)
  rw [show ns.length - 1 = E.length from by omega] at h1
  exact h1
theorem sSize_any (base L : Nat) (E : List Ent) (w : World) (h : SL w base L E) : Calls Try.prog 16 #[.pointer (some ⟨L, 0, none⟩)] w fun e w' => e = .returned (.int .i64 (sizeE E : Int)) ∧ Below w.heap.size w w' := by
  obtain ⟨ns, cs, hli, hg, hE, hl⟩ := h
  exact kSize_any base L ns _ w hli
theorem sGet_any (base L : Nat) (E : List Ent) (q : Ent) (w : World) (h : SL w base L E) (hn : E.length ≤ 1000) : Calls Try.prog 12 #[.pointer (some ⟨L, 0, none⟩), .string q.user, .int .u64 (q.seq.toNat : Int)] w fun e w' => e = .returned (getV E q) ∧ Below w.heap.size w w' := by
  obtain ⟨ns, cs, hli, hg, hE, hl⟩ := h
  have hlen := SL.len (w := w) (base := base) (L := L) hE hl
  rw [← hE]
  exact kGet_any base L ns cs _ q w hli hg (by omega)
theorem sFrom_any (base L : Nat) (E : List Ent) (q : Ent) (n : Int) (w : World) (h : SL w base L E) (hn : E.length ≤ 1000) (hn1 : -9223372036854775808 ≤ n) (hn2 : n ≤ 9223372036854775807) : Calls Try.prog 20 #[.pointer (some ⟨L, 0, none⟩), .string q.user, .int .u64 (q.seq.toNat : Int), .int .i64 n] w fun e w' => ∃ v, e = .returned v ∧ OE w' w.heap.size v ((restE E q).take n.toNat) ∧ Below w.heap.size w w' := by
  obtain ⟨ns, cs, hli, hg, hE, hl⟩ := h
  have hlen := SL.len (w := w) (base := base) (L := L) hE hl
  rw [← hE]
  exact kFrom_any base L ns cs _ q n w hli hg (by omega) hl hn1 hn2
theorem sAll_any (base L : Nat) (E : List Ent) (w : World) (h : SL w base L E) (hn : E.length ≤ 1000) : Calls Try.prog 22 #[.pointer (some ⟨L, 0, none⟩)] w fun e w' => ∃ v, e = .returned v ∧ OE w' w.heap.size v E ∧ Below w.heap.size w w' := by
  obtain ⟨ns, cs, hli, hg, hE, hl⟩ := h
  have hlen := SL.len (w := w) (base := base) (L := L) hE hl
  rw [← hE]
  exact kAll_any base L ns cs _ w hli hg (by omega) hl
/-- what a list's entries are: in order, right -/
def OkE (E : List Ent) : Prop := E.Pairwise (fun a b => aheadE a b = true) ∧ ∀ x ∈ E, rightE x = true
theorem OkE.nil : OkE [] := ⟨.nil, fun _ h => by cases h⟩
theorem OkE.size {E : List Ent} (h : OkE E) : sizeE E ≤ 66568 * E.length := by
  have h2 : ∀ l : List Ent, (∀ x ∈ l, rightE x = true) → sizeE l ≤ 66568 * l.length := by
    intro l
    induction l with
    | nil => intro _; exact Nat.le_refl _
    | cons a l ih =>
      intro hr
      have h1 := rightE_user (hr a (by simp))
      have h3 := rightE_value (hr a (by simp))
      have h4 := ih (fun x hx => hr x (by simp [hx]))
      unfold sizeE at h4 ⊢
      rw [List.map_cons, List.sum_cons, List.length_cons]
      omega
  exact h2 E h.2
theorem dropWhile_ahead {E : List Ent} {e : Ent} (h : E.Pairwise (fun a b => aheadE a b = true)) : ∀ x ∈ E.dropWhile (fun x => aheadE x e), aheadE x e = false := by
  induction E with
  | nil => intro x hx; cases hx
  | cons a E ih =>
    rw [List.pairwise_cons] at h
    intro x hx
    rw [List.dropWhile_cons] at hx
    by_cases ha : aheadE a e = true
    · rw [if_pos ha] at hx
      exact ih h.2 x hx
    · rw [if_neg ha] at hx
      have ha' : aheadE a e = false := by simpa using ha
      rcases List.mem_cons.1 hx with rfl | hx
      · exact ha'
      · cases hxe : aheadE x e with
        | false => rfl
        | true => rw [ahead_trans (h.1 x hx) hxe] at ha'; cases ha'
theorem takeWhile_ahead {E : List Ent} {e : Ent} : ∀ x ∈ E.takeWhile (fun x => aheadE x e), aheadE x e = true := by
  induction E with
  | nil => intro x hx; cases hx
  | cons a E ih =>
    intro x hx
    rw [List.takeWhile_cons] at hx
    split at hx
    · rename_i h
      rcases List.mem_cons.1 hx with rfl | hx
      · exact h
      · exact ih x hx
    · cases hx
/-- what is not ahead, in order, is behind, unless it is there -/
theorem behind {E : List Ent} {e : Ent} (h : E.Pairwise (fun a b => aheadE a b = true)) (hth : there e E = false) : ∀ x ∈ E.dropWhile (fun x => aheadE x e), aheadE e x = true := by
  have h1 := dropWhile_ahead (e := e) h
  unfold there at hth
  have h2 : (E.dropWhile (fun x => aheadE x e)).Pairwise (fun a b => aheadE a b = true) := h.sublist (List.dropWhile_sublist _)
  cases hd : E.dropWhile (fun x => aheadE x e) with
  | nil => intro x hx; cases hx
  | cons a r =>
    rw [hd] at hth h1 h2
    have hea : aheadE e a = true := by
      cases hc : aheadE e a with
      | true => rfl
      | false =>
        obtain ⟨h3, h4⟩ := ahead_tri (h1 a (by simp)) hc
        simp only [List.head?_cons] at hth
        rw [h3, h4] at hth
        simp at hth
    intro x hx
    rcases List.mem_cons.1 hx with rfl | hx
    · exact hea
    · exact ahead_trans hea ((List.pairwise_cons.1 h2).1 x hx)
theorem OkE.ins {E : List Ent} {e : Ent} (h : OkE E) (hr : rightE e = true) (hth : there e E = false) : OkE (insE e E) := by
  have hb := behind h.1 hth
  have ha := takeWhile_ahead (E := E) (e := e)
  unfold insE
  refine ⟨?_, ?_⟩
  · rw [List.pairwise_append, List.pairwise_cons]
    refine ⟨h.1.sublist (List.takeWhile_sublist _), ⟨hb, h.1.sublist (List.dropWhile_sublist _)⟩, ?_⟩
    intro a h1 b h2
    rcases List.mem_cons.1 h2 with rfl | h2
    · exact ha a h1
    · exact ahead_trans (ha a h1) (hb b h2)
  · intro x hx
    rw [List.mem_append, List.mem_cons] at hx
    rcases hx with hx | rfl | hx
    · exact h.2 x ((List.takeWhile_sublist _).subset hx)
    · exact hr
    · exact h.2 x ((List.dropWhile_sublist _).subset hx)
theorem OkE.put {E : List Ent} (h : OkE E) (e : Ent) : OkE (putE E e).2 ∧ (putE E e).2.length ≤ E.length + 1 := by
  unfold putE
  cases hr : rightE e with
  | false => exact ⟨h, Nat.le_succ _⟩
  | true =>
    cases ht : there e E with
    | true => exact ⟨h, Nat.le_succ _⟩
    | false => exact ⟨h.ins hr ht, by simp [insE_length]⟩
theorem sPut_any (base L : Nat) (E : List Ent) (e : Ent) (height : Int) (w : World) (h : SL w base L E) (hok : OkE E) (hn : E.length ≤ 1000) (he : EntOk e) (hh1 : -9223372036854775808 ≤ height) (hh2 : height ≤ 9223372036854775807) :
    Calls Try.prog 11 #[.pointer (some ⟨L, 0, none⟩), entV e, .int .i64 height] w fun en w' => en = .returned (.int .i64 ((putE E e).1 : Int)) ∧ SL w' base L (putE E e).2 ∧ PutFr w w' L ∧ Below base w w' :=
  kPut_any base L E e height w h hn (by have := hok.size; omega) he.1 he.2 hh1 hh2
def x1 : Ent := ⟨⟨#[97]⟩, 1, 1, ⟨#[120]⟩⟩
def x3 : Ent := ⟨⟨#[97]⟩, 3, 1, ⟨#[121]⟩⟩
def q2 : Ent := ⟨⟨#[97]⟩, 2, 0, ⟨#[]⟩⟩
def q9 : Ent := ⟨⟨#[97]⟩, 9, 0, ⟨#[]⟩⟩
def q0 : Ent := ⟨⟨#[97]⟩, 0, 0, ⟨#[]⟩⟩
theorem px1 : putE [] x1 = (0, [x1]) := by unfold putE; rw [show rightE x1 = true from by decide +kernel]; rfl
theorem ax31 : aheadE x1 x3 = false := by unfold aheadE; simp only [Lib.toList_data]; decide +kernel
theorem px3 : putE [x1] x3 = (0, [x3, x1]) := by
  unfold putE
  rw [show rightE x3 = true from by decide +kernel, show there x3 [x1] = false from by unfold there; simp only [List.dropWhile_cons, ax31]; decide +kernel]
  unfold insE
  simp [List.takeWhile_cons, List.dropWhile_cons, ax31]
theorem g2 : getV [x3, x1] q2 = .tuple #[entV x1, .bool true] := by
  unfold getV restE
  rw [List.dropWhile_cons, show aheadE x3 q2 = true from by unfold aheadE; simp only [Lib.toList_data]; decide +kernel, if_pos rfl, List.dropWhile_cons, show aheadE x1 q2 = false from by unfold aheadE; simp only [Lib.toList_data]; decide +kernel]
  simp only [Bool.false_eq_true, if_false, List.head?_cons]
  rw [if_pos (by simp only [Lib.toList_data]; decide +kernel)]
theorem g9 : getV [x3, x1] q9 = .tuple #[entV x3, .bool true] := by
  unfold getV restE
  rw [List.dropWhile_cons, show aheadE x3 q9 = false from by unfold aheadE; simp only [Lib.toList_data]; decide +kernel]
  simp only [Bool.false_eq_true, if_false, List.head?_cons]
  rw [if_pos (by simp only [Lib.toList_data]; decide +kernel)]
theorem g0 : getV [x3, x1] q0 = .tuple #[.agg #[.string .empty, .int .u64 0, .int .u8 0, .string .empty], .bool false] := by
  unfold getV restE
  rw [List.dropWhile_cons, show aheadE x3 q0 = true from by unfold aheadE; simp only [Lib.toList_data]; decide +kernel, if_pos rfl, List.dropWhile_cons, show aheadE x1 q0 = true from by unfold aheadE; simp only [Lib.toList_data]; decide +kernel, if_pos rfl]
  rfl
theorem r2 : (restE [x3, x1] q2).take 5 = [x1] := by
  unfold restE
  rw [List.dropWhile_cons, show aheadE x3 q2 = true from by unfold aheadE; simp only [Lib.toList_data]; decide +kernel, if_pos rfl, List.dropWhile_cons, show aheadE x1 q2 = false from by unfold aheadE; simp only [Lib.toList_data]; decide +kernel]
  rfl
theorem ok1 : OkE [x1] := by have := (OkE.nil.put x1).1; rw [px1] at this; exact this
theorem ok3 : OkE [x3, x1] := by have := (ok1.put x3).1; rw [px3] at this; exact this
end Go.Proofs.Ytlphbkhcdnbbnaa
