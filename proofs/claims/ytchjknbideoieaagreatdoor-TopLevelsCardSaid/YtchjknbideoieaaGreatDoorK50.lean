/-
  What is proved here: entries, cut into tables: what keys and Split of package split come to, at this seat's numbers. Conditions: entries in order; the lengths.
-/
import Derived.Test.YtchjknbideoieaaGreatDoorK05
import Derived.Test.YtchjknbideoieaaGreatDoorK14
import Derived.Test.YtchjknbideoieaaGreatDoorK43
import Derived.Test.YtchjknbideoieaaGreatDoorK07
import Derived.Test.YtchjknbideoieaaGreatDoorK06
import Derived.Test.YtchjknbideoieaaGreatDoorK48
import Derived.Test.YtchjknbideoieaaGreatDoorK17
import Derived.Lib.MinMax
import Derived.Shelf.Abstract
namespace Go.Proofs.YtchjknbideoieaaGreatDoor
open Go.RowKit Go.Great Go.Proofs
abbrev Pr := Value × List Ent
def prC (x : Pr) : List Value := [x.1]
theorem prC_length (x : Pr) : (prC x).length = 1 := rfl
theorem prC_flat (l : List Pr) : (l.flatMap prC).length = l.length := by rw [flat_length prC 1 prC_length]; omega
set_option maxRecDepth 100000 in
theorem infoSl : (Tryz.prog.info? 22).map (fun i => (i.zero, i.size, i.bytes)) = some (some (.slice none 0 0), 1, 24) := by kernel_rfl
structure OL (w : World) (base : Nat) (v : Value) (P : List Pr) : Prop where
  o : OG 22 prC 1 w base v P
  i : ∀ p ∈ P, OE w base p.1 p.2
  a : P.Pairwise (fun p q => Ap p.1 q.1)
  t : ∀ p ∈ P, Ap v p.1
theorem OG.put1 {α : Type} {f : α → List Value} {w : World} {base g n k : Nat} {t : TypeId} {l : List α} {x y : α} {u : Value} (h : OG t f 1 w base (.slice (some ⟨g, 0, none⟩) n k) (l ++ [x])) (hl : (l.flatMap f).length = l.length) (hx : (f x).length = 1) (hy : f y = [u]) :
    OG t f 1 (w.setCell ⟨g, l.length, none⟩ u) base (.slice (some ⟨g, 0, none⟩) n k) (l ++ [y]) := by
  obtain ⟨h1, h2⟩ := h
  rcases h2 with ⟨e, _⟩ | ⟨g', cap, cur, e1, e2, e3, e4, e5, e6, e7⟩
  · cases e
  · injection e1 with e11 e12 e13
    injection e11 with e11
    injection e11 with e11
    subst e11
    refine ⟨by simp [hl, hy], .inr ⟨g, cap, cur.setIfInBounds l.length u, by simp [e12, e13], e2, ?_, by simpa using e4, e5, by simp [e6], ?_⟩⟩
    · simp only [World.setCell, Array.getElem?_modify, e3]
      simp
    · rw [Array.toList_setIfInBounds, List.take_set]
      simp only [List.length_append, List.length_cons, List.length_nil, List.flatMap_append, List.flatMap_cons, List.flatMap_nil, List.append_nil] at e7 ⊢
      rw [e7]
      rw [List.set_append_right _ _ (by omega), hl, Nat.sub_self]
      obtain ⟨z, hz⟩ := List.length_eq_one_iff.1 hx
      rw [hz, hy]
      rfl
theorem Ap.nil_ (u : Value) : Ap u (.slice none 0 0) := by
  rcases hv : u.ownBlock with _ | j
  · exact .inl hv
  · exact .inr (by rw [hv]; simp [Value.ownBlock])
theorem fs_of {w : World} {v v' : Value} {n : Nat} (h : v'.ownBlock = v.ownBlock ∨ v'.ownBlock = some n) (hn : w.heap.size ≤ n) : FS w.heap.size v v' := h.imp id fun e => ⟨n, e, hn⟩
theorem OL.nil_ (w : World) (base : Nat) : OL w base (.slice none 0 0) [] := ⟨OG.nil_ _ _ _ w base, fun p hp => by (cases hp), List.Pairwise.nil, fun p hp => by (cases hp)⟩
theorem OL.on {w w' : World} {B base : Nat} {v : Value} {P : List Pr} (h : OL w base v P) (hb : Below B w w') (hB : w.heap.size ≤ B) : OL w' base v P :=
  ⟨h.o.below hb hB, fun p hp => (h.i p hp).below hb hB, h.a, h.t⟩
theorem fzS_row {w : World} {g : Nat} {c : Array Value} {t : TypeId} (h : w.heap[g]? = some (.cells c t (0, 0))) (k : Nat) : w.frozen? ⟨g, k, none⟩ = false := by simp [World.frozen?, h]
theorem OL.push {w w' : World} {base n : Nat} {v v' : Value} {P : List Pr} (h : OL w base v P) (ho : OG 22 prC 1 w' base v' (P ++ [(.slice none 0 0, [])])) (hg : w.grownBy w' v.ownBlock) (hf : v'.ownBlock = v.ownBlock ∨ v'.ownBlock = some n) (hn : w.heap.size ≤ n) : OL w' base v' (P ++ [(.slice none 0 0, [])]) := by
  refine ⟨ho, fun p hp => ?_, ?_, fun p hp => ?_⟩
  · rcases List.mem_append.1 hp with hp | hp
    · exact (h.i p hp).grown hg (Ap.symm (h.t p hp))
    · rw [List.mem_singleton.1 hp]; exact OE.nil_ _ _
  · rw [List.pairwise_append]
    refine ⟨h.a, List.pairwise_singleton _ _, fun a _ b hb => ?_⟩
    rw [List.mem_singleton.1 hb]; exact Ap.nil_ _
  · rcases List.mem_append.1 hp with hp | hp
    · exact (h.t p hp).left (fun k hk => ((h.i p hp).lt k hk).2) (fs_of hf hn)
    · rw [List.mem_singleton.1 hp]; exact Ap.nil_ _
theorem OL.last {w w1 : World} {base g n k : Nat} {u u' : Value} {P : List Pr} {t t' : List Ent} (h : OL w base (.slice (some ⟨g, 0, none⟩) n k) (P ++ [(u, t)])) (ho : OE w1 base u' t') (hg : w.grownBy w1 u.ownBlock) (hf : u'.ownBlock = u.ownBlock ∨ u'.ownBlock = some w.heap.size) :
    OL (w1.setCell ⟨g, P.length, none⟩ u') base (.slice (some ⟨g, 0, none⟩) n k) (P ++ [(u', t')]) := by
  have hin : (u, t) ∈ P ++ [(u, t)] := by simp
  have hgs : ∀ W : World, W.grownBy (W.setCell ⟨g, P.length, none⟩ u') (some g) := fun W => grown_set W rfl u'
  have hap : Ap (.slice (some ⟨g, 0, none⟩) n k) u' := (h.t _ hin).right (n := w.heap.size) (fun j hj => (h.o.lt j hj).2) (fs_of hf (Nat.le_refl _))
  have hpa := List.pairwise_append.1 h.a
  have hl1 : ∀ p ∈ P, Ap p.1 u := fun p hp => hpa.2.2 p hp (u, t) (by simp)
  refine ⟨?_, fun p hp => ?_, ?_, fun p hp => ?_⟩
  · exact OG.put1 (h.o.grown hg (h.t _ hin)) (prC_flat P) rfl rfl
  · rcases List.mem_append.1 hp with hp | hp
    · refine ((h.i p (List.mem_append_left _ hp)).grown hg (hl1 p hp)).grown (hgs w1) (Ap.symm (h.t p (List.mem_append_left _ hp)))
    · rw [List.mem_singleton.1 hp]; exact ho.grown (hgs w1) (Ap.symm hap)
  · rw [List.pairwise_append]
    refine ⟨hpa.1, List.pairwise_singleton _ _, fun a ha b hb => ?_⟩
    rw [List.mem_singleton.1 hb]
    exact (hl1 a ha).right (n := w.heap.size) (fun j hj => ((h.i a (List.mem_append_left _ ha)).lt j hj).2) (fs_of hf (Nat.le_refl _))
  · rcases List.mem_append.1 hp with hp | hp
    · exact h.t p (List.mem_append_left _ hp)
    · rw [List.mem_singleton.1 hp]; exact hap
def stepS (most : Int) (o : List (List Ent)) (room : Int) (p : List Ent) : List (List Ent) × Int :=
  if o = [] ∨ room < (countE p : Int) then (o ++ [p], max most 1 - min (max most 1) (countE p)) else (o.dropLast ++ [o.getLastD [] ++ p], room - min room (countE p))
def foldS (most : Int) : List (List Ent) → Int → List (List Ent) → List (List Ent)
  | o, _, [] => o
  | o, room, p :: gs => foldS most (stepS most o room p).1 (stepS most o room p).2 gs
theorem foldS_go (most : Int) : ∀ gs o t room, foldS most (o ++ [t]) room gs = splitGo most o t room gs
  | [], o, t, room => rfl
  | p :: gs, o, t, room => by
    rw [foldS, splitGo, stepS]
    by_cases h : room < (countE p : Int)
    · rw [if_pos (.inr h), if_pos h]
      exact foldS_go most gs (o ++ [t]) p _
    · rw [if_neg (by simp [h]), if_neg h]
      simp only [List.dropLast_concat, List.getLastD_concat]
      exact foldS_go most gs o (t ++ p) _
theorem foldS_split (most r : Int) (gs : List (List Ent)) : foldS most [] r gs = splitG most gs := by
  cases gs with
  | nil => rfl
  | cons p gs =>
    rw [foldS, splitG, stepS, if_pos (.inl rfl)]
    exact foldS_go most gs [] p _
theorem stepS_new {most room : Int} {o : List (List Ent)} {p : List Ent} (h : o = [] ∨ room < (countE p : Int)) : stepS most o room p = (o ++ [[] ++ p], max most 1 - min (max most 1) (countE p)) := by rw [stepS, if_pos h]; rfl
theorem stepS_on {most room : Int} {o : List (List Ent)} {t p : List Ent} (h : ¬ room < (countE p : Int)) : stepS most (o ++ [t]) room p = (o ++ [t ++ p], room - min room (countE p)) := by
  rw [stepS, if_neg (by simp [h])]
  simp
structure SpAt (w : World) (B0 bm : Nat) (vo : Value) (P : List Pr) (room most : Int) : Prop where
  hM : bm < B0
  rM : w.heap[bm]? = some (.cells #[.int .i64 most] 3 (0, 0))
  rO : w.heap[B0]? = some (.cells #[vo] 60 (0, 0))
  rR : w.heap[B0 + 1]? = some (.cells #[.int .i64 room] 3 (0, 0))
  ol : OL w (B0 + 1 + 1) vo P
theorem SpAt.on {w w' : World} {B0 bm : Nat} {vo : Value} {P : List Pr} {room most : Int} (h : SpAt w B0 bm vo P room most) (hb : Below w.heap.size w w') : SpAt w' B0 bm vo P room most :=
  ⟨h.hM, (hb.block _ (Array.getElem?_eq_some_iff.1 h.rM).1).trans h.rM, (hb.block _ (Array.getElem?_eq_some_iff.1 h.rO).1).trans h.rO, (hb.block _ (Array.getElem?_eq_some_iff.1 h.rR).1).trans h.rR, h.ol.on hb (Nat.le_refl _)⟩
theorem OL.low {w : World} {base : Nat} {v u : Value} {P : List Pr} {p : Addr} (h : OL w base v P) (hp : p.block < base) : OL (w.setCell p u) base v P := by
  have hne : ∀ {x : Value}, (∀ k, x.ownBlock = some k → base ≤ k ∧ k < w.heap.size) → x.ownBlock = none ∨ x.ownBlock ≠ some p.block := fun {x} hx => by
    rcases e : x.ownBlock with _ | j
    · exact .inl rfl
    · refine .inr fun e2 => ?_
      injection e2 with e2
      have := (hx j e).1
      omega
  exact ⟨h.o.grown (grown_set w rfl u) (hne h.o.lt), fun q hq => (h.i q hq).grown (grown_set w rfl u) (hne (h.i q hq).lt), h.a, h.t⟩
theorem OL.formP {w : World} {base : Nat} {v : Value} {P : List Pr} {x : Pr} (h : OL w base v (P ++ [x])) : ∃ g k, v = .slice (some ⟨g, 0, none⟩) (P.length + 1) k ∧ base ≤ g ∧ g < w.heap.size := by
  obtain ⟨g, k, e⟩ := h.o.form0 (by simp)
  refine ⟨g, k, by simpa using e, ?_⟩
  exact h.o.lt g (by rw [e]; rfl)
theorem SpAt.setO {w w' : World} {B0 bm : Nat} {vo v' : Value} {P P' : List Pr} {room most : Int} (h : SpAt w B0 bm vo P room most) (hb : Below (B0 + 1 + 1) w w') (ho : OL w' (B0 + 1 + 1) v' P') : SpAt (w'.setCell ⟨B0, 0, none⟩ v') B0 bm v' P' room most := by
  have r1 := (hb.block _ (by omega)).trans h.rO
  have hM := h.hM
  refine ⟨hM, (Below.heap_setCell _ _ _ _ (by show bm ≠ B0; omega)).trans ((hb.block _ (by omega)).trans h.rM), ?_, (Below.heap_setCell _ _ _ _ (by show B0 + 1 ≠ B0; omega)).trans ((hb.block _ (by omega)).trans h.rR), ho.low (by show B0 < B0 + 1 + 1; omega)⟩
  simp only [World.setCell, Array.getElem?_modify, r1]
  simp
theorem SpAt.setR {w : World} {B0 bm : Nat} {vo : Value} {P : List Pr} {room most : Int} (h : SpAt w B0 bm vo P room most) (r : Int) : SpAt (w.setCell ⟨B0 + 1, 0, none⟩ (.int .i64 r)) B0 bm vo P r most := by
  have hM := h.hM
  refine ⟨hM, (Below.heap_setCell _ _ _ _ (by show bm ≠ B0 + 1; omega)).trans h.rM, (Below.heap_setCell _ _ _ _ (by show B0 ≠ B0 + 1; omega)).trans h.rO, ?_, h.ol.low (by show B0 + 1 < B0 + 1 + 1; omega)⟩
  simp only [World.setCell, Array.getElem?_modify, h.rR]
  simp
theorem SpAt.setL {w w1 : World} {B0 bm g n k : Nat} {u u' : Value} {P : List Pr} {t t' : List Ent} {room most : Int} (h : SpAt w B0 bm (.slice (some ⟨g, 0, none⟩) n k) (P ++ [(u, t)]) room most) (ho : OE w1 (B0 + 1 + 1) u' t') (hg : w.grownBy w1 u.ownBlock) (hf : u'.ownBlock = u.ownBlock ∨ u'.ownBlock = some w.heap.size) (hb : Below (B0 + 1 + 1) w w1) :
    SpAt (w1.setCell ⟨g, P.length, none⟩ u') B0 bm (.slice (some ⟨g, 0, none⟩) n k) (P ++ [(u', t')]) room most := by
  have hgl := h.ol.o.lt g rfl
  have hb2 := hb.setCell (p := ⟨g, P.length, none⟩) hgl.1 u'
  have hM := h.hM
  exact ⟨hM, (hb2.block _ (by omega)).trans h.rM, (hb2.block _ (by omega)).trans h.rO, (hb2.block _ (by omega)).trans h.rR, h.ol.last ho hg hf⟩
theorem OL.cellLast {w : World} {base g n k : Nat} {u : Value} {P : List Pr} {t : List Ent} (h : OL w base (.slice (some ⟨g, 0, none⟩) n k) (P ++ [(u, t)])) : w.cell? ⟨g, P.length, none⟩ = some u := by
  obtain ⟨b, o, k', e, hb, hr⟩ := h.o.sg.at_ prC_length (by simp)
  injection e with e1 _ _
  injection e1 with e1
  injection e1 with e1 e2
  subst e1; subst e2
  have := hr P.length (by simp) 0 u (by simp [prC])
  simpa using this
theorem OE.formP {w : World} {base : Nat} {v : Value} {l : List Ent} (h : OE w base v l) (hl : 0 < l.length) : ∃ g k, v = .slice (some ⟨g, 0, none⟩) l.length k := by
  obtain ⟨_, h2⟩ := h
  rcases h2 with ⟨_, e⟩ | ⟨g', cap, cur, e1, _⟩
  · omega
  · exact ⟨g', cap, e1⟩
theorem grown_cell {w w1 : World} {row : Option Nat} (hg : w.grownBy w1 row) {g : Nat} (hl : g < w.heap.size) (hne : some g ≠ row) (k : Nat) : w1.cell? ⟨g, k, none⟩ = w.cell? ⟨g, k, none⟩ ∧ w1.frozen? ⟨g, k, none⟩ = w.frozen? ⟨g, k, none⟩ := by
  have h := hg.block g hl hne
  exact ⟨World.cell?_of_block (a := ⟨g, k, none⟩) h, by simp only [World.frozen?, h]⟩
theorem OL.frz {w : World} {base g n k : Nat} {P : List Pr} (h : OL w base (.slice (some ⟨g, 0, none⟩) n k) P) (j : Nat) : w.frozen? ⟨g, j, none⟩ = false := by
  obtain ⟨_, h2⟩ := h.o
  rcases h2 with ⟨e, _⟩ | ⟨g', cap, cur, e1, _, e3, _⟩
  · cases e
  · injection e1 with e1 _ _
    injection e1 with e1
    injection e1 with e1 _
    subst e1
    exact fzS_row e3 j
section
variable {ops : Array Oper} {rest : List Oper} {o : Oper} {a : Act} {Q : Exit → Act → World → Prop} {w : World}
set_option maxRecDepth 100000 in
theorem wl_push (hgd : Region.wanted o (yielded ops a.tmps) = true) (s x : Operand)
    (ho : o.op = .call { callee := .builtin .append, args := #[s, x], argTypes := #[60, 60] })
    (base : Nat) (v : Value) (P : List Pr) (hs : a.eval s = v) (hown : OL w base v P) {g : Nat} (hg : g = w.heap.size) (hx : a.eval x = .slice (some ⟨g, 0, none⟩) 1 1) (hlen : P.length ≤ 1000000) (hbase : base ≤ w.heap.size)
    (h : ∀ v' w', OL w' base v' (P ++ [(.slice none 0 0, [])]) → w.grownBy w' v.ownBlock → Below base w w' → wpList Tryz.prog ops Q rest (a.put o.dst v') w') : wpList Tryz.prog ops Q (o :: rest) a (w.alloc (.cells #[.slice none 0 0] 22)) := by
  refine wl_of hgd fun K hK => wp_appG 60 22 (.slice none 0 0) 24 infoSl Tryz.underlying60 rfl (by omega) s x ho base v P hs (hown.o.alloc _) (w.heap.size + 1) _ [(.slice none 0 0, [])] (fun x hx u hu => by rw [List.mem_singleton.1 hx] at hu; rw [List.mem_singleton.1 hu]; rfl) hx (SG.new1 w prC 1 22 (.slice none 0 0, []) rfl hg (by omega)) (by simp [maxLen]; omega) (by simp; omega) (by simp; omega) fun v' w' h1 h2 h3 h4 => hK _ _ (h v' w' ?_ ((World.grownBy_alloc w _ _).trans h2) (((Below.refl _ _).alloc hbase _).trans h4))
  refine hown.push h1 ((World.grownBy_alloc w _ _).trans h2) h3 (by simp)
end
def ToldPost (w : World) (B0 bm : Nat) (most : Int) (T : List (List Ent) × Int) (e : Ending) (w' : World) : Prop := e = .returned (.tuple #[]) ∧ ∃ vo' P', SpAt w' B0 bm vo' P' T.2 most ∧ P'.map (·.2) = T.1 ∧ Below B0 w w'
theorem countE_bound (l : List Ent) (h : ∀ e ∈ l, e.user.size ≤ 1048576 ∧ e.value.size ≤ 1048576) : countE l ≤ l.length * 2097160 := by
  have h2 : ∀ l : List Ent, (∀ e ∈ l, e.user.size ≤ 1048576 ∧ e.value.size ≤ 1048576) → (l.map fun e => e.user.size + e.value.size).sum ≤ l.length * 2097152 := by
    intro l
    induction l with
    | nil => intro _; simp
    | cons a l ih =>
      intro h
      have h1 := h a (by simp)
      have h3 := ih fun x hx => h x (by simp [hx])
      rw [List.map_cons, List.sum_cons, List.length_cons]
      omega
  have h3 := h2 l h
  unfold countE
  omega
set_option maxRecDepth 100000 in
set_option maxHeartbeats 2000000 in
theorem kTold_any (part : List Ent) (vp vo : Value) (P : List Pr) (room most : Int) (B0 bm : Nat) (w : World) (h : SpAt w B0 bm vo P room most) (hp : SE w B0 vp part) (hpl : part.length ≤ 1000) (hpl0 : 0 < part.length) (hz : ∀ e ∈ part, e.user.size ≤ 1048576 ∧ e.value.size ≤ 1048576)
    (hroom : 0 ≤ room ∧ room ≤ 1000000) (hmost : 0 ≤ most ∧ most ≤ 1000000) (hP : P.length ≤ 100000) (hPs : ∀ p ∈ P, p.2.length ≤ 100000) :
    Calls Tryz.prog 64 #[vp, .pointer (some ⟨B0, 0, none⟩), .pointer (some ⟨B0 + 1, 0, none⟩), .pointer (some ⟨bm, 0, none⟩)] w (ToldPost w B0 bm most (stepS most (P.map (·.2)) room part)) := by
  obtain ⟨T, hT⟩ : ∃ T, T = stepS most (P.map (·.2)) room part := ⟨_, rfl⟩
  rw [← hT]
  obtain ⟨cn, hcn⟩ : ∃ cn : Nat, cn = countE part := ⟨_, rfl⟩
  have hlO := (Array.getElem?_eq_some_iff.1 h.rO).1
  have hlR := (Array.getElem?_eq_some_iff.1 h.rR).1
  have HC : Hid (Calls Tryz.prog 65 #[vp] w fun e w' => e = .returned (.int .i64 (cn : Int)) ∧ Below w.heap.size w w') := Lib.hid (by rw [hcn]; exact kCount_any vp part w (hp.more (by omega)) (by omega) hz)
  have hpf : ∃ A k, vp = .slice A part.length k := by obtain ⟨A, k, e, _⟩ := hp; exact ⟨A, k, e⟩
  obtain ⟨Ap', kp, rfl⟩ := hpf
  obtain ⟨Ao, ko, rfl, hko, hkm⟩ := h.ol.o.sg.form
  have HSP := Lib.hid h
  have HPP := Lib.hid hp
  obtain ⟨pn, hpn⟩ : ∃ pn, pn = P.length := ⟨_, rfl⟩
  rw [← hpn] at HSP hko
  obtain ⟨L, hL⟩ : ∃ L, L = part.length := ⟨_, rfl⟩
  rw [← hL] at HPP HC ⊢
  have HLL := Lib.hid (And.intro hpn (And.intro hL hcn))
  have hcn1 : cn ≤ 3000000000 := by
    have := countE_bound part (fun e he => hz e he)
    omega
  rw [show T = T from rfl] at hT
  have HT0 := Lib.hid hT
  clear h hp hL hpn hcn hT
  go_enter Tryz.func64, Tryz.ntmps64
  go_upto_region 1 with (go_at_call 65; refine HC.out.mono ?_; rintro _ w1 ⟨rfl, hb1⟩)
  have hS1 := HSP.out.on hb1
  have cM := cell_of_row _ _ 0 _ _ _ hS1.rM
  have cO := cell_of_row _ _ 0 _ _ _ hS1.rO
  have cR := cell_of_row _ _ 0 _ _ _ hS1.rR
  have HS1 := Lib.hid hS1
  have z1 := hb1.size
  clear hS1 HC
  by_cases hnew : P = [] ∨ room < (cn : Int)
  · have HT : Hid (T = (P.map (·.2) ++ [[] ++ part], max most 1 - min (max most 1) (cn : Int))) := Lib.hid (by rw [HT0.out, HLL.out.2.2]; exact stepS_new (by rw [← HLL.out.2.2]; simpa using hnew))
    by_cases h0 : P = []
    · have e0 : ((pn : Int) == 0) = true := by rw [HLL.out.1, h0]; rfl
      clear hnew h0
      go_upto_region 3 with (at_builtin; refine wl_push rfl (.tmp 17) (.tmp 18) rfl (B0 + 1 + 1) _ P rfl HS1.out.ol rfl rfl (by omega) (by omega) ?_; intro v2 w2 ho2 hg2 hb2; obtain ⟨g2, k2, rfl, hlg2, hlg2'⟩ := ho2.formP; rw [← HLL.out.1]; have HO2 := Lib.hid ho2; have r2 := (hb2.block (B0) (by omega)).trans HS1.out.rO; have fz2 := fzS_row r2 0; have cz2 := cell_of_row _ _ 0 _ _ _ r2)
      have hS2 := HS1.out.setO hb2 HO2.out
      rw [← HLL.out.1] at hS2
      have bw2 : Below B0 w (World.setCell w2 ⟨B0, 0, none⟩ (.slice (some ⟨g2, 0, none⟩) (pn + 1) k2)) := ((hb1.mono (by omega)).trans (hb2.mono (by omega))).setCell (by show B0 ≤ B0; omega) _
      generalize World.setCell w2 _ _ = w3 at hS2 bw2 ⊢
      have cM3 := cell_of_row _ _ 0 _ _ _ hS2.rM
      have fR3 := fzS_row hS2.rR 0
      have cR3 := cell_of_row _ _ 0 _ _ _ hS2.rR
      go_upto_region 4 with fail
      have hS3 := hS2.setR (max most 1)
      have bw3 := bw2.setCell (p := ⟨B0 + 1, 0, none⟩) (by show B0 ≤ B0 + 1; omega) (.int .i64 (max most 1))
      generalize World.setCell w3 _ _ = w4 at hS3 bw3 ⊢
      clear hS2 cM3 fR3 cR3 cM cO cR bw2 hg2 hb2 HO2 r2 fz2 cz2
      obtain ⟨rm, hrm⟩ : ∃ rm : Int, rm = max most 1 := ⟨_, rfl⟩
      have hrm1 : 0 ≤ rm ∧ rm ≤ 1000000 := by omega
      rw [← hrm] at hS3 HT
      have HRM := Lib.hid hrm
      clear hrm
      have hS := hS3
      have bw4 := bw3
      clear hS3 bw3 ho2
      have hpl0 := HLL.out.1
      have HPL := Lib.hid hpl0
      clear hpl0
      have cO4 := cell_of_row _ _ 0 _ _ _ hS.rO
      have HS := Lib.hid hS
      have gq : ((pn + 1 : Nat) : Int) - 1 = (pn : Int) := by omega
      have gqi : (pn : Int) + 1 - 1 = (pn : Int) := by omega
      have gqw : IntKind.i64.wrap (pn : Int) = (pn : Int) := by rw [IntKind.wrap_i64]; omega
      have hqn : (pn : Int) < (pn : Int) + 1 := by omega
      clear hS
      go_upto_region 5 with fail
      have cL := HS.out.ol.cellLast
      have fL := HS.out.ol.frz pn
      rw [← HPL.out] at cL
      have zL := HS.out.ol.o.lt g2 rfl
      have HAp := Lib.hid (HS.out.ol.t (.slice none 0 0, ([] : List Ent)) (by simp))
      have hMx : (([] : List Ent)).length + part.length ≤ maxLen := by unfold maxLen; first | omega | (simp; omega)
      have hFits : Fits (([] : List Ent)).length part.length 48 := Fits.of _ _ _ (by first | omega | (simp; omega))
      go_upto_region 6 with (at_builtin; refine wl_appEs rfl (.tmp 30) (.tmp 31) rfl (B0 + 1 + 1) (.slice none 0 0) ([] : List Ent) rfl (HS.out.ol.i (.slice none 0 0, ([] : List Ent)) (by simp)) B0 _ part rfl (HPP.out.below bw4) hMx hFits (by omega) ?_; intro v5 w5 ho5 hg5 hf5 hb5; obtain ⟨g5, k5, rfl⟩ := ho5.formP (by rw [List.length_append]; omega); obtain ⟨e5, e5'⟩ := grown_cell hg5 zL.2 (by rcases HAp.out with h | h; cases h; exact h) pn; rw [cL] at e5; rw [fL] at e5'; obtain ⟨m5, hm5⟩ : ∃ m5, m5 = (([] : List Ent) ++ part).length := ⟨_, rfl⟩; rw [← hm5] at ho5 hf5 ⊢; have HM5 := Lib.hid hm5; clear hm5)
      have hS5 := HS.out.setL ho5 hg5 hf5 hb5
      have bw5 := (bw4.trans (hb5.mono (by omega))).setCell (p := ⟨g2, pn, none⟩) (by show B0 ≤ g2; omega) (.slice (some ⟨g5, 0, none⟩) m5 k5)
      rw [← HPL.out] at hS5
      generalize World.setCell w5 _ _ = w6 at hS5 bw5 ⊢
      have cR6 := cell_of_row _ _ 0 _ _ _ hS5.rR
      have fR6 := fzS_row hS5.rR 0
      have gm : IntKind.i64.wrap (rm - min rm (cn : Int)) = rm - min rm (cn : Int) := by rw [IntKind.wrap_i64]; omega
      have hS6 := Lib.hid (hS5.setR (rm - min rm (cn : Int)))
      have bw6 := bw5.setCell (p := ⟨B0 + 1, 0, none⟩) (by show B0 ≤ B0 + 1; omega) (.int .i64 (rm - min rm (cn : Int)))
      clear hS5 bw5 ho5 hg5 hf5 hb5 e5 e5' cL fL gq gqi gqw
      go_wp2_with fail
      go_end0
      exact ⟨rfl, _, _, by rw [HT.out]; exact hS6.out, by rw [HT.out]; simp, bw6⟩
    · have e0 : ((pn : Int) == 0) = false := by rw [beq_eq_false_iff_ne, HLL.out.1]; have := List.length_pos_iff.2 h0; omega
      have e1 : decide (room < (cn : Int)) = true := by rcases hnew with h | h; exact absurd h h0; simpa using h
      clear hnew h0
      go_upto_region 3 with (at_builtin; refine wl_push rfl (.tmp 17) (.tmp 18) rfl (B0 + 1 + 1) _ P rfl HS1.out.ol rfl rfl (by omega) (by omega) ?_; intro v2 w2 ho2 hg2 hb2; obtain ⟨g2, k2, rfl, hlg2, hlg2'⟩ := ho2.formP; rw [← HLL.out.1]; have HO2 := Lib.hid ho2; have r2 := (hb2.block (B0) (by omega)).trans HS1.out.rO; have fz2 := fzS_row r2 0; have cz2 := cell_of_row _ _ 0 _ _ _ r2)
      have hS2 := HS1.out.setO hb2 HO2.out
      rw [← HLL.out.1] at hS2
      have bw2 : Below B0 w (World.setCell w2 ⟨B0, 0, none⟩ (.slice (some ⟨g2, 0, none⟩) (pn + 1) k2)) := ((hb1.mono (by omega)).trans (hb2.mono (by omega))).setCell (by show B0 ≤ B0; omega) _
      generalize World.setCell w2 _ _ = w3 at hS2 bw2 ⊢
      have cM3 := cell_of_row _ _ 0 _ _ _ hS2.rM
      have fR3 := fzS_row hS2.rR 0
      have cR3 := cell_of_row _ _ 0 _ _ _ hS2.rR
      go_upto_region 4 with fail
      have hS3 := hS2.setR (max most 1)
      have bw3 := bw2.setCell (p := ⟨B0 + 1, 0, none⟩) (by show B0 ≤ B0 + 1; omega) (.int .i64 (max most 1))
      generalize World.setCell w3 _ _ = w4 at hS3 bw3 ⊢
      clear hS2 cM3 fR3 cR3 cM cO cR bw2 hg2 hb2 HO2 r2 fz2 cz2
      obtain ⟨rm, hrm⟩ : ∃ rm : Int, rm = max most 1 := ⟨_, rfl⟩
      have hrm1 : 0 ≤ rm ∧ rm ≤ 1000000 := by omega
      rw [← hrm] at hS3 HT
      have HRM := Lib.hid hrm
      clear hrm
      have hS := hS3
      have bw4 := bw3
      clear hS3 bw3 ho2
      have hpl0 := HLL.out.1
      have HPL := Lib.hid hpl0
      clear hpl0
      have cO4 := cell_of_row _ _ 0 _ _ _ hS.rO
      have HS := Lib.hid hS
      have gq : ((pn + 1 : Nat) : Int) - 1 = (pn : Int) := by omega
      have gqi : (pn : Int) + 1 - 1 = (pn : Int) := by omega
      have gqw : IntKind.i64.wrap (pn : Int) = (pn : Int) := by rw [IntKind.wrap_i64]; omega
      have hqn : (pn : Int) < (pn : Int) + 1 := by omega
      clear hS
      go_upto_region 5 with fail
      have cL := HS.out.ol.cellLast
      have fL := HS.out.ol.frz pn
      rw [← HPL.out] at cL
      have zL := HS.out.ol.o.lt g2 rfl
      have HAp := Lib.hid (HS.out.ol.t (.slice none 0 0, ([] : List Ent)) (by simp))
      have hMx : (([] : List Ent)).length + part.length ≤ maxLen := by unfold maxLen; first | omega | (simp; omega)
      have hFits : Fits (([] : List Ent)).length part.length 48 := Fits.of _ _ _ (by first | omega | (simp; omega))
      go_upto_region 6 with (at_builtin; refine wl_appEs rfl (.tmp 30) (.tmp 31) rfl (B0 + 1 + 1) (.slice none 0 0) ([] : List Ent) rfl (HS.out.ol.i (.slice none 0 0, ([] : List Ent)) (by simp)) B0 _ part rfl (HPP.out.below bw4) hMx hFits (by omega) ?_; intro v5 w5 ho5 hg5 hf5 hb5; obtain ⟨g5, k5, rfl⟩ := ho5.formP (by rw [List.length_append]; omega); obtain ⟨e5, e5'⟩ := grown_cell hg5 zL.2 (by rcases HAp.out with h | h; cases h; exact h) pn; rw [cL] at e5; rw [fL] at e5'; obtain ⟨m5, hm5⟩ : ∃ m5, m5 = (([] : List Ent) ++ part).length := ⟨_, rfl⟩; rw [← hm5] at ho5 hf5 ⊢; have HM5 := Lib.hid hm5; clear hm5)
      have hS5 := HS.out.setL ho5 hg5 hf5 hb5
      have bw5 := (bw4.trans (hb5.mono (by omega))).setCell (p := ⟨g2, pn, none⟩) (by show B0 ≤ g2; omega) (.slice (some ⟨g5, 0, none⟩) m5 k5)
      rw [← HPL.out] at hS5
      generalize World.setCell w5 _ _ = w6 at hS5 bw5 ⊢
      have cR6 := cell_of_row _ _ 0 _ _ _ hS5.rR
      have fR6 := fzS_row hS5.rR 0
      have gm : IntKind.i64.wrap (rm - min rm (cn : Int)) = rm - min rm (cn : Int) := by rw [IntKind.wrap_i64]; omega
      have hS6 := Lib.hid (hS5.setR (rm - min rm (cn : Int)))
      have bw6 := bw5.setCell (p := ⟨B0 + 1, 0, none⟩) (by show B0 ≤ B0 + 1; omega) (.int .i64 (rm - min rm (cn : Int)))
      clear hS5 bw5 ho5 hg5 hf5 hb5 e5 e5' cL fL gq gqi gqw
      go_wp2_with fail
      go_end0
      exact ⟨rfl, _, _, by rw [HT.out]; exact hS6.out, by rw [HT.out]; simp, bw6⟩
  · have e0 : ((pn : Int) == 0) = false := by rw [beq_eq_false_iff_ne, HLL.out.1]; have := List.length_pos_iff.2 (fun h => hnew (.inl h)); omega
    have e1 : decide (room < (cn : Int)) = false := by simpa using fun h => hnew (.inr h)
    have hPne : P ≠ [] := fun h => hnew (.inl h)
    have hlt : ¬ room < (cn : Int) := fun h => hnew (.inr h)
    rcases List.eq_nil_or_concat P with h0 | ⟨P0, ⟨u, t⟩, rfl⟩
    · exact absurd h0 hPne
    · rw [List.concat_eq_append] at *
      have HT : Hid (T = (P0.map (·.2) ++ [t ++ part], room - min room (cn : Int))) := Lib.hid (by rw [HT0.out, HLL.out.2.2]; rw [List.map_append]; exact stepS_on (by rw [← HLL.out.2.2]; exact hlt))
      have hpn := HLL.out.1
      have hS := HS1.out
      obtain ⟨g2, k2, e2, _, _⟩ := hS.ol.formP
      injection e2 with e2 e2' e2''
      subst e2; subst e2''
      obtain ⟨qn, hqn⟩ : ∃ qn, qn = P0.length := ⟨_, rfl⟩
      rw [← hqn] at e2'
      subst e2'
      have HQN := Lib.hid hqn
      obtain ⟨Au, ku, hu, _⟩ := (hS.ol.i (u, t) (by simp)).se
      dsimp only at hu
      subst hu
      obtain ⟨tl, htl⟩ : ∃ tl, tl = t.length := ⟨_, rfl⟩
      have ht5 := hPs (.slice Au t.length ku, t) (by simp)
      dsimp only at ht5
      rw [← htl] at hS
      have HTL := Lib.hid htl
      have bw4 := hb1.mono (show B0 ≤ w.heap.size by omega)
      clear hnew hPne hlt hpn hqn htl
      go_upto_region 4 with fail
      have cO4 := cell_of_row _ _ 0 _ _ _ hS.rO
      have HS := Lib.hid hS
      have gq : ((qn + 1 : Nat) : Int) - 1 = (qn : Int) := by omega
      have gqi : (qn : Int) + 1 - 1 = (qn : Int) := by omega
      have gqw : IntKind.i64.wrap (qn : Int) = (qn : Int) := by rw [IntKind.wrap_i64]; omega
      have hqn : (qn : Int) < (qn : Int) + 1 := by omega
      clear hS
      go_upto_region 5 with fail
      have cL := HS.out.ol.cellLast
      have fL := HS.out.ol.frz qn
      rw [← HQN.out] at cL
      have zL := HS.out.ol.o.lt g2 rfl
      have HAp := Lib.hid (HS.out.ol.t (.slice Au tl ku, t) (by simp))
      have hMx : (t).length + part.length ≤ maxLen := by unfold maxLen; first | omega | (simp; omega)
      have hFits : Fits (t).length part.length 48 := Fits.of _ _ _ (by first | omega | (simp; omega))
      go_upto_region 6 with (at_builtin; refine wl_appEs rfl (.tmp 30) (.tmp 31) rfl (B0 + 1 + 1) (.slice Au tl ku) t rfl (HS.out.ol.i (.slice Au tl ku, t) (by simp)) B0 _ part rfl (HPP.out.below bw4) hMx hFits (by omega) ?_; intro v5 w5 ho5 hg5 hf5 hb5; obtain ⟨g5, k5, rfl⟩ := ho5.formP (by rw [List.length_append]; omega); obtain ⟨e5, e5'⟩ := grown_cell hg5 zL.2 (by rcases HAp.out with h | h; cases h; exact h) qn; rw [cL] at e5; rw [fL] at e5'; obtain ⟨m5, hm5⟩ : ∃ m5, m5 = (t ++ part).length := ⟨_, rfl⟩; rw [← hm5] at ho5 hf5 ⊢; have HM5 := Lib.hid hm5; clear hm5)
      have hS5 := HS.out.setL ho5 hg5 hf5 hb5
      have bw5 := (bw4.trans (hb5.mono (by omega))).setCell (p := ⟨g2, qn, none⟩) (by show B0 ≤ g2; omega) (.slice (some ⟨g5, 0, none⟩) m5 k5)
      rw [← HQN.out] at hS5
      generalize World.setCell w5 _ _ = w6 at hS5 bw5 ⊢
      have cR6 := cell_of_row _ _ 0 _ _ _ hS5.rR
      have fR6 := fzS_row hS5.rR 0
      have gm : IntKind.i64.wrap (room - min room (cn : Int)) = room - min room (cn : Int) := by rw [IntKind.wrap_i64]; omega
      have hS6 := Lib.hid (hS5.setR (room - min room (cn : Int)))
      have bw6 := bw5.setCell (p := ⟨B0 + 1, 0, none⟩) (by show B0 ≤ B0 + 1; omega) (.int .i64 (room - min room (cn : Int)))
      clear hS5 bw5 ho5 hg5 hf5 hb5 e5 e5' cL fL gq gqi gqw
      go_wp2_with fail
      go_end0
      exact ⟨rfl, _, _, by rw [HT.out]; exact hS6.out, by rw [HT.out]; simp, bw6⟩
theorem flat_mem_le {α : Type} : ∀ (L : List (List α)) (x : List α), x ∈ L → x.length ≤ L.flatten.length
  | [], _, h => by cases h
  | a :: L, x, h => by
    rw [List.flatten_cons, List.length_append]
    rcases List.mem_cons.1 h with rfl | h
    · omega
    · have := flat_mem_le L x h; omega
theorem stepS_flat (most room : Int) (o : List (List Ent)) (p : List Ent) : (stepS most o room p).1.flatten = o.flatten ++ p := by
  unfold stepS
  split
  · simp
  · rename_i h
    rcases List.eq_nil_or_concat o with h0 | ⟨o', t, rfl⟩
    · exact absurd (.inl h0) h
    · simp
theorem stepS_len (most room : Int) (o : List (List Ent)) (p : List Ent) : (stepS most o room p).1.length ≤ o.length + 1 := by
  unfold stepS
  split
  · simp
  · simp only [List.length_append, List.length_dropLast, List.length_cons, List.length_nil]
    omega
theorem stepS_room {most room : Int} {o : List (List Ent)} {p : List Ent} (h : 0 ≤ room ∧ room ≤ 1000000) (hm : 0 ≤ most ∧ most ≤ 1000000) : 0 ≤ (stepS most o room p).2 ∧ (stepS most o room p).2 ≤ 1000000 := by
  unfold stepS
  split <;> (dsimp only; omega)
theorem keyN_at (u : ByteArray) : ∀ (l : List Ent) (k : Nat), k ≤ l.length → (∀ j (h : j < l.length), j < k → l[j].user = u) → (∀ h : k < l.length, ¬ l[k].user = u) → keyN u l = k
  | [], k, hk, _, _ => by simp at hk; subst hk; rfl
  | e :: l, 0, _, _, h2 => by
    have := h2 (by simp)
    rw [List.getElem_cons_zero] at this
    rw [keyN, if_neg this]
  | e :: l, k + 1, hk, h1, h2 => by
    have h0 := h1 0 (by simp) (by omega)
    rw [List.getElem_cons_zero] at h0
    rw [keyN, if_pos h0, keyN_at u l k (by simpa using hk) (fun j hj hjk => by have := h1 (j + 1) (by simpa using hj) (by omega); simpa using this) (fun h => by have := h2 (by simpa using h); simpa using this)]
def KeyI (most : Int) (l : List Ent) (rest : List Ent) (P : List Pr) (room : Int) : Prop := ∃ f, rest.length ≤ f ∧ foldS most (P.map (·.2)) room (groupsF f rest) = splitL most l
theorem KeyI.step {most : Int} {l rest : List Ent} {P P' : List Pr} {room : Int} {k : Nat} (h : KeyI most l rest P room) (h0 : 0 < k) (hk : k ≤ rest.length) (h1 : ∀ j (h : j < rest.length), j < k → rest[j].user = (rest[0]'(by omega)).user) (h2 : ∀ h : k < rest.length, ¬ rest[k].user = (rest[0]'(by omega)).user)
    (hP : P'.map (·.2) = (stepS most (P.map (·.2)) room (rest.take k)).1) : KeyI most l (rest.drop k) P' (stepS most (P.map (·.2)) room (rest.take k)).2 := by
  obtain ⟨f, hf, he⟩ := h
  cases rest with
  | nil => simp at hk; omega
  | cons e t =>
    cases k with
    | zero => omega
    | succ k =>
      cases f with
      | zero => simp at hf
      | succ f =>
        simp only [List.length_cons, List.getElem_cons_zero] at hf hk h1 h2
        have hn := keyN_at e.user t k (by omega) (fun j hj hjk => by have := h1 (j + 1) (by omega) (by omega); simpa using this) (fun h => by have := h2 (by omega); simpa using this)
        refine ⟨f, by simp only [List.length_drop, List.length_cons]; omega, ?_⟩
        rw [groupsF, foldS, hn] at he
        rw [hP, List.drop_succ_cons, List.take_succ_cons]
        rw [List.take_succ_cons] at hP
        exact he
def spLen : Value → Nat
  | .slice _ n _ => n
  | _ => 0
def KeysPost (w : World) (B0 bm : Nat) (most : Int) (l : List Ent) (e : Ending) (w' : World) : Prop := e = .returned (.tuple #[]) ∧ ∃ vo' P' r, SpAt w' B0 bm vo' P' r most ∧ P'.map (·.2) = splitL most l ∧ Below B0 w w'
set_option maxRecDepth 100000 in
set_option maxHeartbeats 2000000 in
theorem kKeys_any (l : List Ent) (v vo : Value) (most : Int) (B0 bm : Nat) (w : World) (hv : SE w B0 v l) (h : SpAt w B0 bm vo [] 0 most) (hl : l.length ≤ 1000) (hz : ∀ e ∈ l, e.user.size ≤ 1048576 ∧ e.value.size ≤ 1048576) (hmost : 0 ≤ most ∧ most ≤ 1000000) :
    Calls Tryz.prog 63 #[v, .func (.func 64) #[] #[.pointer (some ⟨B0, 0, none⟩), .pointer (some ⟨B0 + 1, 0, none⟩), .pointer (some ⟨bm, 0, none⟩)]] w (KeysPost w B0 bm most l) := by
  have eg : ∀ args w, (callFunc 64 args).run Tryz.prog w = .ok (.enter 64 args) w := enters_of Tryz.func64 (by kernel_rfl) rfl
  have HH := Lib.hid h
  have HV := Lib.hid hv
  have hB0 : B0 < w.heap.size := (Array.getElem?_eq_some_iff.1 h.rO).1
  obtain ⟨A, c, rfl, _⟩ := hv
  clear h
  go_enter Tryz.func63, Tryz.ntmps63
  go_wp2_with fail
  go_loopw [0] (fun sv wr => ∃ (A : Option Addr) (c : Nat) (rest : List Ent) (vo : Value) (P : List Pr) (room : Int), sv = .slice A rest.length c ∧ Hid (SE wr B0 (.slice A rest.length c) rest) ∧ Hid (SpAt wr B0 bm vo P room most) ∧ Hid (KeyI most l rest P room) ∧ Hid (∀ e ∈ rest, e.user.size ≤ 1048576 ∧ e.value.size ≤ 1048576) ∧ 0 ≤ room ∧ room ≤ 1000000 ∧ P.length + rest.length ≤ 1000 ∧ (P.map (·.2)).flatten.length + rest.length ≤ 1000 ∧ Below B0 w wr) (fun sv _ => spLen sv)
  case atStart => exact ⟨A, c, l, vo, [], 0, rfl, HV, HH, Lib.hid ⟨l.length, Nat.le_refl _, by rw [List.map_nil, foldS_split]; rfl⟩, Lib.hid hz, by omega, by omega, by simpa using hl, by simpa using hl, Below.refl _ _⟩
  case round =>
    obtain ⟨A, c, rest, vo, P, room, rfl, HSE, HSP, HKI, HZ, hr1, hr2, hl1, hl2, hbr⟩ := hrel
    obtain ⟨n, hn⟩ : ∃ n, n = rest.length := ⟨_, rfl⟩
    rw [← hn] at HSE hl1 hl2 ⊢
    have HN := Lib.hid hn
    clear hn
    by_cases h0 : 0 < n
    · obtain ⟨_, _, e1, hc1, hc2, hrd⟩ := id HSE.out
      injection e1 with e11 e12 e13
      subst e11; subst e13
      clear e12
      have hnr : 0 < rest.length := by rw [← HN.out]; exact h0
      obtain ⟨b, o, rfl, hb, c0, _, _, _⟩ := hrd.ent (k := 0) rfl hnr
      obtain ⟨u0, hu0⟩ : ∃ u0, u0 = rest[0].user := ⟨_, rfl⟩
      rw [← hu0, Nat.zero_mul, Nat.add_zero] at c0
      have HU := Lib.hid hu0
      have HRd := Lib.hid hrd
      have h0i : (0 : Int) < (n : Int) := by omega
      clear hu0 hrd
      obtain ⟨wo, hwo⟩ : ∃ wo, wo = wr := ⟨_, rfl⟩
      subst hwo
      go_wp2_with fail
      go_loopw [4] (fun kv wi => ∃ k : Nat, kv = .int .i64 (k : Int) ∧ 1 ≤ k ∧ k ≤ n ∧ Hid (∀ j (h : j < rest.length), j < k → rest[j].user = u0) ∧ Below wo.heap.size wo wi) (fun kv _ => n - (intOf kv).toNat)
      case atStart => exact ⟨1, rfl, by omega, by omega, Lib.hid (fun j h hj => by (obtain rfl : j = 0 := by omega); exact HU.out.symm), bself wo⟩
      case round =>
        obtain ⟨k, rfl, hk1, hkn, hall, hbi⟩ := hrel
        have hBw : B0 < wo.heap.size := by have := hbr.size; omega
        have hwb : b < wo.heap.size := by omega
        have hnc : n ≤ c := by rw [HN.out]; exact hc1
        have c0i := (hbi.cell (p := ⟨b, o, none⟩) hwb).trans c0
        have hbd := bdrew hbi
        by_cases hlt : k < n
        · have hkr : k < rest.length := by rw [← HN.out]; exact hlt
          obtain ⟨b2, o2, e2, _, ck, _, _, _⟩ := HRd.out.ent (k := k) rfl hkr
          injection e2 with e2
          injection e2 with e2 e2'
          subst e2; subst e2'
          obtain ⟨uk, huk⟩ : ∃ uk, uk = rest[k].user := ⟨_, rfl⟩
          rw [← huk] at ck
          have cki := (hbi.cell (p := ⟨b, o + k * 4, none⟩) hwb).trans ck
          have HUK := Lib.hid huk
          have hlti : (k : Int) < (n : Int) := by omega
          clear huk ck
          by_cases hu : uk = u0
          · subst hu
            have ht : (uk.toList == uk.toList) = true := by simp
            go_upto_region 2 with fail
            refine wp_region_noPanic ?_
            refine wp_region_held_drew (S := fun W => True ∧ W.cell? ⟨b, o, none⟩ = some (.string uk) ∧ W.cell? ⟨b, o + k * 4, none⟩ = some (.string uk)) (by kernel_rfl) ⟨trivial, c0i, cki⟩ (fun hHeld => ?_)
            refine rtk 0 ?_ ?_ ?_
            rotate_left
            · (intro wq hSq; (try dsimp only at hSq); go_split_ands; go_simp; (try with_reducible rfl))
            try simp only [Act.put, q1, q2, q3]
            refine rtk 1 ?_ ?_ ?_
            rotate_left
            · (intro wq hSq; (try dsimp only at hSq); go_split_ands; go_simp; (try with_reducible rfl))
            try simp only [Act.put, q1, q2, q3]
            refine rtk 2 ?_ ?_ ?_
            rotate_left
            · (intro wq hSq; (try dsimp only at hSq); go_split_ands; go_simp; (try with_reducible rfl))
            try simp only [Act.put, q1, q2, q3]
            refine rtk 3 ?_ ?_ ?_
            rotate_left
            · (intro wq hSq; (try dsimp only at hSq); go_split_ands; go_simp; (try with_reducible rfl))
            try simp only [Act.put, q1, q2, q3]
            refine rtk 4 ?_ ?_ ?_
            rotate_left
            · (intro wq hSq; (try dsimp only at hSq); go_split_ands; go_simp; (try with_reducible rfl))
            try simp only [Act.put, q1, q2, q3]
            refine rtk 5 ?_ ?_ ?_
            rotate_left
            · (intro wq hSq; (try dsimp only at hSq); go_split_ands; go_simp; (try with_reducible rfl))
            try simp only [Act.put, q1, q2, q3]
            refine rtk 6 ?_ ?_ ?_
            rotate_left
            · (intro wq hSq; (try dsimp only at hSq); go_split_ands; go_simp; (try with_reducible rfl))
            try simp only [Act.put, q1, q2, q3]
            refine rtk 7 ?_ ?_ ?_
            rotate_left
            · (intro wq hSq; (try dsimp only at hSq); go_split_ands; go_simp; (try with_reducible rfl))
            try simp only [Act.put, q1, q2, q3]
            refine rtk 8 ?_ ?_ ?_
            rotate_left
            · (intro wq hSq; (try dsimp only at hSq); go_split_ands; go_simp; (try with_reducible rfl))
            try simp only [Act.put, q1, q2, q3]
            refine rtk 9 ?_ ?_ ?_
            rotate_left
            · (intro wq hSq; (try dsimp only at hSq); go_split_ands; go_simp; (try with_reducible rfl))
            try simp only [Act.put, q1, q2, q3]
            refine rtk 10 ?_ ?_ ?_
            rotate_left
            · (intro wq hSq; (try dsimp only at hSq); go_split_ands; go_simp; (try with_reducible rfl))
            try simp only [Act.put, q1, q2, q3]
            refine rtk 11 ?_ ?_ ?_
            rotate_left
            · (intro wq hSq; (try dsimp only at hSq); go_split_ands; go_simp; (try with_reducible rfl))
            try simp only [Act.put, q1, q2, q3]
            refine rtk 12 ?_ ?_ ?_
            rotate_left
            · (intro wq hSq; (try dsimp only at hSq); go_split_ands; go_simp; (try with_reducible rfl))
            try simp only [Act.put, q1, q2, q3]
            refine rtk 13 ?_ ?_ ?_
            rotate_left
            · (intro wq hSq; (try dsimp only at hSq); go_split_ands; go_simp; (try with_reducible rfl))
            try simp only [Act.put, q1, q2, q3]
            refine rtk 14 ?_ ?_ ?_
            rotate_left
            · (intro wq hSq; (try dsimp only at hSq); go_split_ands; go_simp; (try with_reducible rfl))
            try simp only [Act.put, q1, q2, q3]
            refine rtk 15 ?_ ?_ ?_
            rotate_left
            · (intro wq hSq; (try dsimp only at hSq); go_split_ands; go_simp; (try with_reducible rfl))
            try simp only [Act.put, q1, q2, q3]
            refine wpAnyH_done (by kernel_rfl) (noPanic_mk ?_) _
            clear hHeld
            go_wp2_with fail
            go_roundw
            case rel =>
              refine ⟨k + 1, by go_num, by omega, by omega, Lib.hid (fun j h hj => ?_), hbd⟩
              rcases Nat.lt_or_ge j k with h1 | h1
              · exact hall.out j h h1
              · obtain rfl : j = k := by omega
                exact HUK.out.symm
            case measure => simp [intOf]; omega
          · have ht : (uk.toList == u0.toList) = false := by rw [beq_eq_false_iff_ne]; intro e; exact hu (ext_toList e)
            have HNE : Hid (∀ h : k < rest.length, ¬ rest[k].user = u0) := Lib.hid (fun _ e => hu (HUK.out.trans e))
            go_upto_region 2 with fail
            refine wp_region_noPanic ?_
            refine wp_region_held_drew (S := fun W => True ∧ W.cell? ⟨b, o, none⟩ = some (.string u0) ∧ W.cell? ⟨b, o + k * 4, none⟩ = some (.string uk)) (by kernel_rfl) ⟨trivial, c0i, cki⟩ (fun hHeld => ?_)
            refine rtk 0 ?_ ?_ ?_
            rotate_left
            · (intro wq hSq; (try dsimp only at hSq); go_split_ands; go_simp; (try with_reducible rfl))
            try simp only [Act.put, q1, q2, q3]
            refine rtk 1 ?_ ?_ ?_
            rotate_left
            · (intro wq hSq; (try dsimp only at hSq); go_split_ands; go_simp; (try with_reducible rfl))
            try simp only [Act.put, q1, q2, q3]
            refine rtk 2 ?_ ?_ ?_
            rotate_left
            · (intro wq hSq; (try dsimp only at hSq); go_split_ands; go_simp; (try with_reducible rfl))
            try simp only [Act.put, q1, q2, q3]
            refine rtk 3 ?_ ?_ ?_
            rotate_left
            · (intro wq hSq; (try dsimp only at hSq); go_split_ands; go_simp; (try with_reducible rfl))
            try simp only [Act.put, q1, q2, q3]
            refine rtk 4 ?_ ?_ ?_
            rotate_left
            · (intro wq hSq; (try dsimp only at hSq); go_split_ands; go_simp; (try with_reducible rfl))
            try simp only [Act.put, q1, q2, q3]
            refine rtk 5 ?_ ?_ ?_
            rotate_left
            · (intro wq hSq; (try dsimp only at hSq); go_split_ands; go_simp; (try with_reducible rfl))
            try simp only [Act.put, q1, q2, q3]
            refine rtk 6 ?_ ?_ ?_
            rotate_left
            · (intro wq hSq; (try dsimp only at hSq); go_split_ands; go_simp; (try with_reducible rfl))
            try simp only [Act.put, q1, q2, q3]
            refine rtk 7 ?_ ?_ ?_
            rotate_left
            · (intro wq hSq; (try dsimp only at hSq); go_split_ands; go_simp; (try with_reducible rfl))
            try simp only [Act.put, q1, q2, q3]
            refine rtk 8 ?_ ?_ ?_
            rotate_left
            · (intro wq hSq; (try dsimp only at hSq); go_split_ands; go_simp; (try with_reducible rfl))
            try simp only [Act.put, q1, q2, q3]
            refine rtk 9 ?_ ?_ ?_
            rotate_left
            · (intro wq hSq; (try dsimp only at hSq); go_split_ands; go_simp; (try with_reducible rfl))
            try simp only [Act.put, q1, q2, q3]
            refine rtk 10 ?_ ?_ ?_
            rotate_left
            · (intro wq hSq; (try dsimp only at hSq); go_split_ands; go_simp; (try with_reducible rfl))
            try simp only [Act.put, q1, q2, q3]
            refine rtk 11 ?_ ?_ ?_
            rotate_left
            · (intro wq hSq; (try dsimp only at hSq); go_split_ands; go_simp; (try with_reducible rfl))
            try simp only [Act.put, q1, q2, q3]
            refine rtk 12 ?_ ?_ ?_
            rotate_left
            · (intro wq hSq; (try dsimp only at hSq); go_split_ands; go_simp; (try with_reducible rfl))
            try simp only [Act.put, q1, q2, q3]
            refine rtk 13 ?_ ?_ ?_
            rotate_left
            · (intro wq hSq; (try dsimp only at hSq); go_split_ands; go_simp; (try with_reducible rfl))
            try simp only [Act.put, q1, q2, q3]
            refine rtk 14 ?_ ?_ ?_
            rotate_left
            · (intro wq hSq; (try dsimp only at hSq); go_split_ands; go_simp; (try with_reducible rfl))
            try simp only [Act.put, q1, q2, q3]
            refine rtk 15 ?_ ?_ ?_
            rotate_left
            · (intro wq hSq; (try dsimp only at hSq); go_split_ands; go_simp; (try with_reducible rfl))
            try simp only [Act.put, q1, q2, q3]
            refine wpAnyH_done (by kernel_rfl) (noPanic_mk ?_) _
            clear hHeld
            generalize World.drew wr = wx at hbd ⊢
            have HTold : Hid (Calls Tryz.prog 64 #[.slice (some ⟨b, o, none⟩) k c, .pointer (some ⟨B0, 0, none⟩), .pointer (some ⟨B0 + 1, 0, none⟩), .pointer (some ⟨bm, 0, none⟩)] wx (ToldPost wx B0 bm most (stepS most (P.map (·.2)) room (rest.take k)))) := Lib.hid (by
              have hkr2 : k ≤ rest.length := by rw [← HN.out]; exact hkn
              have hse := HSE.out
              rw [HN.out] at hse
              have htk := (hse.takeR hkr2).below (hbd.mono (show B0 ≤ wo.heap.size by omega))
              have hlen : (rest.take k).length = k := by rw [List.length_take]; omega
              refine kTold_any (rest.take k) _ vo P room most B0 bm wx (HSP.out.on hbd) htk (by omega) (by omega) (fun e he => HZ.out e (List.mem_of_mem_take he)) ⟨hr1, hr2⟩ hmost (by omega) (fun p hp => ?_)
              have := flat_mem_le (P.map (·.2)) p.2 (List.mem_map.2 ⟨p, hp, rfl⟩)
              omega)
            go_upto_region 5 with fail
            refine HTold.out.mono ?_
            rintro _ w7 ⟨rfl, vo7, P7, hS7, hP7, hb7⟩
            have HS7 := Lib.hid hS7
            have HP7 := Lib.hid hP7
            have hb7' : Below B0 w w7 := (hbr.trans (hbd.mono (by omega))).trans hb7
            clear hS7 hP7
            have hkr2 : k ≤ rest.length := by rw [← HN.out]; exact hkn
            have hlen9 := congrArg List.length HP7.out
            have hflat9 := congrArg (fun L => L.flatten.length) HP7.out
            have hsl := stepS_len most room (P.map (·.2)) (rest.take k)
            have hsf := congrArg List.length (stepS_flat most room (P.map (·.2)) (rest.take k))
            simp only [List.length_map, List.length_append, List.length_take] at hlen9 hsl hsf hflat9
            have hroom9 := stepS_room (o := P.map (·.2)) (p := rest.take k) ⟨hr1, hr2⟩ hmost
            have HK9 : Hid (KeyI most l (rest.drop k) P7 (stepS most (P.map (·.2)) room (rest.take k)).2) := Lib.hid (HKI.out.step (by omega) hkr2 (fun j h hj => by rw [hall.out j h hj, HU.out]) (fun h => by rw [← HU.out]; exact HNE.out h) HP7.out)
            have hse9 := HSE.out
            rw [HN.out] at hse9
            have hcut9 := (hse9.cutR hkr2).below ((hbd.mono (show B0 ≤ wo.heap.size by omega)).trans hb7)
            have hdl : (rest.drop k).length = rest.length - k := List.length_drop
            have hsl9 : (stepS most (P.map (·.2)) room (rest.take k)).1.length ≤ P.length + 1 := hsl
            obtain ⟨st, hst⟩ : ∃ st, st = stepS most (P.map (·.2)) room (rest.take k) := ⟨_, rfl⟩
            rw [← hst] at HS7 HK9 hroom9 hlen9 hflat9 hsl9 hsf
            have HF9 := Lib.hid (And.intro hlen9 (And.intro hflat9 (And.intro hsl9 (And.intro hsf (And.intro hroom9 (And.intro hcut9 hdl))))))
            clear HTold hst hlen9 hflat9 hsl hsl9 hsf hroom9 hcut9 hdl hse9
            go_wp2_with fail
            obtain ⟨f1, f2, f3, f4, f5, f6, f7⟩ := HF9.out
            have hnn := HN.out
            refine ⟨⟨(if c = k then some ⟨b, o, none⟩ else (some (⟨b, o, none⟩ : Addr)).map (·.add (k * 4))), c - k, rest.drop k, vo7, P7, st.2, ?_, Lib.hid ?_, HS7, HK9, Lib.hid (fun e he => HZ.out e (List.mem_of_mem_drop he)), f5.1, f5.2, by omega, by omega, hb7'⟩, ?_⟩
            · rw [f7]
              by_cases hck : c = k
              · simp [hck]; omega
              · simp [hck, add_lit0]; try omega
            · rw [f7]; exact f6
            · simp only [spLen]; omega
        · obtain rfl : k = n := by omega
          have HNE : Hid (∀ h : k < rest.length, ¬ rest[k].user = u0) := Lib.hid (fun h => by have := HN.out; omega)
          have hltf : ¬ (k : Int) < (k : Int) := by omega
          go_upto_region 2 with fail
          refine wp_region_noPanic ?_
          refine wp_region_held_drew (S := fun W => True) (by kernel_rfl) trivial (fun hHeld => ?_)
          refine rtk 0 ?_ ?_ ?_
          rotate_left
          · (intro wq hSq; (try dsimp only at hSq); go_split_ands; go_simp; (try with_reducible rfl))
          try simp only [Act.put, q1, q2, q3]
          refine rtk 1 ?_ ?_ ?_
          rotate_left
          · (intro wq hSq; (try dsimp only at hSq); go_split_ands; go_simp; (try with_reducible rfl))
          try simp only [Act.put, q1, q2, q3]
          refine rtk 2 ?_ ?_ ?_
          rotate_left
          · (intro wq hSq; (try dsimp only at hSq); go_split_ands; go_simp; (try with_reducible rfl))
          try simp only [Act.put, q1, q2, q3]
          refine rtk 3 ?_ ?_ ?_
          rotate_left
          · (intro wq hSq; (try dsimp only at hSq); go_split_ands; go_simp; (try with_reducible rfl))
          try simp only [Act.put, q1, q2, q3]
          refine rtk 4 ?_ ?_ ?_
          rotate_left
          · (intro wq hSq; (try dsimp only at hSq); go_split_ands; go_simp; (try with_reducible rfl))
          try simp only [Act.put, q1, q2, q3]
          refine reg_skip 5 (by rfl) (by kernel_rfl) (by kernel_rfl) (by kernel_rfl) (fun _ _ _ h => h) (by rfl) (by assumption) ?_
          try simp only [Act.put, q1, q2, q3]
          refine reg_skip 6 (by rfl) (by kernel_rfl) (by kernel_rfl) (by kernel_rfl) (fun _ _ _ h => h) (by rfl) (by assumption) ?_
          try simp only [Act.put, q1, q2, q3]
          refine reg_skip 7 (by rfl) (by kernel_rfl) (by kernel_rfl) (by kernel_rfl) (fun _ _ _ h => h) (by rfl) (by assumption) ?_
          try simp only [Act.put, q1, q2, q3]
          refine reg_skip 8 (by rfl) (by kernel_rfl) (by kernel_rfl) (by kernel_rfl) (fun _ _ _ h => h) (by rfl) (by assumption) ?_
          try simp only [Act.put, q1, q2, q3]
          refine reg_skip 9 (by rfl) (by kernel_rfl) (by kernel_rfl) (by kernel_rfl) (fun _ _ _ h => h) (by rfl) (by assumption) ?_
          try simp only [Act.put, q1, q2, q3]
          refine reg_skip 10 (by rfl) (by kernel_rfl) (by kernel_rfl) (by kernel_rfl) (fun _ _ _ h => h) (by rfl) (by assumption) ?_
          try simp only [Act.put, q1, q2, q3]
          refine reg_skip 11 (by rfl) (by kernel_rfl) (by kernel_rfl) (by kernel_rfl) (fun _ _ _ h => h) (by rfl) (by assumption) ?_
          try simp only [Act.put, q1, q2, q3]
          refine reg_skip 12 (by rfl) (by kernel_rfl) (by kernel_rfl) (by kernel_rfl) (fun _ _ _ h => h) (by rfl) (by assumption) ?_
          try simp only [Act.put, q1, q2, q3]
          refine reg_skip 13 (by rfl) (by kernel_rfl) (by kernel_rfl) (by kernel_rfl) (fun _ _ _ h => h) (by rfl) (by assumption) ?_
          try simp only [Act.put, q1, q2, q3]
          refine reg_skip 14 (by rfl) (by kernel_rfl) (by kernel_rfl) (by kernel_rfl) (fun _ _ _ h => h) (by rfl) (by assumption) ?_
          try simp only [Act.put, q1, q2, q3]
          refine rtk 15 ?_ ?_ ?_
          rotate_left
          · (intro wq hSq; (try dsimp only at hSq); go_split_ands; go_simp; (try with_reducible rfl))
          try simp only [Act.put, q1, q2, q3]
          refine wpAnyH_done (by kernel_rfl) (noPanic_mk ?_) _
          clear hHeld
          generalize World.drew wr = wx at hbd ⊢
          have HTold : Hid (Calls Tryz.prog 64 #[.slice (some ⟨b, o, none⟩) k c, .pointer (some ⟨B0, 0, none⟩), .pointer (some ⟨B0 + 1, 0, none⟩), .pointer (some ⟨bm, 0, none⟩)] wx (ToldPost wx B0 bm most (stepS most (P.map (·.2)) room (rest.take k)))) := Lib.hid (by
            have hkr2 : k ≤ rest.length := by rw [← HN.out]; exact hkn
            have hse := HSE.out
            rw [HN.out] at hse
            have htk := (hse.takeR hkr2).below (hbd.mono (show B0 ≤ wo.heap.size by omega))
            have hlen : (rest.take k).length = k := by rw [List.length_take]; omega
            refine kTold_any (rest.take k) _ vo P room most B0 bm wx (HSP.out.on hbd) htk (by omega) (by omega) (fun e he => HZ.out e (List.mem_of_mem_take he)) ⟨hr1, hr2⟩ hmost (by omega) (fun p hp => ?_)
            have := flat_mem_le (P.map (·.2)) p.2 (List.mem_map.2 ⟨p, hp, rfl⟩)
            omega)
          go_upto_region 5 with fail
          refine HTold.out.mono ?_
          rintro _ w7 ⟨rfl, vo7, P7, hS7, hP7, hb7⟩
          have HS7 := Lib.hid hS7
          have HP7 := Lib.hid hP7
          have hb7' : Below B0 w w7 := (hbr.trans (hbd.mono (by omega))).trans hb7
          clear hS7 hP7
          have hkr2 : k ≤ rest.length := by rw [← HN.out]; exact hkn
          have hlen9 := congrArg List.length HP7.out
          have hflat9 := congrArg (fun L => L.flatten.length) HP7.out
          have hsl := stepS_len most room (P.map (·.2)) (rest.take k)
          have hsf := congrArg List.length (stepS_flat most room (P.map (·.2)) (rest.take k))
          simp only [List.length_map, List.length_append, List.length_take] at hlen9 hsl hsf hflat9
          have hroom9 := stepS_room (o := P.map (·.2)) (p := rest.take k) ⟨hr1, hr2⟩ hmost
          have HK9 : Hid (KeyI most l (rest.drop k) P7 (stepS most (P.map (·.2)) room (rest.take k)).2) := Lib.hid (HKI.out.step (by omega) hkr2 (fun j h hj => by rw [hall.out j h hj, HU.out]) (fun h => by rw [← HU.out]; exact HNE.out h) HP7.out)
          have hse9 := HSE.out
          rw [HN.out] at hse9
          have hcut9 := (hse9.cutR hkr2).below ((hbd.mono (show B0 ≤ wo.heap.size by omega)).trans hb7)
          have hdl : (rest.drop k).length = rest.length - k := List.length_drop
          have hsl9 : (stepS most (P.map (·.2)) room (rest.take k)).1.length ≤ P.length + 1 := hsl
          obtain ⟨st, hst⟩ : ∃ st, st = stepS most (P.map (·.2)) room (rest.take k) := ⟨_, rfl⟩
          rw [← hst] at HS7 HK9 hroom9 hlen9 hflat9 hsl9 hsf
          have HF9 := Lib.hid (And.intro hlen9 (And.intro hflat9 (And.intro hsl9 (And.intro hsf (And.intro hroom9 (And.intro hcut9 hdl))))))
          clear HTold hst hlen9 hflat9 hsl hsl9 hsf hroom9 hcut9 hdl hse9
          go_wp2_with fail
          obtain ⟨f1, f2, f3, f4, f5, f6, f7⟩ := HF9.out
          have hnn := HN.out
          refine ⟨⟨(if c = k then some ⟨b, o, none⟩ else (some (⟨b, o, none⟩ : Addr)).map (·.add (k * 4))), c - k, rest.drop k, vo7, P7, st.2, ?_, Lib.hid ?_, HS7, HK9, Lib.hid (fun e he => HZ.out e (List.mem_of_mem_drop he)), f5.1, f5.2, by omega, by omega, hb7'⟩, ?_⟩
          · rw [f7]
            by_cases hck : c = k
            · simp [hck]; omega
            · simp [hck, add_lit0]; try omega
          · rw [f7]; exact f6
          · simp only [spLen]; omega
    · have hn0 : n = 0 := by omega
      subst hn0
      have HE : Hid (P.map (·.2) = splitL most l) := Lib.hid (by
        obtain ⟨f, _, hf⟩ := HKI.out
        have h0 : rest = [] := List.length_eq_zero_iff.1 HN.out.symm
        rw [h0] at hf
        cases f with
        | zero => exact hf
        | succ f => exact hf)
      go_wp2_with fail
      go_end0
      exact ⟨rfl, _, _, _, HSP.out, HE.out, hbr⟩
set_option maxRecDepth 100000 in
set_option maxHeartbeats 2000000 in
theorem kSplit_any (l : List Ent) (v : Value) (most : Int) (w : World) (hv : SE w w.heap.size v l) (hrise : risesE l = true) (hl : l.length ≤ 1000) (hz : ∀ e ∈ l, e.user.size ≤ 1048576 ∧ e.value.size ≤ 1048576) (hmost : 0 ≤ most ∧ most ≤ 1000000) :
    Calls Tryz.prog 21 #[v, .int .i64 most] w fun e w' => ∃ r P, e = .returned r ∧ OL w' w.heap.size r P ∧ P.map (·.2) = splitL most l ∧ Below w.heap.size w w' := by
  have HR : Hid (∀ W, Below w.heap.size w W → Calls Tryz.prog 7 #[v] W fun en w' => en = .returned (.bool true) ∧ Below W.heap.size W w') := Lib.hid (fun W hW => by
    have := iRises_any v l W (hv.on hW) (by omega)
    rw [hrise] at this
    exact this)
  have HV := Lib.hid hv
  obtain ⟨A, c, rfl, _⟩ := hv
  go_enter Tryz.func21, Tryz.ntmps21
  go_upto_region 5 with (go_at_call 7; refine (HR.out _ (balloc (bself w) _)).mono ?_; rintro _ w1 ⟨rfl, hb1⟩)
  have eg : ∀ args w, (callFunc 64 args).run Tryz.prog w = .ok (.enter 64 args) w := enters_of Tryz.func64 (by kernel_rfl) rfl
  obtain ⟨B0, hB0⟩ : ∃ B0, B0 = w1.heap.size := ⟨_, rfl⟩
  have z1 := hb1.size
  simp only [World.size_alloc] at z1
  have bw1 : Below w.heap.size w w1 := (balloc (bself w) _).trans (hb1.mono (by simp))
  have rM1 := (hb1.block w.heap.size (by simp)).trans (heap_alloc_new w _)
  obtain ⟨rO, rR⟩ := And.intro (heap_alloc2_old w1 (.cells #[.slice none 0 0] 60) (.cells #[.int .i64 0] 3)) (heap_alloc2_new w1 (.cells #[.slice none 0 0] 60) (.cells #[.int .i64 0] 3))
  have b3 := balloc (balloc (bself w1) (.cells #[.slice none 0 0] 60)) (.cells #[.int .i64 0] 3)
  generalize World.alloc _ _ = w3 at rO rR b3 ⊢
  rw [← hB0] at rO rR ⊢
  have bw3 := bstep bw1 b3
  have hS : SpAt w3 B0 w.heap.size (.slice none 0 0) [] 0 most := ⟨by omega, (b3.block _ (by omega)).trans rM1, rO, rR, OL.nil_ _ _⟩
  have HK : Hid (Calls Tryz.prog 63 #[.slice A l.length c, .func (.func 64) #[] #[.pointer (some ⟨B0, 0, none⟩), .pointer (some ⟨B0 + 1, 0, none⟩), .pointer (some ⟨w.heap.size, 0, none⟩)]] w3 (KeysPost w3 B0 w.heap.size most l)) := Lib.hid (kKeys_any l _ _ most B0 w.heap.size w3 ((HV.out.below bw3).more (by omega)) hS hl hz hmost)
  clear hS rO rR rM1 b3 hb1 hz
  have hB1 : w.heap.size < B0 := by omega
  clear hB0 z1
  go_upto_region 6 with (go_at_call 63; refine HK.out.mono ?_; rintro _ w4 ⟨rfl, vo4, P4, r4, hS4, hP4, hb4⟩; have HS4 := Lib.hid hS4; have HP4 := Lib.hid hP4; have c4 := cell_of_row _ _ 0 _ _ _ hS4.rO; clear hS4 hP4)
  go_wp2_with fail
  go_ret
  exact ⟨_, P4, rfl, ⟨HS4.out.ol.o.rebase (by omega), fun p hp => (HS4.out.ol.i p hp).rebase (by omega), HS4.out.ol.a, HS4.out.ol.t⟩, HP4.out, bw3.trans (hb4.mono (by omega))⟩
end Go.Proofs.YtchjknbideoieaaGreatDoor
