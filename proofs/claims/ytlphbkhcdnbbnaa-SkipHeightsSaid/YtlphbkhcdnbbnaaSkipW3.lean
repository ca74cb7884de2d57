/-
  What is proved here: what Put of package skip comes to, at this seat's numbers.
-/
import Derived.Test.YtlphbkhcdnbbnaaSkipW2
import Derived.Deep.RegionLaw
import Derived.Deep.DeepCutAuto
import Derived.Deep.CutBlock
import Derived.OwnWalk
import Derived.RangeFuncBox
import Derived.BigRegion
namespace Go.Proofs.Ytlphbkhcdnbbnaa
open Go.RowKit

theorem flat_modify {α : Type} (f : α → List Value) (c : Nat) (hf : ∀ x, (f x).length = c) (g : α → α) (j : Nat) (u : Value) (hj : j < c) (hg : ∀ x, f (g x) = (f x).set j u) : ∀ (l : List α) (i : Nat), i < l.length → (l.modify i g).flatMap f = (l.flatMap f).set (i * c + j) u
  | [], i, h => by simp at h
  | x :: l, 0, _ => by
    rw [List.modify_zero_cons, List.flatMap_cons, List.flatMap_cons, hg, Nat.zero_mul, Nat.zero_add, List.set_append_left _ _ (by rw [hf]; exact hj)]
  | x :: l, i + 1, h => by
    rw [List.modify_succ_cons, List.flatMap_cons, List.flatMap_cons, List.set_append_right _ _ (by rw [hf, Nat.succ_mul]; omega), flat_modify f c hf g j u hj hg l i (by simpa using h), hf]
    congr 2
    rw [Nat.succ_mul]; omega
theorem ndC_turn (d : Nd) (k v : Nat) (hk : k < 12) : ndC ⟨d.e, fun j => if j = k then v else d.nx j⟩ = (ndC d).set (4 + k) (.int .i64 (v : Int)) := by
  rcases k with _ | _ | _ | _ | _ | _ | _ | _ | _ | _ | _ | _ | k
  all_goals first | (simp [ndC, entC, List.range, List.range.loop]; done) | omega
theorem turn_cells (ns : List Nd) (i k v : Nat) (hi : i < ns.length) (hk : k < 12) : (turnN ns i k v).flatMap ndC = (ns.flatMap ndC).set (i * 16 + (4 + k)) (.int .i64 (v : Int)) :=
  flat_modify ndC 16 ndC_length _ (4 + k) _ (by omega) (fun d => ndC_turn d k v hk) ns i hi
theorem ON.turn {w : World} {base g n cap : Nat} {ns : List Nd} (h : ON w base (.slice (some ⟨g, 0, none⟩) n cap) ns) (hn : n = ns.length) (i k v : Nat) (hi : i < ns.length) (hk : k < 12) :
    ON (w.setCell ⟨g, i * 16 + 4 + k, none⟩ (.int .i64 (v : Int))) base (.slice (some ⟨g, 0, none⟩) n cap) (turnN ns i k v) := by
  subst hn
  have h1 := (World.ownsRow.stored h (i * 16 + (4 + k)) (.int .i64 (v : Int))).1
  unfold ON
  rw [turnN_length, turn_cells ns i k v hi hk, Nat.add_assoc]
  exact h1
theorem ndC_one (l : List Nd) : ∀ u ∈ l.flatMap ndC, u.oneCell' = true := by
  intro u hu
  obtain ⟨d, _, h⟩ := List.mem_flatMap.1 hu
  unfold ndC at h
  rcases List.mem_append.1 h with h | h
  · exact entC_one [d.e] u (by simpa using h)
  · obtain ⟨k, _, rfl⟩ := List.mem_map.1 h
    rfl
section
variable {o : Oper} {a : Act} {K : Act → World → Prop} {Q : Exit → Act → World → Prop} {w : World}
/-- append(dst, src...) of nodes -/
theorem wp_appNs (s x : Operand)
    (ho : o.op = .call { callee := .builtin .append, args := #[s, x], argTypes := #[54, 54] })
    (base : Nat) (v : Value) (l : List Nd) (hs : a.eval s = v) (hown : ON w base v l)
    (B : Nat) (u : Value) (m : List Nd) (hx : a.eval x = u) (hr : Sl w B 16 u m.length (m.flatMap ndC)) (hlen : l.length + m.length ≤ maxLen) (hfits : Fits l.length m.length 144) (hbase : base ≤ w.heap.size)
    (h : ∀ v' w', ON w' base v' (l ++ m) → w.grownBy w' v.ownBlock → (v'.ownBlock = v.ownBlock ∨ v'.ownBlock = some w.heap.size) → Below base w w' → K (a.put o.dst v') w') : o.wp Try.prog a w K Q := by
  obtain ⟨i0, hi0, hz0, hz1, hz2⟩ := info_parts infoN
  refine wp_app w s x 54 ho base 60 i0 _ 16 144 Try.underlying54 hi0 hz0 hz1 hz2 rfl (by omega) v l.length _ hs hown B m.length u _ hx hr (ndC_one m) hlen hfits hbase ?_
  intro v' w' h1 h2 h3 h4
  refine h v' w' ?_ h2 h3 h4
  unfold ON
  rw [List.length_append, List.flatMap_append]
  exact h1
theorem st_appNs {ops : Array Oper} {E : Prop} (hgd : Region.wanted o (yielded ops a.tmps) = true) (s x : Operand)
    (ho : o.op = .call { callee := .builtin .append, args := #[s, x], argTypes := #[54, 54] })
    (base : Nat) (v : Value) (l : List Nd) (hs : a.eval s = v) (hown : ON w base v l)
    (B : Nat) (u : Value) (m : List Nd) (hx : a.eval x = u) (hr : Sl w B 16 u m.length (m.flatMap ndC)) (hlen : l.length + m.length ≤ maxLen) (hfits : Fits l.length m.length 144) (hbase : base ≤ w.heap.size)
    (h : ∀ v' w', ON w' base v' (l ++ m) → w.grownBy w' v.ownBlock → (v'.ownBlock = v.ownBlock ∨ v'.ownBlock = some w.heap.size) → Below base w w' → K (a.put o.dst v') w') : if Region.wanted o (yielded ops a.tmps) = true then o.wp Try.prog a w K Q else E :=
  st_of hgd (wp_appNs s x ho base v l hs hown B u m hx hr hlen hfits hbase h)
end
theorem ON.alloc {w : World} {base : Nat} {v : Value} {l : List Nd} (h : ON w base v l) (o : Obj) : ON (w.alloc o) base v l := World.ownsRow.alloc h o
theorem ON.drewN {w : World} {base : Nat} {v : Value} {l : List Nd} (h : ON w base v l) (k : Nat) : ON (w.drewN k) base v l := h
theorem ON.newAt {W : World} {g B : Nat} {T : TypeId} (e : Ent) (hg : g = W.heap.size) (hB : g < B) : Sl (W.alloc (.cells #[.string e.user, .int .u64 (e.seq.toNat : Int), .int .u8 (e.kind.toNat : Int), .string e.value, .int .i64 0, .int .i64 0, .int .i64 0, .int .i64 0, .int .i64 0, .int .i64 0, .int .i64 0, .int .i64 0, .int .i64 0, .int .i64 0, .int .i64 0, .int .i64 0] T)) B 16 (.slice (some ⟨g, 0, none⟩) 1 1) [(⟨e, fun _ => 0⟩ : Nd)].length ([(⟨e, fun _ => 0⟩ : Nd)].flatMap ndC) := by
  have h : Rd (W.alloc (.cells #[.string e.user, .int .u64 (e.seq.toNat : Int), .int .u8 (e.kind.toNat : Int), .string e.value, .int .i64 0, .int .i64 0, .int .i64 0, .int .i64 0, .int .i64 0, .int .i64 0, .int .i64 0, .int .i64 0, .int .i64 0, .int .i64 0, .int .i64 0, .int .i64 0] T)) B 16 (some ⟨g, 0, none⟩) 1 (#[.string e.user, .int .u64 (e.seq.toNat : Int), .int .u8 (e.kind.toNat : Int), .string e.value, .int .i64 0, .int .i64 0, .int .i64 0, .int .i64 0, .int .i64 0, .int .i64 0, .int .i64 0, .int .i64 0, .int .i64 0, .int .i64 0, .int .i64 0, .int .i64 0] : Array Value).toList := Rd.newBlock W _ _ hg hB rfl
  exact ⟨_, _, rfl, Nat.le_refl _, by simp [maxLen], h⟩
def sizeE (E : List Ent) : Nat := (E.map (fun x => x.user.size + x.value.size + 8)).sum
/-- block L is a list of the entries E -/
def SL (w : World) (base L : Nat) (E : List Ent) : Prop := ∃ ns cs, LiAt w base L ns (sizeE E) ∧ Good ns cs ∧ entsN ns cs = E ∧ ns.length = (cs 0).length + 1
/-- what Put tells, and what it leaves -/
def putE (E : List Ent) (e : Ent) : Nat × List Ent := if rightE e = false then (1, E) else if there e E = true then (3, E) else (0, insE e E)
theorem sizeE_ins (e : Ent) (E : List Ent) : sizeE (insE e E) = sizeE E + (e.user.size + e.value.size + 8) := by
  unfold insE sizeE
  conv => rhs; rw [← List.takeWhile_append_dropWhile (p := fun x => aheadE x e) (l := E)]
  simp only [List.map_append, List.map_cons, List.sum_append, List.sum_cons]
  omega
theorem insE_length (e : Ent) (E : List Ent) : (insE e E).length = E.length + 1 := by
  unfold insE
  conv => rhs; rw [← List.takeWhile_append_dropWhile (p := fun x => aheadE x e) (l := E)]
  simp only [List.length_append, List.length_cons]
  omega
theorem Tw.rowOf {w : World} {R : Nat} {T : TypeId} (f : Nat → Nat) (h : w.heap[R]? = some (.cells #[.int .i64 (f 0 : Int), .int .i64 (f 1 : Int), .int .i64 (f 2 : Int), .int .i64 (f 3 : Int), .int .i64 (f 4 : Int), .int .i64 (f 5 : Int), .int .i64 (f 6 : Int), .int .i64 (f 7 : Int), .int .i64 (f 8 : Int), .int .i64 (f 9 : Int), .int .i64 (f 10 : Int), .int .i64 (f 11 : Int)] T (0, 0))) : Tw w R f := by
  intro j hj
  refine ⟨?_, by simp [World.frozen?, h]⟩
  rw [cell_of_row _ _ j _ _ _ h]
  rcases j with _ | _ | _ | _ | _ | _ | _ | _ | _ | _ | _ | _ | j
  all_goals first | rfl | omega
theorem kset0 {w : World} {R : Nat} {a b u : Value} {T : TypeId} (h : w.heap[R]? = some (.cells #[a, b] T (0, 0))) : (w.setCell ⟨R, 0, none⟩ u).heap[R]? = some (.cells #[u, b] T (0, 0)) := by
  simp [World.setCell, Array.getElem?_modify, h]
theorem kset1 {w : World} {R : Nat} {a b u : Value} {T : TypeId} (h : w.heap[R]? = some (.cells #[a, b] T (0, 0))) : (w.setCell ⟨R, 1, none⟩ u).heap[R]? = some (.cells #[a, u] T (0, 0)) := by
  simp [World.setCell, Array.getElem?_modify, h]
abbrev entObj (e : Ent) : Obj := .cells #[.string e.user, .int .u64 (e.seq.toNat : Int), .int .u8 (e.kind.toNat : Int), .string e.value] 25 (0, 0)
/-- the block in which a list's nodes lie -/
def rowAt (w : World) (L : Nat) : Option Nat := (w.cell? ⟨L, 0, none⟩).bind Value.ownBlock
/-- what Put leaves alone -/
def Fr2 (w wr : World) (L g4 : Nat) : Prop := (rowAt w L = some g4 ∨ w.heap.size ≤ g4) ∧ ∀ k, k < w.heap.size → k ≠ L → rowAt w L ≠ some k → wr.heap[k]? = w.heap[k]?
def PutFr (w w' : World) (L : Nat) : Prop := (rowAt w' L = rowAt w L ∨ ∃ g, w.heap.size ≤ g ∧ rowAt w' L = some g) ∧ ∀ k, k < w.heap.size → k ≠ L → rowAt w L ≠ some k → w'.heap[k]? = w.heap[k]?
theorem rowAt_of {w : World} {L g n c : Nat} {u : Value} {T : TypeId} (h : w.heap[L]? = some (.cells #[.slice (some ⟨g, 0, none⟩) n c, u] T (0, 0))) : rowAt w L = some g := by
  unfold rowAt
  rw [cell_of_row w L 0 _ _ _ h]
  rfl
theorem PutFr.of_below {w w' : World} {L : Nat} (h : Below w.heap.size w w') (hL : L < w.heap.size) : PutFr w w' L :=
  ⟨.inl (by unfold rowAt; rw [h.cell (p := ⟨L, 0, none⟩) hL]), fun k hk _ _ => h.block k hk⟩
/-- the world in Put's loop -/
def PutInv (w : World) (base L sz T0 : Nat) (f : Nat → Nat) (e : Ent) (l : List Nd) (wr : World) : Prop :=
  ∃ g4 cap4, wr.heap[L]? = some (.cells #[.slice (some ⟨g4, 0, none⟩) l.length cap4, .int .i64 (sz : Int)] 56 (0, 0)) ∧ ON wr base (.slice (some ⟨g4, 0, none⟩) l.length cap4) l ∧ g4 ≠ L ∧ base ≤ g4 ∧ g4 < wr.heap.size ∧ g4 ≠ T0 ∧ g4 ≠ w.heap.size ∧ wr.heap[w.heap.size]? = some (entObj e) ∧ Tw wr T0 f ∧ Below base w wr ∧ Fr2 w wr L g4
theorem tw_block {w w' : World} {B : Nat} {f : Nat → Nat} (h : Tw w B f) (hb : w'.heap[B]? = w.heap[B]?) : Tw w' B f := fun j hj => ⟨(World.cell?_of_block (a := ⟨B, j, none⟩) hb).trans (h j hj).1, (World.frozen?_of_block (a := ⟨B, j, none⟩) hb).trans (h j hj).2⟩
theorem put_mid {w Wd w4 : World} {o : Obj} {base L g cap g4 cap4 sz N T0 : Nat} {f : Nat → Nat} {l : List Nd} {e : Ent} {M : Nat} (hbd : Below w.heap.size w Wd) (hbase : base ≤ w.heap.size) (hL : Wd.heap[L]? = some (.cells #[.slice (some ⟨g, 0, none⟩) N cap, .int .i64 (sz : Int)] 56 (0, 0)))
    (hLlt : L < w.heap.size) (hgL : g ≠ L) (hbg : base ≤ g) (hglt : g < w.heap.size) (hT1 : w.heap.size < T0) (hT2 : T0 < Wd.heap.size) (hent : Wd.heap[w.heap.size]? = some (entObj e)) (hT : Tw Wd T0 f) (hM : M = l.length)
    (hown : ON w4 base (.slice (some ⟨g4, 0, none⟩) M cap4) l) (hg4 : (Wd.drew.alloc o).grownBy w4 (some g)) (ho4 : (some g4 : Option Nat) = some g ∨ (some g4 : Option Nat) = some (Wd.drew.alloc o).heap.size) (hb4 : Below base (Wd.drew.alloc o) w4) (hlt4 : g4 < w4.heap.size) (hbL : base ≤ L) :
    PutInv w base L sz T0 f e l (w4.setCell ⟨L, 0, none⟩ (.slice (some ⟨g4, 0, none⟩) M cap4)) := by
  subst hM
  have hsz : (Wd.drew.alloc o).heap.size = Wd.heap.size + 1 := by simp
  have hold : ∀ k, k < Wd.heap.size → k ≠ g → w4.heap[k]? = Wd.heap[k]? := fun k hk hne => (hg4.block k (by omega) (fun e => hne (by injection e))).trans (Below.heap_alloc Wd.drew o k hk)
  have h4 : g4 = g ∨ g4 = Wd.heap.size + 1 := by
    rcases ho4 with h | h
    · injection h with h; exact .inl h
    · injection h with h; exact .inr (by rw [h, hsz])
  have hWs := hbd.size
  refine ⟨g4, cap4, kset0 ((hold L (by omega) (fun e => hgL e.symm)).trans hL), ?_, by omega, by omega, by rw [World.size_setCell]; exact hlt4, by omega, by omega, ?_, ?_, ?_, ?_⟩
  · exact World.ownsRow.kept hown (grownBy_setCell' w4 L _) (.inr (by show (some g4 : Option Nat) ≠ some L; intro e; injection e with e; omega))
  · exact (Below.heap_setCell _ _ _ _ (by show w.heap.size ≠ L; omega)).trans ((hold _ (by omega) (by omega)).trans hent)
  · exact tw_block hT ((Below.heap_setCell _ _ _ _ (by show T0 ≠ L; omega)).trans (hold _ (by omega) (by omega)))
  · exact ((((hbd.mono hbase).drew).alloc (by simp; omega) o).trans hb4).setCell (by exact hbL) _
  · have hrow : rowAt w L = some g := rowAt_of ((hbd.block L hLlt).symm.trans hL)
    refine ⟨?_, fun k hk hne hr => ?_⟩
    · rcases h4 with h | h
      · exact .inl (by rw [hrow, h])
      · exact .inr (by omega)
    · exact (Below.heap_setCell _ _ _ _ (by show k ≠ L; omega)).trans ((hold k (by omega) (fun e => hr (by rw [hrow, e]))).trans (hbd.block k hk))
theorem rightE_user {e : Ent} (h : rightE e = true) : e.user.size ≤ 1024 := by
  unfold rightE at h
  simp only [Bool.and_eq_true, decide_eq_true_eq] at h
  exact h.1.1.1
theorem rightE_value {e : Ent} (h : rightE e = true) : e.value.size ≤ 65536 := by
  unfold rightE at h
  simp only [Bool.and_eq_true, decide_eq_true_eq] at h
  exact h.1.2
theorem kgrown_set (w : World) (p : Addr) (u : Value) : w.grownBy (w.setCell p u) (some p.block) := ⟨rfl, rfl, rfl, by simp, fun k _ hne => Below.heap_setCell _ _ _ _ (fun e => hne (by rw [e]))⟩
theorem put_end {w wr : World} {base L T0 H : Nat} {f : Nat → Nat} {ns : List Nd} {cs : Nat → List Nat} {e : Ent} {E : List Ent} (h : PutInv w base L (sizeE E) T0 f e (putN ns cs e H) wr) (hg : Good ns cs) (hE : entsN ns cs = E) (hth : there e E = false) (hl : ns.length = (cs 0).length + 1) (hH : 1 ≤ H) (hbL : base ≤ L) (n : Int) (hn : n = (sizeE E : Int) + ((e.user.size : Int) + (e.value.size : Int) + 8)) :
    SL (wr.setCell ⟨L, 1, none⟩ (.int .i64 n)) base L (insE e E) ∧ PutFr w (wr.setCell ⟨L, 1, none⟩ (.int .i64 n)) L := by
  obtain ⟨g4, cap4, hL4, hON4, hgL4, hbg4, hglt4, hgT4, hgE4, hent4, hT4, hb4, hfr4⟩ := h
  refine ⟨?_, ?_, fun k hk hne hr => (Below.heap_setCell _ _ _ _ (by show k ≠ L; omega)).trans (hfr4.2 k hk hne hr)⟩
  rotate_left
  · rw [rowAt_of (kset1 hL4)]
    rcases hfr4.1 with h | h
    · exact .inl h.symm
    · exact .inr ⟨g4, h, rfl⟩
  subst hE
  have hp := hg.put e H hH hth
  have hn' : n = ((sizeE (insE e (entsN ns cs)) : Nat) : Int) := by rw [hn, sizeE_ins]; omega
  refine ⟨putN ns cs e H, insC ns cs e ns.length H, ⟨g4, _, cap4, ?_, rfl, World.ownsRow.kept hON4 (kgrown_set _ _ _) (.inr (by show (some g4 : Option Nat) ≠ some L; intro e; injection e with e; omega)), hgL4, hbL, hbg4, by rw [World.size_setCell]; exact hglt4⟩, hp.1, hp.2, ?_⟩
  · rw [hn']; exact kset1 hL4
  · rw [putN_length]
    unfold insC
    rw [if_pos (by omega), List.length_append, List.length_cons]
    have := congrArg List.length (List.takeWhile_append_dropWhile (p := ahd ns e) (l := cs 0))
    rw [List.length_append] at this
    omega
theorem put_turn {w wr : World} {base L sz T0 : Nat} {f : Nat → Nat} {e : Ent} {l : List Nd} {g4 cap4 : Nat} (hL4 : wr.heap[L]? = some (.cells #[.slice (some ⟨g4, 0, none⟩) l.length cap4, .int .i64 (sz : Int)] 56 (0, 0))) (hON4 : ON wr base (.slice (some ⟨g4, 0, none⟩) l.length cap4) l) (hgL4 : g4 ≠ L) (hbg4 : base ≤ g4) (hglt4 : g4 < wr.heap.size) (hgT4 : g4 ≠ T0) (hgE4 : g4 ≠ w.heap.size) (hent4 : wr.heap[w.heap.size]? = some (entObj e)) (hT4 : Tw wr T0 f) (hb4 : Below base w wr) (hfr4 : Fr2 w wr L g4) (i k v : Nat) (hi : i < l.length) (hk : k < 12) :
    (wr.setCell ⟨g4, i * 16 + 4 + k, none⟩ (.int .i64 (v : Int))).heap[L]? = some (.cells #[.slice (some ⟨g4, 0, none⟩) (turnN l i k v).length cap4, .int .i64 (sz : Int)] 56 (0, 0)) ∧ ON (wr.setCell ⟨g4, i * 16 + 4 + k, none⟩ (.int .i64 (v : Int))) base (.slice (some ⟨g4, 0, none⟩) (turnN l i k v).length cap4) (turnN l i k v) ∧ g4 < (wr.setCell ⟨g4, i * 16 + 4 + k, none⟩ (.int .i64 (v : Int))).heap.size ∧ (wr.setCell ⟨g4, i * 16 + 4 + k, none⟩ (.int .i64 (v : Int))).heap[w.heap.size]? = some (entObj e) ∧ Tw (wr.setCell ⟨g4, i * 16 + 4 + k, none⟩ (.int .i64 (v : Int))) T0 f ∧ Below base w (wr.setCell ⟨g4, i * 16 + 4 + k, none⟩ (.int .i64 (v : Int))) ∧ Fr2 w (wr.setCell ⟨g4, i * 16 + 4 + k, none⟩ (.int .i64 (v : Int))) L g4 := by
  refine ⟨?_, ?_, by rw [World.size_setCell]; exact hglt4, (Below.heap_setCell _ _ _ _ (fun e => hgE4 e.symm)).trans hent4, hT4.other hgT4 _, hb4.setCell hbg4 _, hfr4.1, fun j hj hne hr => (Below.heap_setCell _ _ _ _ (by show j ≠ g4; intro e2; rcases hfr4.1 with h | h; exact hr (by rw [h, e2]); omega)).trans (hfr4.2 j hj hne hr)⟩
  · rw [turnN_length]; exact (Below.heap_setCell _ _ _ _ (fun e => hgL4 e.symm)).trans hL4
  · have := hON4.turn rfl i k v hi hk
    rw [turnN_length]; exact this
/-- a world behind some draws -/
def DrewOf (W wx : World) : Prop := ∃ n, wx = W.drewN n
theorem drew_of (W : World) (a b : Nat) : DrewOf W ((W.drewN a).drewN b) := ⟨a + b, by simp only [World.drewN]; congr 1; omega⟩
theorem natEqB (a b : Nat) : ((a : Int) == (b : Int)) = decide (a = b) := by rw [Bool.eq_iff_iff, beq_iff_eq, decide_eq_true_eq]; omega
theorem there_none {e : Ent} {E : List Ent} (h : restE E e = []) : there e E = false := by
  unfold there; unfold restE at h; rw [h]; rfl
theorem there_some {e x : Ent} {E : List Ent} (h : (restE E e).head? = some x) : there e E = ((x.user.toList == e.user.toList) && decide (x.seq.toNat = e.seq.toNat)) := by
  unfold there; unfold restE at h; rw [h]
set_option maxRecDepth 100000 in
set_option maxHeartbeats 4000000 in
theorem kPut_any (base L : Nat) (E : List Ent) (e : Ent) (height : Int) (w : World) (h : SL w base L E) (hn : E.length ≤ 1000) (hsE : sizeE E ≤ 100000000) (hu : e.user.size ≤ 9223372036854775807) (hv : e.value.size ≤ 9223372036854775807) (hh1 : -9223372036854775808 ≤ height) (hh2 : height ≤ 9223372036854775807) :
    Calls Try.prog 11 #[.pointer (some ⟨L, 0, none⟩), entV e, .int .i64 height] w fun en w' => en = .returned (.int .i64 ((putE E e).1 : Int)) ∧ SL w' base L (putE E e).2 ∧ PutFr w w' L ∧ Below base w w' := by
  obtain ⟨ns, cs, hli, hg, hE, hl⟩ := h
  have hEl : (cs 0).length = E.length := by rw [← hE]; simp [entsN]
  go_enter Try.func11, Try.ntmps11
  go_wp2_with fail
  refine (iRight_any e _ hu hv).mono ?_
  rintro en w2 ⟨rfl, hb2⟩
  have hb2' := bstep (balloc (bself w) _) hb2
  have hr2 := (hb2.block _ (by simp)).trans (heap_alloc_new w (.cells #[.string e.user, .int .u64 (e.seq.toNat : Int), .int .u8 (e.kind.toNat : Int), .string e.value] 25))
  have hz2 := hb2.size
  simp only [World.size_alloc] at hz2
  have hbL : base ≤ w.heap.size := by obtain ⟨g, n, cap, hL, _, _, _, h1, _, _⟩ := id hli; have := (Array.getElem?_eq_some_iff.1 hL).1; omega
  cases hrt : rightE e with
  | false =>
    have HP : Hid (putE E e = (1, E)) := Lib.hid (by unfold putE; rw [hrt]; rfl)
    go_wp2_with fail
    go_ret
    exact ⟨by rw [HP.out]; rfl, by rw [HP.out]; exact ⟨ns, cs, hli.on hb2' (Nat.le_refl _), hg, hE, hl⟩, PutFr.of_below hb2' hli.lt, hb2'.mono hbL⟩
  | true =>
    obtain ⟨⟨a0, a1, a2, a3⟩, z0, z1, z2, z3⟩ := kcells4 hr2
    have hli2 := hli.on hb2' (Nat.le_refl _)
    go_wp2_with fail
    refine (kSeek_any base L ns cs (sizeE E) e w2 hli2 hg (by omega)).mono ?_
    rintro en w3 ⟨rfl, hb3⟩
    have hb3' := bstep hb2' hb3
    have hr3 := (hb3.block _ (by omega)).trans hr2
    clear a0 a1 a2 a3 z0 z1 z2 z3 hr2
    obtain ⟨⟨a0, a1, a2, a3⟩, z0, z1, z2, z3⟩ := kcells4 hr3
    have hli3 := hli2.on hb3 (Nat.le_refl _)
    go_wp2_with fail
    obtain ⟨W, hW⟩ : ∃ W, W = w3.alloc (.cells #[.int .i64 (posn ns cs e 0 : Int), .int .i64 (posn ns cs e 1 : Int), .int .i64 (posn ns cs e 2 : Int), .int .i64 (posn ns cs e 3 : Int), .int .i64 (posn ns cs e 4 : Int), .int .i64 (posn ns cs e 5 : Int), .int .i64 (posn ns cs e 6 : Int), .int .i64 (posn ns cs e 7 : Int), .int .i64 (posn ns cs e 8 : Int), .int .i64 (posn ns cs e 9 : Int), .int .i64 (posn ns cs e 10 : Int), .int .i64 (posn ns cs e 11 : Int)] 57) := ⟨_, rfl⟩
    have hbW : Below w3.heap.size w3 W := by rw [hW]; exact balloc (bself w3) _
    have hbW' := bstep hb3' hbW
    have hTW : Tw W w3.heap.size (posn ns cs e) := by rw [hW]; exact Tw.rowOf _ (heap_alloc_new w3 _)
    have hWs : W.heap.size = w3.heap.size + 1 := by rw [hW]; simp
    have hz3 := hb3'.size
    have hT1 : w.heap.size < w3.heap.size := by have := hb3.size; omega
    have hliW := hli3.on hbW (Nat.le_refl _)
    have hrW := (hbW.block w.heap.size (by have := hb3.size; omega)).trans hr3
    clear a0 a1 a2 a3 z0 z1 z2 z3 hr3 hli3 hli2
    obtain ⟨⟨a0, a1, a2, a3⟩, z0, z1, z2, z3⟩ := kcells4 hrW
    rw [← hW]
    clear hW
    obtain ⟨g, n, cap, hLw, hnn, hONw, hgL, hbLL, hbg, hgltw⟩ := id hli
    have hL := (hbW'.block L hli.lt).trans hLw
    have hON : ON W base (.slice (some ⟨g, 0, none⟩) n cap) ns := own_below hONw hbW' (Nat.le_refl _)
    have hglt : g < W.heap.size := by omega
    clear hLw hONw
    obtain rfl : n = E.length + 1 := by omega
    have HNN := Lib.hid hnn
    clear hnn
    have hLlt : L < w.heap.size := hli.lt
    have hL0 : W.cell? ⟨L, 0, none⟩ = some (.slice (some ⟨g, 0, none⟩) (E.length + 1) cap) := cell_of_row W L 0 _ _ _ hL
    have d1 := hON.nx HNN.out (i := posn ns cs e 0) (k := 0) (posn_lt hg e 0 (by omega)) (by omega)
    rw [first_nxt hg e, Nat.add_zero] at d1
    have hpl : posn ns cs e 0 < ns.length := posn_lt hg e 0 (by omega)
    obtain ⟨t0, t1⟩ := hTW 0 (by omega)
    have hfr := first_rest hg e
    generalize firstN ns cs e = m at hfr d1
    rw [hE] at hfr
    have hLf : W.frozen? ⟨L, 0, none⟩ = false := by simp [World.frozen?, hL]
    have HTW := Lib.hid hTW
    go_quiet (fail)
    go_upto_region 7 with fail
    go_cut [63] (fun c wx => c = .bool (there e E) ∧ DrewOf W wx)
    case first =>
      rcases hfr with ⟨rfl, hre⟩ | ⟨hm0, hmn, hre⟩
      · have hth := there_none hre
        go_quiet (fail)
        go_wp2
        go_meet
        exact ⟨by rw [hth], drew_of _ _ _⟩
      · have hth := Lib.hid (there_some hre)
        obtain ⟨c0, c1, c2, c3⟩ := hON.ent HNN.out hmn
        cases hu1 : ((entOf ns m).user.toList == e.user.toList) with
        | false =>
          go_quiet (fail)
          go_wp2
          go_meet
          exact ⟨by rw [hth.out, hu1]; rfl, drew_of _ _ _⟩
        | true =>
          go_quiet (fail)
          all_goals go_wp2
          all_goals go_meet
          all_goals exact ⟨by rw [hth.out, hu1, natEqB]; rfl, drew_of _ _ _⟩
    case rest =>
      obtain ⟨rfl, hdr⟩ := hcut
      obtain ⟨nq, rfl⟩ := hdr
      cases hth : there e E with
      | true =>
        have HP : Hid (putE E e = (3, E)) := Lib.hid (by unfold putE; rw [hrt, hth]; rfl)
        go_wp2_with fail
        go_ret
        exact ⟨by rw [HP.out]; rfl, by rw [HP.out]; exact ⟨ns, cs, hliW, hg, hE, hl⟩, PutFr.of_below (bdrewN hbW' _) hLlt, (bdrewN hbW' _).mono hbL⟩
      | false =>
        have HP : Hid (putE E e = (0, insE e E)) := Lib.hid (by unfold putE; rw [hrt, hth]; rfl)
        have HTH := Lib.hid hth
        clear hth
        go_wp2_with fail
        generalize hWd : World.drewN W _ = Wd
        have hONd : ON Wd base (.slice (some ⟨g, 0, none⟩) (E.length + 1) cap) ns := by rw [← hWd]; exact hON
        have hLd : Wd.heap[L]? = some (.cells #[.slice (some ⟨g, 0, none⟩) (E.length + 1) cap, .int .i64 (sizeE E : Int)] 56 (0, 0)) := by rw [← hWd]; exact hL
        have hL0d : Wd.cell? ⟨L, 0, none⟩ = some (.slice (some ⟨g, 0, none⟩) (E.length + 1) cap) := by rw [← hWd]; exact hL0
        have a0d : Wd.cell? ⟨w.heap.size, 0, none⟩ = some (.string e.user) := by rw [← hWd]; exact a0
        have a1d : Wd.cell? ⟨w.heap.size, 1, none⟩ = some (.int .u64 (e.seq.toNat : Int)) := by rw [← hWd]; exact a1
        have a2d : Wd.cell? ⟨w.heap.size, 2, none⟩ = some (.int .u8 (e.kind.toNat : Int)) := by rw [← hWd]; exact a2
        have a3d : Wd.cell? ⟨w.heap.size, 3, none⟩ = some (.string e.value) := by rw [← hWd]; exact a3
        have hWds : Wd.heap.size = w3.heap.size + 1 := by rw [← hWd]; exact hWs
        have hbd : Below w.heap.size w Wd := by rw [← hWd]; exact bdrewN hbW' _
        have hTd : Hid (Tw Wd w3.heap.size (posn ns cs e)) := Lib.hid (by rw [← hWd]; exact HTW.out)
        have hrWd0 : Wd.heap[w.heap.size]? = some (entObj e) := by rw [← hWd]; exact hrW
        clear hWd
        have hnl : ns.length = E.length + 1 := by omega
        have hLW : L < Wd.heap.size := by omega
        have hLW3 : L < w3.heap.size + 1 := by omega
        have hLW4 : ¬ L = w3.heap.size + 1 := by omega
        have q0 : ∀ o : Obj, (Wd.drew.alloc o).cell? ⟨L, 0, none⟩ = some (.slice (some ⟨g, 0, none⟩) (E.length + 1) cap) := fun o => (World.cell?_alloc_lt _ o _ (by simp; omega)).trans hL0d
        have hrWd : Wd.heap[w.heap.size]? = some (entObj e) := hrWd0
        go_cut [] (fun wx => PutInv w base L (sizeE E) w3.heap.size (posn ns cs e) e (ns ++ [⟨e, fun _ => 0⟩]) wx)
        case first =>
          go_region_law (first | (go_loud (refine st_appNs rfl (.tmp 73) (.tmp 76) rfl base _ ns rfl (ON.alloc (w := Wd.drew) hONd _) (Wd.heap.size + 1) _ [⟨e, fun _ => 0⟩] rfl (ON.newAt e hWds.symm (by omega)) (by simp [maxLen]; omega) (Fits.one _ _ (by omega)) (by simp; omega) ?_); intro v2 w4 hown4 hg4 ho4 hb4; obtain ⟨g4, cap4, hv4, _, _⟩ := World.ownsRow.form hown4 (by simp); rw [List.length_append, hnl] at hv4; subst hv4; have hL4 := (hg4.block L (by simp; omega) (fun e => hgL (by injection e with e; exact e.symm))).trans ((Below.heap_alloc Wd.drew _ L (by simp; omega)).trans hLd); have l40 := cell_of_row w4 L 0 _ _ _ hL4; have l4f : w4.frozen? ⟨L, 0, none⟩ = false := by simp [World.frozen?, hL4]))
          all_goals go_wp2
          all_goals go_meet
          all_goals exact put_mid hbd hbL hLd hLlt hgL hbg hgltw hT1 (by omega) hrWd hTd.out (by simp; omega) hown4 hg4 ho4 hb4 (by assumption) hbLL
        case rest =>
          have HI := hcut
          clear hcut
          clear hbd a0d a1d a2d a3d hL0d hLd hONd q0 hrWd hrWd0 hTd hWds hLW hLW3 hLW4 hLf a0 a1 a2 a3 z0 z1 z2 z3 t0 t1 d1 hL0 hL hglt
          obtain ⟨H, hH1, hH2, hH3⟩ : ∃ H : Nat, 1 ≤ H ∧ H ≤ 12 ∧ ((height < 1 ∧ H = 1) ∨ (12 < height ∧ H = 12) ∨ height = H) := by
            by_cases h1 : height < 1
            · exact ⟨1, by omega, by omega, .inl ⟨h1, rfl⟩⟩
            · by_cases h2 : 12 < height
              · exact ⟨12, by omega, by omega, .inr (.inl ⟨h2, rfl⟩)⟩
              · exact ⟨height.toNat, by omega, by omega, .inr (.inr (by omega))⟩
          go_upto_region 11 with fail
          go_cut [82, 83] (fun a b wx => a = .int .i64 (H : Int) ∧ b = .int .i64 0 ∧ wx = wc)
          case first =>
            rcases hH3 with ⟨h1, rfl⟩ | ⟨h1, rfl⟩ | rfl
            all_goals go_wp2
            all_goals go_meet
            all_goals exact ⟨by first | rfl | (congr 1; omega), rfl, rfl⟩
          case rest =>
            obtain ⟨rfl, rfl, rfl⟩ := hcut
            go_wp2_with fail
            go_loopw [83] (fun kv wr => ∃ k : Nat, kv = .int .i64 k ∧ k ≤ H ∧ PutInv w base L (sizeE E) w3.heap.size (posn ns cs e) e (linkN (ns ++ [⟨e, fun _ => 0⟩]) (posq ns cs e) ns.length k) wr) (fun kv _ => H - (intOf kv).toNat)
            case atStart => exact ⟨0, rfl, by omega, HI⟩
            case round =>
              obtain ⟨k, rfl, hk, hinv⟩ := hrel
              have HINV := Lib.hid hinv
              obtain ⟨g4, cap4, hL4, hON4, hgL4, hbg4, hglt4, hgT4, hgE4, hent4, hT4, hb4, hfr4⟩ := hinv
              have l40 := cell_of_row wr L 0 _ _ _ hL4
              have l41 := cell_of_row wr L 1 _ _ _ hL4
              have l4f : wr.frozen? ⟨L, 1, none⟩ = false := by simp [World.frozen?, hL4]
              obtain ⟨⟨a0, a1, a2, a3⟩, z0, z1, z2, z3⟩ := kcells4 hent4
              by_cases hkH : k < H
              · have hkk : k < 12 := by omega
                have hpk := posn_lt hg e k hkk
                have hps : posq ns cs e k = posn ns cs e k := if_pos hkk
                obtain ⟨ll, hll⟩ : ∃ l, l = linkN (ns ++ [⟨e, fun _ => 0⟩]) (posq ns cs e) ns.length k := ⟨_, rfl⟩
                have hnext : linkN (ns ++ [⟨e, fun _ => 0⟩]) (posq ns cs e) ns.length (k + 1) = turnN (turnN ll ns.length k (nxt ll (posn ns cs e k) k)) (posn ns cs e k) k ns.length := by rw [hll, linkN, hps]
                have hlen : ll.length = E.length + 1 + 1 := by rw [hll, linkN_length, List.length_append, List.length_singleton]; omega
                have hnsE : ns.length = E.length + 1 := by omega
                rw [← hll] at hL4 hON4
                clear HINV
                obtain ⟨t0, t1⟩ := hT4 k hkk
                generalize hPQ : posn ns cs e k = P at hpk hnext hps t0
                have l42 : wr.cell? ⟨L, 0, none⟩ = some (.slice (some ⟨g4, 0, none⟩) (E.length + 2) cap4) := by rw [l40, ← hll, hlen]; rfl
                clear l40 hll
                have hPl : P < ll.length := by omega
                have hPl2 : P < E.length + 2 := by omega
                have hfl : E.length + 1 < ll.length := by omega
                have x1 := hON4.nx rfl (i := P) (k := k) hPl hkk
                have x2 := hON4.nx rfl (i := E.length + 1) (k := k) hfl hkk
                have f1 : wr.frozen? ⟨g4, P * 16 + 4 + k, none⟩ = false := World.ownsRow.frozenAt hON4 _
                have f2 : wr.frozen? ⟨g4, (E.length + 1) * 16 + 4 + k, none⟩ = false := World.ownsRow.frozenAt hON4 _
                have hpt := put_turn hL4 hON4 hgL4 hbg4 hglt4 hgT4 hgE4 hent4 hT4 hb4 hfr4 (E.length + 1) k (nxt ll P k) hfl hkk
                obtain ⟨hL5, hON5, hglt5, hent5, hT5, hb5, hfr5⟩ := hpt
                have hPl5 : P < (turnN ll (E.length + 1) k (nxt ll P k)).length := by rw [turnN_length]; omega
                have hpt := put_turn hL5 hON5 hgL4 hbg4 hglt5 hgT4 hgE4 hent5 hT5 hb5 hfr5 P k (E.length + 1) hPl5 hkk
                rw [hnsE] at hnext
                clear hrt
                go_wp2_with fail
                go_region
                have l52 : (wr.setCell ⟨g4, (E.length + 1) * 16 + 4 + k, none⟩ (.int .i64 (nxt ll P k : Int))).drew.cell? ⟨L, 0, none⟩ = some (.slice (some ⟨g4, 0, none⟩) (E.length + 2) cap4) := by
                  have := cell_of_row _ L 0 _ _ _ hL5
                  rw [turnN_length, hlen] at this
                  exact this
                obtain ⟨t50, t51⟩ : (wr.setCell ⟨g4, (E.length + 1) * 16 + 4 + k, none⟩ (.int .i64 (nxt ll P k : Int))).drew.cell? ⟨w3.heap.size, k, none⟩ = some (.int .i64 (P : Int)) ∧ (wr.setCell ⟨g4, (E.length + 1) * 16 + 4 + k, none⟩ (.int .i64 (nxt ll P k : Int))).drew.frozen? ⟨w3.heap.size, k, none⟩ = false := by
                  have := hT5 k hkk
                  rw [hPQ] at this
                  exact this
                have f5 : (wr.setCell ⟨g4, (E.length + 1) * 16 + 4 + k, none⟩ (.int .i64 (nxt ll P k : Int))).drew.frozen? ⟨g4, P * 16 + 4 + k, none⟩ = false := World.ownsRow.frozenAt hON5 _
                have x5 : (wr.setCell ⟨g4, (E.length + 1) * 16 + 4 + k, none⟩ (.int .i64 (nxt ll P k : Int))).drew.cell? ⟨g4, P * 16 + 4 + k, none⟩ = some (.int .i64 (nxt (turnN ll (E.length + 1) k (nxt ll P k)) P k : Int)) := hON5.nx rfl hPl5 hkk
                obtain ⟨hL6, hON6, hglt6, hent6, hT6, hb6, hfr6⟩ := hpt
                generalize hw5 : (wr.setCell ⟨g4, (E.length + 1) * 16 + 4 + k, none⟩ (.int .i64 (nxt ll P k : Int))).drew = w5 at l52 t50 t51 f5 x5
                go_wp2
                go_region
                subst hw5
                go_wp2
                go_roundw
                case rel =>
                  refine ⟨k + 1, by push_cast; rfl, by omega, ?_⟩
                  rw [← hnsE] at hnext
                  rw [hnext, hnsE]
                  exact ⟨g4, cap4, hL6, hON6, hgL4, hbg4, hglt6, hgT4, hgE4, hent6, hT6, hb6.drew.drew, hfr6⟩
                case measure => simp only [intOf]; omega
              · have hkH' : k = H := by omega
                subst hkH'
                have hus : e.user.size ≤ 1024 := rightE_user hrt
                have hvs : e.value.size ≤ 65536 := rightE_value hrt
                go_wp2_with fail
                go_region
                all_goals go_wp2_with fail
                all_goals go_ret
                all_goals exact ⟨by rw [HP.out]; rfl, by rw [HP.out]; exact (put_end HINV.out hg hE HTH.out hl hH1 hbLL _ (by omega)).1, (put_end HINV.out hg hE HTH.out hl hH1 hbLL _ (by omega)).2, (hb4.setCell hbLL _).drew⟩
end Go.Proofs.Ytlphbkhcdnbbnaa
