/-
  What is proved here: digests as values, lists of digests in memory (read, owned, appended to, one loaded or stored), at this seat's numbers. No condition.
-/
import Derived.Test.YtjmlohfldkbbaaaDoorShaShown
import Derived.Test.YtjmlohfldkbbaaaDoorShaSumsW
import Derived.Test.YtjmlohfldkbbaaaDoorRowB
import Derived.Great.BuildSlice
import Derived.Deep.MidRow
namespace Go.Proofs.YtjmlohfldkbbaaaDoor
open Go.RowKit Go.Great

/-- a digest -/
abbrev Dg := {l : List UInt8 // l.length = 32}
def dcs (l : List Dg) : List Value := l.flatMap (fun d => bv d.1)
theorem dbv_len (d : Dg) : (bv d.1).length = 32 := by rw [bv_length, d.2]
theorem dcs_length (l : List Dg) : (dcs l).length = l.length * 32 := flat_length _ 32 dbv_len l
theorem dcs_append (l m : List Dg) : dcs (l ++ m) = dcs l ++ dcs m := by simp [dcs]
theorem dcs_nil : dcs [] = [] := rfl
theorem dcs_one (d : Dg) : dcs [d] = bv d.1 := by simp [dcs]
theorem dcs_take (l : List Dg) : ∀ k, dcs (l.take k) = (dcs l).take (k * 32) := by
  induction l with
  | nil => intro k; simp [dcs]
  | cons d l ih =>
    intro k
    cases k with
    | zero => simp [dcs]
    | succ k =>
      have e : dcs (d :: l) = bv d.1 ++ dcs l := by simp [dcs]
      have e2 : dcs (d :: l.take k) = bv d.1 ++ dcs (l.take k) := by simp [dcs]
      have e3 : (k + 1) * 32 = (bv d.1).length + k * 32 := by rw [dbv_len]; omega
      rw [List.take_succ_cons, e, e2, ih k, e3, List.take_length_add_append]
theorem dcs_drop (l : List Dg) : ∀ k, dcs (l.drop k) = (dcs l).drop (k * 32) := by
  induction l with
  | nil => intro k; simp [dcs]
  | cons d l ih =>
    intro k
    cases k with
    | zero => simp [dcs]
    | succ k =>
      have e : dcs (d :: l) = bv d.1 ++ dcs l := by simp [dcs]
      have e3 : (k + 1) * 32 = (bv d.1).length + k * 32 := by rw [dbv_len]; omega
      rw [List.drop_succ_cons, e, ih k, e3, List.drop_length_add_append]
theorem dcs_one' (l : List Dg) : ∀ u ∈ dcs l, u.oneCell' = true := by
  intro u hu
  obtain ⟨d, _, hd⟩ := List.mem_flatMap.1 hu
  exact bv_one d.1 u hd
theorem dgA_n (d : Dg) : (dgA d.1).size = 32 := by rw [dgA_size, d.2]
theorem infoD : (Tryd.prog.info? 31).map (fun i => (i.zero, i.size, i.bytes)) = some (some (.agg (dgA (List.replicate 32 0))), 32, 32) := by kernel_rfl

/-- THE SLICE VALUE v READS AS THE DIGESTS l, below B -/
def SD (w : World) (B : Nat) (v : Value) (l : List Dg) : Prop := Sl w B 32 v l.length (dcs l)
section
variable {w w' : World} {B B' : Nat} {v : Value} {l : List Dg}
theorem SD.nil_ (w : World) (B : Nat) : SD w B (.slice none 0 0) [] := Sl.nil_ w B 32
theorem SD.more (h : SD w B v l) (hB : B ≤ B') : SD w B' v l := Sl.more h hB
theorem SD.below (h : SD w B v l) (hb : Below B w w') : SD w' B v l := Sl.below h hb
theorem SD.alloc (h : SD w B v l) (hB : B ≤ w.heap.size) (o : Obj) : SD (w.alloc o) B v l := Sl.alloc h hB o
theorem SD.drew (h : SD w B v l) : SD w.drew B v l := h
theorem SD.drewN (h : SD w B v l) (k : Nat) : SD (w.drewN k) B v l := h
theorem SD.grown (h : SD w B v l) {row : Option Nat} (hg : w.grownBy w' row) (hB : B ≤ w.heap.size) (hr : ∀ g, row = some g → B ≤ g) : SD w' B v l := Sl.grown h hg hB hr
theorem SD.on (h : SD w w.heap.size v l) (hb : Below w.heap.size w w') : SD w' w'.heap.size v l := (h.below hb).more hb.size
theorem SD.form (h : SD w B v l) : ∃ A c, v = .slice A l.length c ∧ l.length ≤ c ∧ c ≤ 9223372036854775807 := by
  obtain ⟨A, c, e, h1, h2, _⟩ := h
  exact ⟨A, c, e, h1, by unfold maxLen at h2; omega⟩
/-- the address of a list with an element, and its elements -/
theorem SD.at_ (h : SD w B v l) (h0 : 0 < l.length) : ∃ b o c, v = .slice (some ⟨b, o, none⟩) l.length c ∧ b < B ∧ ∀ k (hk : k < l.length), w.rangeAt b (o + k * 32) (bv (l[k]'hk).1) := by
  obtain ⟨A, c, e, h1, h2, hr⟩ := h
  obtain ⟨b, o, rfl, hb, _⟩ := hr.at_ h0
  refine ⟨b, o, c, e, hb, fun k hk j u hu => ?_⟩
  obtain ⟨b', o', e', _, hcell⟩ := Rd.elem (f := fun d : Dg => bv d.1) hr dbv_len rfl hk
  injection e' with e'
  injection e' with e1 e2
  subst e1; subst e2
  have hj := (List.getElem?_eq_some_iff.1 hu).1
  rw [dbv_len] at hj
  have := hcell j u hj hu
  rw [← Nat.add_assoc] at this
  exact this
theorem SD.cut (h : SD w B v l) {k : Nat} (hk : k ≤ l.length) {A : Option Addr} {n c : Nat} (hv : v = .slice A n c) : SD w B (.slice (if c = k then A else A.map (·.add (k * 32))) (n - k) (c - k)) (l.drop k) := by
  obtain ⟨A', c', e, h1, h2, hr⟩ := id h
  rw [hv] at e
  injection e with e1 e2 e3
  subst e1; subst e2; subst e3
  have := Sl.cut h hk hv
  unfold SD
  rw [List.length_drop, dcs_drop]
  exact this
theorem SD.take (h : SD w B v l) {k : Nat} (hk : k ≤ l.length) {A : Option Addr} {n c : Nat} (hv : v = .slice A n c) : SD w B (.slice A k c) (l.take k) := by
  obtain ⟨A', c', e, h1, h2, hr⟩ := id h
  rw [hv] at e
  injection e with e1 e2 e3
  subst e1; subst e2; subst e3
  have := Sl.take h hk hv
  unfold SD
  rw [List.length_take, Nat.min_eq_left hk, dcs_take]
  exact this
end
/-- THE SLICE VALUE v OWNS THE DIGESTS l, in a block from base on -/
def OD (w : World) (base : Nat) (v : Value) (l : List Dg) : Prop := w.ownsRow base 31 32 v l.length (dcs l)
section
variable {w w' : World} {B base base' : Nat} {v : Value} {l : List Dg}
theorem OD.nil_ (w : World) (base : Nat) : OD w base (.slice none 0 0) [] := World.ownsRow_nil w base 31 32
theorem OD.below (h : OD w base v l) (hb : Below B w w') (hB : w.heap.size ≤ B) : OD w' base v l := own_below h hb hB
theorem OD.drewN (h : OD w base v l) (k : Nat) : OD (w.drewN k) base v l := h
theorem OD.alloc (h : OD w base v l) (o : Obj) : OD (w.alloc o) base v l := World.ownsRow.alloc h o
theorem OD.rebase (h : OD w base v l) (hB : base' ≤ base) : OD w base' v l := own_base h hB
theorem OD.sd (h : OD w base v l) : SD w w.heap.size v l := Sl.of_own h
theorem OD.lt (h : OD w base v l) : ∀ k, v.ownBlock = some k → base ≤ k ∧ k < w.heap.size := World.ownsRow.lt h
theorem OD.grown (h : OD w base v l) {row : Option Nat} (hg : w.grownBy w' row) (hne : v.ownBlock = none ∨ v.ownBlock ≠ row) : OD w' base v l := World.ownsRow.kept h hg hne
theorem OD.form0 (h : OD w base v l) (hl : 0 < l.length) : ∃ g c, v = .slice (some ⟨g, 0, none⟩) l.length c := by
  obtain ⟨h1, h2⟩ := h
  rcases h2 with ⟨_, e⟩ | ⟨g', cap, cur, e1, _⟩
  · omega
  · exact ⟨g', cap, e1⟩
/-- the last is let go -/
theorem OD.pop {A : Option Addr} {n c m : Nat} (h : OD w base (.slice A n c) l) (hl : 0 < l.length) (hm : m = l.length - 1) : OD w base (.slice A m c) l.dropLast := by
  subst hm
  obtain ⟨h1, h2⟩ := h
  have hd : l.dropLast.length = l.length - 1 := List.length_dropLast
  unfold OD
  rw [hd]
  refine ⟨by rw [dcs_length, hd], ?_⟩
  rcases h2 with ⟨_, e⟩ | ⟨g', cap, cur, e1, e2, e3, e4, e5, e6, e7⟩
  · omega
  · injection e1 with e1 _ e8
    subst e1; subst e8
    refine .inr ⟨g', c, cur, rfl, e2, e3, by omega, e5, e6, ?_⟩
    rw [List.dropLast_eq_take, dcs_take, ← e7, List.take_take, Nat.min_eq_left (Nat.mul_le_mul_right _ (by omega))]
end
section
variable {ops : Array Oper} {rest : List Oper} {o : Oper} {a : Act} {K : Act → World → Prop} {Q : Exit → Act → World → Prop} {w : World} {E : Prop}
theorem wp_appD (s x : Operand)
    (ho : o.op = .call { callee := .builtin .append, args := #[s, x], argTypes := #[22, 22] })
    (base : Nat) (v : Value) (l : List Dg) (hs : a.eval s = v) (hown : OD w base v l)
    (B : Nat) (u : Value) (m : List Dg) (hx : a.eval x = u) (hr : SD w B u m) (hlen : (l.length + m.length) * 32 ≤ 140737488355328) (hbase : base ≤ w.heap.size)
    (h : ∀ v' w', OD w' base v' (l ++ m) → w.grownBy w' v.ownBlock → (v'.ownBlock = v.ownBlock ∨ v'.ownBlock = some w.heap.size) → Below base w w' → K (a.put o.dst v') w') : o.wp Tryd.prog a w K Q := by
  obtain ⟨i0, hi0, hz0, hz1, hz2⟩ := info_parts infoD
  refine wp_app w s x 22 ho base 31 i0 _ 32 32 Tryd.underlying22 hi0 hz0 hz1 hz2 (by rfl) (by omega) v l.length (dcs l) hs hown B m.length u (dcs m) hx hr (dcs_one' m) (by simp only [maxLen]; omega) (Fits.of _ _ _ hlen) hbase ?_
  intro v' w' h1 h2 h3 h4
  refine h v' w' ?_ h2 h3 h4
  unfold OD
  rw [List.length_append, dcs_append]
  exact h1
theorem SD.new1 (w : World) (d : Dg) {g B : Nat} (hg : g = w.heap.size) (hB : g < B) : SD (w.alloc (.cells (dgA d.1) 31)) B (.slice (some ⟨g, 0, none⟩) 1 1) [d] := by
  refine ⟨_, _, rfl, by simp, by simp [maxLen], ?_⟩
  have h := Rd.newBlock (size := 32) w (dgA d.1) 31 hg hB (n := 1) (by rw [dgA_n])
  rw [dcs_one]
  simpa using h
theorem wl_appD1 (hgd : Region.wanted o (yielded ops a.tmps) = true) (s x : Operand)
    (ho : o.op = .call { callee := .builtin .append, args := #[s, x], argTypes := #[22, 22] })
    (base : Nat) (v : Value) (l : List Dg) (hs : a.eval s = v) (hown : OD w base v l)
    (d : Dg) (z : Array Value) (hz : z = dgA d.1) {g : Nat} (hg : g = w.heap.size) (hx : a.eval x = .slice (some ⟨g, 0, none⟩) 1 1) (hlen : (l.length + 1) * 32 ≤ 140737488355328) (hbase : base ≤ w.heap.size)
    (h : ∀ v' w', OD w' base v' (l ++ [d]) → w.grownBy w' v.ownBlock → (v'.ownBlock = v.ownBlock ∨ v'.ownBlock = some (w.heap.size + 1)) → Below base w w' → wpList Tryd.prog ops Q rest (a.put o.dst v') w') : wpList Tryd.prog ops Q (o :: rest) a (w.alloc (.cells z 31)) := by
  subst hz
  refine wl_of hgd fun K hK => wp_appD s x ho base v l hs (hown.alloc _) (w.heap.size + 1) _ [d] hx (SD.new1 w d hg (by omega)) hlen (by simp; omega) ?_
  intro v' w' h1 h2 h3 h4
  have ha : w.grownBy (w.alloc (.cells (dgA d.1) 31)) v.ownBlock := World.grownBy_alloc w _ _
  exact hK _ _ (h v' w' h1 (ha.trans h2) (by simpa using h3) (((Below.refl _ _).alloc hbase _).trans h4))
theorem fill1 (c : Array Value) (hc : c.size = 32) : Instr.fill (fun i => some (i * 32, 32)) ((Array.range (1 * 32)).map ((dgA (List.replicate 32 0))[· % (dgA (List.replicate 32 0)).size]!)) [(0, .agg c)] = some c := by
  have h := fill_whole (s := 32) (by omega) [.agg c] ((Array.range (1 * 32)).map ((dgA (List.replicate 32 0))[· % (dgA (List.replicate 32 0)).size]!)) (fun v hv => by simp at hv; subst hv; exact hc) (by simp)
  rw [show [(0, Value.agg c)] = (([Value.agg c].zipIdx 0).map fun x => (x.2, x.1)) from rfl, h]
  simp [Value.cells]
/-- '[]api.Digest{d}', as append has it -/
theorem wl_buildD (hgd : o.guard = none) (x : Operand) (ho : o.op = .buildSlice 22 1 #[(0, x)]) (c : Array Value) (hx : a.eval x = .agg c) (hc : c.size = 32)
    (h : wpList Tryd.prog ops Q rest (a.put o.dst (.slice (some ⟨w.heap.size, 0, none⟩) 1 1)) (w.alloc (.cells c 31))) : wpList Tryd.prog ops Q (o :: rest) a w := by
  obtain ⟨i0, hi0, hz0, hz1, hz2⟩ := info_parts infoD
  refine wpList_buildSlice hgd 22 31 1 _ ho c i0 _ Tryd.underlying22 hi0 hz0 (by rw [hz1]; decide) (by rw [hz1]; decide) ?_ h
  rw [hz1]
  simp only [List.map_toArray, List.map_cons, List.map_nil, hx]
  exact fill1 c hc
theorem wp_buildD (x : Operand) (ho : o.op = .buildSlice 22 1 #[(0, x)]) (c : Array Value) (hx : a.eval x = .agg c) (hc : c.size = 32)
    (h : K (a.put o.dst (.slice (some ⟨w.heap.size, 0, none⟩) 1 1)) (w.alloc (.cells c 31))) : o.wp Tryd.prog a w K Q := by
  obtain ⟨i0, hi0, hz0, hz1, hz2⟩ := info_parts infoD
  refine wp_buildSlice 22 31 1 _ ho c i0 _ Tryd.underlying22 hi0 hz0 (by rw [hz1]; decide) (by rw [hz1]; decide) ?_ h
  rw [hz1]
  simp only [List.map_toArray, List.map_cons, List.map_nil, hx]
  exact fill1 c hc
theorem wl_loadM (hgd : o.guard = none) (x : Operand) (ho : o.op = .load 31 x) (b off : Nat) (hx : a.eval x = .pointer (some ⟨b, off, none⟩)) (d : Dg) (hc : w.rangeAt b off (bv d.1))
    (h : wpList Tryd.prog ops Q rest (a.put o.dst (.agg (dgA d.1))) w) : wpList Tryd.prog ops Q (o :: rest) a w :=
  wpList_load_mid hgd 31 x ho b off hx (bv d.1) _ hc Tryd.underlying31 rfl (by rw [dbv_len]; kernel_rfl) h
theorem exec_loadM (x : Operand) (ho : o.op = .load 31 x) (b off : Nat) (hx : a.eval x = .pointer (some ⟨b, off, none⟩)) (d : Dg) (hc : w.rangeAt b off (bv d.1)) :
    (execOp a.eval o).run Tryd.prog w = .ok (.value (.agg (dgA d.1))) w := by
  unfold execOp
  simp only [ho, hx, Sem.run_bind, Sem.run_pure, Result.andThen_ok, run_loadAt_mid w b off 31 (bv d.1) _ hc Tryd.underlying31 rfl (by rw [dbv_len]; kernel_rfl)]
end
theorem range_below {w w' : World} {B b o : Nat} {l : List Value} (h : w.rangeAt b o l) (hb : Below B w w') (hB : b < B) : w'.rangeAt b o l := fun j v hv => (hb.cell (p := ⟨b, o + j, none⟩) hB).trans (h j v hv)
end Go.Proofs.YtjmlohfldkbbaaaDoor
