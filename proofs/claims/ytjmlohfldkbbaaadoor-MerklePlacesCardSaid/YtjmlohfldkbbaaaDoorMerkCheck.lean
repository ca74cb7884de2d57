/-
  What is proved here: what Check of package merkle comes to, at this seat's numbers. Conditions: the proof's length; the table of constants.
-/
import Derived.Test.YtjmlohfldkbbaaaDoorMerkSame
namespace Go.Proofs.YtjmlohfldkbbaaaDoor
open Go.RowKit

theorem halves_le : ∀ (k n : Nat), n < 2 ^ k → halves n ≤ k
  | 0, n, h => by
    have : n = 0 := by simp at h; exact h
    subst this
    rw [halves]
    simp
  | k + 1, n, h => by
    by_cases h0 : n = 0
    · subst h0; rw [halves]; simp
    · rw [halves_pos h0]
      have := halves_le k (n / 2) (by rw [Nat.pow_succ] at h; omega)
      omega
/-- what is held to be at a place is, by the proof -/
def checkD (root : Dg) (n at_ : Int) (leaf : Dg) (ps : List Dg) : Prop :=
  0 ≤ at_ ∧ at_ < n ∧ (dirs n.toNat at_.toNat).length = ps.length ∧ climb jnD leaf (dirs n.toNat at_.toNat).reverse ps = root
instance (root : Dg) (n at_ : Int) (leaf : Dg) (ps : List Dg) : Decidable (checkD root n at_ leaf ps) := by unfold checkD; exact inferInstance
def bov (l : List Bool) : List Value := l.map Value.bool
theorem infoBo : (Tryd.prog.info? 4).map (fun i => (i.zero, i.size, i.bytes)) = some (some (.bool false), 1, 1) := by kernel_rfl
def OBo (w : World) (base : Nat) (v : Value) (l : List Bool) : Prop := w.ownsRow base 4 1 v l.length (bov l)
theorem wl_appBo {ops : Array Oper} {o : Oper} {a : Act} (hgd : Region.wanted o (yielded ops a.tmps) = true) {rest : List Oper} {Q : Exit → Act → World → Prop} {w : World} (s x : Operand)
    (ho : o.op = .call { callee := .builtin .append, args := #[s, x], argTypes := #[45, 45] })
    (base : Nat) (v : Value) (l : List Bool) (hs : a.eval s = v) (hown : OBo w base v l)
    (b : Bool) (z : Value) (hz : z = .bool b) {g : Nat} (hg : g = w.heap.size) (hx : a.eval x = .slice (some ⟨g, 0, none⟩) 1 1) (hlen : l.length + 1 ≤ 140737488355328) (hbase : base ≤ w.heap.size)
    (h : ∀ v' w', OBo w' base v' (l ++ [b]) → (v'.ownBlock = v.ownBlock ∨ v'.ownBlock = some (w.heap.size + 1)) → Below base w w' → wpList Tryd.prog ops Q rest (a.put o.dst v') w') : wpList Tryd.prog ops Q (o :: rest) a (w.alloc (.cells #[z] 4)) := by
  subst hz
  subst hg
  obtain ⟨i0, hi0, hz0, hz1, hz2⟩ := info_parts infoBo
  refine wl_of hgd fun K hK => wp_app _ s x 45 ho base 4 i0 _ 1 1 Tryd.underlying45 hi0 hz0 hz1 hz2 rfl (by omega) v l.length (bov l) hs (World.ownsRow.alloc hown _) (w.heap.size + 1) 1 _ [.bool b] hx ⟨_, _, rfl, Nat.le_refl _, by simp [maxLen], Rd.new1 w _ _⟩ (by intro u hu; simp at hu; subst hu; rfl) (by simp only [maxLen]; omega) (Fits.of _ _ _ (by omega)) (by simp; omega) ?_
  intro v' w' h1 h2 h3 h4
  refine hK _ _ (h v' w' ?_ (by simpa using h3) (((Below.refl _ _).alloc hbase _).trans h4))
  unfold OBo
  rw [List.length_append]
  simpa [bov] using h1
theorem OBo.below {w w' : World} {B base : Nat} {v : Value} {l : List Bool} (h : OBo w base v l) (hb : Below B w w') (hB : w.heap.size ≤ B) : OBo w' base v l := own_below h hb hB
theorem OBo.form {w : World} {base : Nat} {v : Value} {l : List Bool} (h : OBo w base v l) : ∃ A c, v = .slice A l.length c ∧ l.length ≤ c ∧ c ≤ 9223372036854775807 := by
  obtain ⟨A, c, e, h1, h2, _⟩ := Sl.of_own h
  exact ⟨A, c, e, h1, by unfold maxLen at h2; omega⟩
theorem OBo.at_ {w : World} {base : Nat} {v : Value} {l : List Bool} (h : OBo w base v l) (h0 : 0 < l.length) : ∃ g c, v = .slice (some ⟨g, 0, none⟩) l.length c ∧ g < w.heap.size ∧ ∀ k (hk : k < l.length), w.cell? ⟨g, k, none⟩ = some (.bool (l[k]'hk)) := by
  have hs := Sl.of_own h
  obtain ⟨h1, h2⟩ := h
  rcases h2 with ⟨_, e⟩ | ⟨g', cap, cur, e1, _⟩
  · omega
  · obtain ⟨A, c, e, h3, h4, hr⟩ := hs
    rw [e1] at e
    injection e with e2 _ e3
    subst e2
    obtain ⟨_, hb, hc⟩ := hr.2.2 _ rfl h0
    refine ⟨g', cap, e1, hb, fun k hk => ?_⟩
    have := hc k (.bool (l[k]'hk)) (by simp [bov, hk])
    rw [Nat.zero_add] at this
    exact this
end Go.Proofs.YtjmlohfldkbbaaaDoor
