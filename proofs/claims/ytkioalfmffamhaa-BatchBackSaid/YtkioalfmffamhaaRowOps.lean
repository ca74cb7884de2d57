/-
  What is proved here: a row of operations that the call owns, and the steps of a walk over append onto it: of a slice of operations. No condition.
-/
import Derived.Test.YtkioalfmffamhaaByte
import Derived.Test.YtkioalfmffamhaaEnt
namespace Go.Proofs.Ytkioalfmffamhaa
open Go.RowKit

theorem infoO : (Try.prog.info? 37).map (fun i => (i.zero, i.size, i.bytes)) = some (some (.agg #[.int .u8 0, .string .empty, .string .empty]), 3, 40) := by kernel_rfl

/-- THE SLICE VALUE v OWNS THE ENTRIES l, in a block from base on -/
def OO (w : World) (base : Nat) (v : Value) (l : List Opn) : Prop := w.ownsRow base 37 3 v l.length (l.flatMap opC)
theorem opC_one (l : List Opn) : ∀ u ∈ l.flatMap opC, u.oneCell' = true := by
  intro u hu
  obtain ⟨e, _, h⟩ := List.mem_flatMap.1 hu
  simp only [opC, List.mem_cons, List.not_mem_nil, or_false] at h
  rcases h with rfl | rfl | rfl <;> rfl
section
variable {w w' : World} {B base base' : Nat} {v : Value} {l : List Opn}
theorem OO.nil_ (w : World) (base : Nat) : OO w base (.slice none 0 0) [] := World.ownsRow_nil w base 37 3
theorem OO.below (h : OO w base v l) (hb : Below B w w') (hB : w.heap.size ≤ B) : OO w' base v l := own_below h hb hB
theorem OO.drew (h : OO w base v l) : OO w.drew base v l := h
theorem OO.drewN (h : OO w base v l) (k : Nat) : OO (w.drewN k) base v l := h
theorem OO.alloc (h : OO w base v l) (o : Obj) : OO (w.alloc o) base v l := World.ownsRow.alloc h o
theorem OO.rebase (h : OO w base v l) (hB : base' ≤ base) : OO w base' v l := own_base h hB
theorem OO.so (h : OO w base v l) : SO w w.heap.size v l := Sl.of_own h
theorem OO.lt (h : OO w base v l) : ∀ k, v.ownBlock = some k → base ≤ k ∧ k < w.heap.size := World.ownsRow.lt h
end
section
variable {ops : Array Oper} {rest : List Oper} {o : Oper} {a : Act} {K : Act → World → Prop} {Q : Exit → Act → World → Prop} {w : World} {E : Prop}
/-- append(dst, src...) -/
theorem wp_appOs (s x : Operand)
    (ho : o.op = .call { callee := .builtin .append, args := #[s, x], argTypes := #[23, 23] })
    (base : Nat) (v : Value) (l : List Opn) (hs : a.eval s = v) (hown : OO w base v l)
    (B : Nat) (u : Value) (m : List Opn) (hx : a.eval x = u) (hr : SO w B u m) (hlen : l.length + m.length ≤ maxLen) (hfits : Fits l.length m.length 40) (hbase : base ≤ w.heap.size)
    (h : ∀ v' w', OO w' base v' (l ++ m) → w.grownBy w' v.ownBlock → (v'.ownBlock = v.ownBlock ∨ v'.ownBlock = some w.heap.size) → Below base w w' → K (a.put o.dst v') w') : o.wp Try.prog a w K Q := by
  obtain ⟨i0, hi0, hz0, hz1, hz2⟩ := info_parts infoO
  refine wp_app w s x 23 ho base 37 i0 _ 3 40 Try.underlying23 hi0 hz0 hz1 hz2 rfl (by omega) v l.length _ hs hown B m.length u _ hx hr (opC_one m) hlen hfits hbase ?_
  intro v' w' h1 h2 h3 h4
  refine h v' w' ?_ h2 h3 h4
  unfold OO
  rw [List.length_append, List.flatMap_append]
  exact h1
theorem wl_appOs (hgd : Region.wanted o (yielded ops a.tmps) = true) (s x : Operand)
    (ho : o.op = .call { callee := .builtin .append, args := #[s, x], argTypes := #[23, 23] })
    (base : Nat) (v : Value) (l : List Opn) (hs : a.eval s = v) (hown : OO w base v l)
    (B : Nat) (u : Value) (m : List Opn) (hx : a.eval x = u) (hr : SO w B u m) (hlen : l.length + m.length ≤ maxLen) (hfits : Fits l.length m.length 40) (hbase : base ≤ w.heap.size)
    (h : ∀ v' w', OO w' base v' (l ++ m) → w.grownBy w' v.ownBlock → (v'.ownBlock = v.ownBlock ∨ v'.ownBlock = some w.heap.size) → Below base w w' → wpList Try.prog ops Q rest (a.put o.dst v') w') : wpList Try.prog ops Q (o :: rest) a w :=
  wl_of hgd fun K hK => wp_appOs s x ho base v l hs hown B u m hx hr hlen hfits hbase fun v' w' a b c d => hK _ _ (h v' w' a b c d)
theorem st_appOs (hgd : Region.wanted o (yielded ops a.tmps) = true) (s x : Operand)
    (ho : o.op = .call { callee := .builtin .append, args := #[s, x], argTypes := #[23, 23] })
    (base : Nat) (v : Value) (l : List Opn) (hs : a.eval s = v) (hown : OO w base v l)
    (B : Nat) (u : Value) (m : List Opn) (hx : a.eval x = u) (hr : SO w B u m) (hlen : l.length + m.length ≤ maxLen) (hfits : Fits l.length m.length 40) (hbase : base ≤ w.heap.size)
    (h : ∀ v' w', OO w' base v' (l ++ m) → w.grownBy w' v.ownBlock → (v'.ownBlock = v.ownBlock ∨ v'.ownBlock = some w.heap.size) → Below base w w' → K (a.put o.dst v') w') : if Region.wanted o (yielded ops a.tmps) = true then o.wp Try.prog a w K Q else E :=
  st_of hgd (wp_appOs s x ho base v l hs hown B u m hx hr hlen hfits hbase h)
end
end Go.Proofs.Ytkioalfmffamhaa
