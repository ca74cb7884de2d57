/-
  What is proved here: arrays of bytes in a block of their own, whatever their type: a cell, a store, the whole row loaded and stored; a row on the way. No condition.
-/
import Derived.Test.YtjkcdnangmjoeaaDoorShaSumW
namespace Go.Proofs.YtjkcdnangmjoeaaDoor
open Go.RowKit

abbrev rowT (t : TypeId) (c : Array Value) : Obj := .cells c t (0, 0)
theorem rowT_cell {w : World} {D : Nat} {t : TypeId} {l : List UInt8} (h : w.heap[D]? = some (rowT t (dgA l))) {k : Nat} (hk : k < l.length) :
    w.cell? ⟨D, k, none⟩ = some (u8v l[k]) ∧ w.frozen? ⟨D, k, none⟩ = false ∧ ∀ b : UInt8, (w.setCell ⟨D, k, none⟩ (u8v b)).heap[D]? = some (rowT t (dgA (l.set k b))) := by
  refine ⟨?_, by simp [World.frozen?, h], fun b => ?_⟩
  · rw [cell_of_row _ _ k _ _ _ h]
    have := bv_get l k hk
    simpa using this
  · simp only [World.setCell, Array.getElem?_modify, h]
    simp [bv, List.map_set]
/-- a row of n bytes on the way -/
def upTo (n : Nat) (l : List UInt8) (k : Nat) : List UInt8 := l.take k ++ List.replicate (n - k) 0
theorem upTo_len {n : Nat} {l : List UInt8} (h : l.length = n) {k : Nat} (hk : k ≤ n) : (upTo n l k).length = n := by unfold upTo; simp [h]; omega
theorem upTo_get {n : Nat} {l : List UInt8} (h : l.length = n) {k : Nat} (hk : k < n) : (upTo n l k)[k]? = some 0 := by
  unfold upTo
  rw [List.getElem?_append_right (by rw [List.length_take]; omega), List.length_take, Nat.min_eq_left (by omega), Nat.sub_self, List.getElem?_replicate, if_pos (by omega)]
theorem upTo_step {n : Nat} {l : List UInt8} (h : l.length = n) {k : Nat} (hk : k < n) {b : UInt8} (hb : l[k]? = some b) : (upTo n l k).set k b = upTo n l (k + 1) := by
  have e : upTo n l (k + 1) = l.take k ++ b :: List.replicate (n - (k + 1)) 0 := by
    unfold upTo
    rw [List.take_add_one, hb]
    simp
  have e2 : upTo n l k = l.take k ++ 0 :: List.replicate (n - (k + 1)) 0 := by
    unfold upTo
    rw [show n - k = (n - (k + 1)) + 1 by omega, List.replicate_succ]
  rw [e, e2, List.set_append_right _ _ (by rw [List.length_take]; omega)]
  have e3 : k - (l.take k).length = 0 := by rw [List.length_take]; omega
  rw [e3]
  rfl
theorem upTo_0 (n : Nat) (l : List UInt8) : upTo n l 0 = List.replicate n 0 := by simp [upTo]
theorem upTo_n {n : Nat} {l : List UInt8} (h : l.length = n) : upTo n l n = l := by unfold upTo; rw [List.take_of_length_le (by omega)]; simp
section
variable {ops : Array Oper} {rest : List Oper} {o : Oper} {a : Act} {Q : Exit → Act → World → Prop} {w : World}
theorem wl_loadT (t : TypeId) {n : Nat} {e : TypeId} (hu : Tryd.prog.underlying t = some (.array n e)) (hs : (Tryd.prog.info? t).map (·.size) = some n) (hgd : o.guard = none) (x : Operand) (ho : o.op = .load t x) (g : Nat) (hx : a.eval x = .pointer (some ⟨g, 0, none⟩)) (cs : Array Value) (hg : w.heap[g]? = some (rowT t cs)) (hn : cs.size = n)
    (h : wpList Tryd.prog ops Q rest (a.put o.dst (.agg cs)) w) : wpList Tryd.prog ops Q (o :: rest) a w :=
  wpList_load_row hgd t x ho g hx _ cs (0, 0) _ hg hu rfl (by rw [hn]; exact hs) h
theorem wl_storeT (t : TypeId) {n : Nat} (hs : (Tryd.prog.info? t).map (·.size) = some n) (hgd : o.guard = none) (p x : Operand) (ho : o.op = .store t p x) (g : Nat) (hp : a.eval p = .pointer (some ⟨g, 0, none⟩)) (c c' : Array Value) (hx : a.eval x = .agg c') (hg : w.heap[g]? = some (rowT t c)) (hn : c.size = n) (hn' : c'.size = n) (h1 : ∀ v ∈ c'.toList, v.oneCell' = true)
    (h : wpList Tryd.prog ops Q rest (a.put o.dst undef) (w.setRow g c')) : wpList Tryd.prog ops Q (o :: rest) a w :=
  wpList_plain hgd fun _ hK => wp_storeR t p x ho g hp c c' hx hg (by rw [hn']; exact hs) (by rw [hn, hn']) (Array.all_eq_true_iff_forall_mem.2 (fun v hv => h1 v (by simpa using hv))) (hK _ _ h)
end
/-- a row as a slice of bytes -/
theorem SB.ofRow {w : World} {g B n : Nat} {l : List UInt8} {t : TypeId} {fr : Nat × Nat} {c : Array Value} (h : w.heap[g]? = some (.cells c t fr)) (hc : dgA l = c) (hn : n = l.length) (hB : g < B) (hl : l.length ≤ maxLen) : SB w B (.slice (some ⟨g, 0, none⟩) n n) l := by
  subst hn
  subst hc
  refine ⟨_, _, rfl, Nat.le_refl _, hl, ⟨by rw [bv_length, Nat.mul_one], ⟨fun e => (by cases e), fun ad e _ => ?_⟩⟩⟩
  injection e with e
  subst e
  refine ⟨rfl, hB, fun j u hu => ?_⟩
  show w.cell? ⟨g, 0 + j, none⟩ = some u
  rw [Nat.zero_add, cell_of_row _ _ j _ _ _ h, ← hu]
  simp
end Go.Proofs.YtjkcdnangmjoeaaDoor
