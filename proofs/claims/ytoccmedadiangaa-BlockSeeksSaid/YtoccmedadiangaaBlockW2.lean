/-
  What is proved here: what the builder's add comes to, at this seat's numbers. Conditions: an entry that may be; the lengths.
-/
import Derived.Test.YtoccmedadiangaaBlockW
namespace Go.Proofs.Ytoccmedadiangaa
open Go.RowKit

theorem own_type {w : World} {base Bk : Nat} {v : Value} {l : List UInt8} {cs : Array Value} {fr : Nat × Nat} {T : TypeId} (hT : T ≠ 5) (h : OB w base v l) (hr : w.heap[Bk]? = some (.cells cs T fr)) : v.ownBlock ≠ some Bk := by
  intro e
  rcases h.2 with ⟨rfl, _⟩ | ⟨g, cap, cur, rfl, _, hg, _⟩
  · cases e
  · have e2 : g = Bk := by injection e
    subst e2
    rw [hg] at hr
    injection hr with hr
    injection hr with _ h2 _
    exact hT h2.symm
/-- BLOCK Bk IS A BUILDER: its bytes, its places, how many, the key ahead -/
structure BldV (w : World) (base Bk : Nat) (vo vp : Value) (out places : List UInt8) (n : Nat) (last : ByteArray) : Prop where
  row : w.heap[Bk]? = some (.cells #[vo, vp, .int .i64 (n : Int), .string last] 49 (0, 0))
  oo : OB w base vo out
  op : OB w base vp places
  ne : vp.ownBlock = none ∨ vp.ownBlock ≠ vo.ownBlock
  le : base ≤ Bk
def BldAt (w : World) (base Bk : Nat) (out places : List UInt8) (n : Nat) (last : ByteArray) : Prop := ∃ vo vp, BldV w base Bk vo vp out places n last
theorem bk_ne : (49 : TypeId) ≠ 5 := by decide
section
variable {w w' : World} {base Bk : Nat} {vo vp r : Value} {out places l : List UInt8} {n : Nat} {last : ByteArray}
theorem BldV.lt (h : BldV w base Bk vo vp out places n last) : Bk < w.heap.size := (Array.getElem?_eq_some_iff.1 h.row).1
theorem BldV.cells (h : BldV w base Bk vo vp out places n last) : (w.cell? ⟨Bk, 0, none⟩ = some vo ∧ w.cell? ⟨Bk, 1, none⟩ = some vp ∧ w.cell? ⟨Bk, 2, none⟩ = some (.int .i64 (n : Int)) ∧ w.cell? ⟨Bk, 3, none⟩ = some (.string last)) ∧ (w.frozen? ⟨Bk, 0, none⟩ = false ∧ w.frozen? ⟨Bk, 1, none⟩ = false ∧ w.frozen? ⟨Bk, 2, none⟩ = false ∧ w.frozen? ⟨Bk, 3, none⟩ = false) :=
  cells4 h.row
theorem BldV.below (h : BldV w base Bk vo vp out places n last) (hb : Below w.heap.size w w') : BldV w' base Bk vo vp out places n last :=
  ⟨(hb.block Bk h.lt).trans h.row, h.oo.below hb (Nat.le_refl _), h.op.below hb (Nat.le_refl _), h.ne, h.le⟩
theorem BldV.drew (h : BldV w base Bk vo vp out places n last) : BldV w.drew base Bk vo vp out places n last := ⟨h.row, h.oo.drew, h.op.drew, h.ne, h.le⟩
theorem BldV.no (h : BldV w base Bk vo vp out places n last) : vo.ownBlock ≠ some Bk := own_type bk_ne h.oo h.row
theorem BldV.np (h : BldV w base Bk vo vp out places n last) : vp.ownBlock ≠ some Bk := own_type bk_ne h.op h.row
theorem BldV.setPlaces (h : BldV w base Bk vo vp out places n last) (ho : OB w base r l) (hr : r.ownBlock = none ∨ r.ownBlock ≠ vo.ownBlock) : BldV (w.setCell ⟨Bk, 1, none⟩ r) base Bk vo r out l n last :=
  ⟨by simp [World.setCell, Array.getElem?_modify, h.row], h.oo.setCell h.no _, ho.setCell (own_type bk_ne ho h.row) _, hr, h.le⟩
theorem BldV.setN (h : BldV w base Bk vo vp out places n last) (m : Nat) : BldV (w.setCell ⟨Bk, 2, none⟩ (.int .i64 (m : Int))) base Bk vo vp out places m last :=
  ⟨by simp [World.setCell, Array.getElem?_modify, h.row], h.oo.setCell h.no _, h.op.setCell h.np _, h.ne, h.le⟩
theorem BldV.setLast (h : BldV w base Bk vo vp out places n last) (s : ByteArray) : BldV (w.setCell ⟨Bk, 3, none⟩ (.string s)) base Bk vo vp out places n s :=
  ⟨by simp [World.setCell, Array.getElem?_modify, h.row], h.oo.setCell h.no _, h.op.setCell h.np _, h.ne, h.le⟩
end
/-- what appends onto vo leave alone -/
structure Kept (w w' : World) (vo v' : Value) : Prop where
  size : w.heap.size ≤ w'.heap.size
  block : ∀ x, x < w.heap.size → vo.ownBlock ≠ some x → w'.heap[x]? = w.heap[x]?
  own : v'.ownBlock = vo.ownBlock ∨ ∃ g, v'.ownBlock = some g ∧ w.heap.size ≤ g
theorem Kept.refl (w : World) (vo : Value) : Kept w w vo vo := ⟨Nat.le_refl _, fun _ _ _ => rfl, .inl rfl⟩
theorem Kept.drew {w w' : World} {vo v : Value} (h : Kept w w' vo v) : Kept w w'.drew vo v := ⟨h.size, h.block, h.own⟩
theorem Kept.step {w w1 w2 : World} {vo v1 v2 : Value} (h : Kept w w1 vo v1) (hg : w1.grownBy w2 v1.ownBlock) (ho : v2.ownBlock = v1.ownBlock ∨ v2.ownBlock = some w1.heap.size) : Kept w w2 vo v2 := by
  refine ⟨Nat.le_trans h.size hg.size, fun x hx hne => ?_, ?_⟩
  · refine (hg.block x (Nat.lt_of_lt_of_le hx h.size) (fun e => ?_)).trans (h.block x hx hne)
    rcases h.own with e1 | ⟨g, e1, hge⟩
    · rw [e1] at e; exact hne e.symm
    · rw [e1] at e; injection e with e; omega
  · rcases ho with e | e
    · rw [e]; exact h.own
    · exact .inr ⟨_, e, h.size⟩
theorem Kept.below {w w1 w2 : World} {vo v1 : Value} (h : Kept w w1 vo v1) (hb : Below w1.heap.size w1 w2) : Kept w w2 vo v1 := ⟨Nat.le_trans h.size hb.size, fun x hx hne => (hb.block x (Nat.lt_of_lt_of_le hx h.size)).trans (h.block x hx hne), h.own⟩
theorem Kept.ob {w w' : World} {base : Nat} {vo v' vp : Value} {l : List UInt8} (h : Kept w w' vo v') (hp : OB w base vp l) (hne : vp.ownBlock = none ∨ vp.ownBlock ≠ vo.ownBlock) : OB w' base vp l := by
  refine ⟨hp.1, ?_⟩
  rcases hp.2 with hn | ⟨g, cap, cur, hv, hbg, hg, rest⟩
  · exact .inl hn
  · have hlt : g < w.heap.size := (Array.getElem?_eq_some_iff.1 hg).1
    refine .inr ⟨g, cap, cur, hv, hbg, (h.block g hlt (fun e => ?_)).trans hg, rest⟩
    rcases hne with h1 | h1
    · rw [hv] at h1; cases h1
    · rw [hv] at h1; exact h1 e.symm
section
variable {w w' : World} {base Bk : Nat} {vo vp v' : Value} {out out' places : List UInt8} {n : Nat} {last : ByteArray}
theorem BldV.setOut (h : BldV w base Bk vo vp out places n last) (k : Kept w w' vo v') (ho : OB w' base v' out') : BldV (w'.setCell ⟨Bk, 0, none⟩ v') base Bk v' vp out' places n last := by
  have hrow := (k.block Bk h.lt h.no).trans h.row
  have hop := k.ob h.op h.ne
  refine ⟨by simp [World.setCell, Array.getElem?_modify, hrow], ho.setCell (own_type bk_ne ho hrow) _, hop.setCell (own_type bk_ne hop hrow) _, ?_, h.le⟩
  rcases k.own with e | ⟨g, e, hge⟩
  · rw [e]; exact h.ne
  · rcases hv : vp.ownBlock with _ | x
    · exact .inl rfl
    · right
      have := (h.op.lt x hv).2
      rw [e]
      intro e2
      injection e2 with e2
      omega
end
section
variable {ops : Array Oper} {rest : List Oper} {o : Oper} {a : Act} {K : Act → World → Prop} {Q : Exit → Act → World → Prop} {w : World}
/-- append(dst, s...), s a text; whose row it is -/
theorem wp_appS2 (s x : Operand)
    (ho : o.op = .call { callee := .builtin .append, args := #[s, x], argTypes := #[25, 9] })
    (base : Nat) (v : Value) (l : List UInt8) (hs : a.eval s = v) (hown : OB w base v l)
    (t : ByteArray) (hx : a.eval x = .string t) (hlen : l.length + t.size ≤ 140737488355328) (hbase : base ≤ w.heap.size)
    (h : ∀ v' w', OB w' base v' (l ++ t.data.toList) → w.grownBy w' v.ownBlock → (v'.ownBlock = v.ownBlock ∨ v'.ownBlock = some w.heap.size) → Below base w w' → K (a.put o.dst v') w') : o.wp Try.prog a w K Q := by
  obtain ⟨i0, hi0, hz0, hz1, hz2⟩ := info_parts infoB
  obtain ⟨v', w', hrun, h1, h2, h4⟩ := Lib.run_append_own_string (P := Try.prog) w base 25 9 o.type 5 i0 Try.underlying25 Try.underlying9 hi0 hz0 hz1 hz2 v l.length (bv l) hown t (by simp only [maxLen]; omega) (by omega) hbase
  have h3 : v'.ownBlock = v.ownBlock ∨ v'.ownBlock = some w.heap.size := by
    rcases hown.2 with ⟨rfl, hl0⟩ | ⟨g, cap, cur, rfl, hbg, hg, hnc, hcm, hcs, htake⟩
    · by_cases hm : t.size = 0
      · rw [h4.2 ⟨rfl, hm⟩]; exact .inl rfl
      · have hr := run_append_nil_string (P := Try.prog) w 25 9 o.type 5 i0 (.int .u8 0) Try.underlying25 Try.underlying9 hi0 hz0 t (by omega) (by omega) (by rw [hz2]; omega)
        rw [hr] at hrun
        injection hrun with e _
        rw [← e]; exact .inr rfl
    · by_cases hroom : l.length + t.size ≤ cap
      · have hr := Lib.run_append_room_string (P := Try.prog) w 25 9 o.type 5 i0 Try.underlying25 Try.underlying9 hi0 hz1 g l.length cap cur hg t hroom (by omega)
        rw [hr] at hrun
        injection hrun with e _
        rw [← e]; exact .inl rfl
      · have holds : ∀ j u, (bv l)[j]? = some u → w.cell? ((⟨g, 0, none⟩ : Addr).add j) = some u := World.ownsRow.cells (g := g) hown rfl
        have hr := Lib.run_append_grow_string (P := Try.prog) w 25 9 o.type 5 i0 (.int .u8 0) Try.underlying25 Try.underlying9 hi0 hz0 ⟨g, 0, none⟩ l.length cap (bv l) (by rw [bv_length, hz1, Nat.mul_one]) holds t (by omega) (by omega) (by rw [hz2]; exact growslice_fits (by omega) (by omega))
        rw [hr] at hrun
        injection hrun with e _
        rw [← e]; exact .inr rfl
  unfold Oper.wp execOp
  simp only [ho, resolve, invoke, builtin, Sem.run_bind, Sem.run_pure, Result.andThen_ok, List.map_toArray, List.map_cons, List.map_nil, hs, hx, hrun]
  have e : t.data.toList.length = t.size := by rw [Array.length_toList]; rfl
  refine h v' w' ?_ h2 h3 ((Below.refl _ _).grown h2 hbase fun k hk => (hown.lt k hk).1)
  unfold OB
  rw [List.length_append, bv_append, e, ← strCells_bv]
  exact h1
end
end Go.Proofs.Ytoccmedadiangaa
