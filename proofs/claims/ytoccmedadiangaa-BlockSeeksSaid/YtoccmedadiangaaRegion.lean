/-
  What is proved here: steps through a region that draws its order, by the laws of Derived/OrdersHeld.lean: an operation that any order may take first; an operation that comes up alone; what is held may grow on the way. No condition.
-/
import Derived.WalkKit
import Derived.Deep.RegionHeld3
namespace Go.Proofs.Ytoccmedadiangaa

section
variable {P : Program} {ops : Array Oper} {Q : Exit → Act → World → Prop} {md : Region.Mode} {S S' : World → Prop}
theorem get_of_drop {i : Nat} {o : Oper} {r : List Oper} (h : ops.toList.drop i = o :: r) : ops[i]? = some o := by
  have e : ops.toList[i]? = some o := by rw [← List.head?_drop, h]; rfl
  simpa using e
/-- number i is taken first -/
theorem reg_take (i : Nat) {oi : Oper} {r : List Oper} {v : Value} {fuel : Nat} {listed : Array Bool} {a : Act} {w : World} (hi : ops.toList.drop i = oi :: r)
    (hs : Region.noSelect ops = true) (hf : Region.free md ops listed i = true) (hr : (Region.ready md ops listed).contains i = true)
    (hQ : ∀ c a w, Q (.panic c) (a.put oi.dst v) w → Q (.panic c) a w) (hw : Region.wanted oi (yielded ops a.tmps) = true) (hy : ∀ w, S w → (execOp a.eval oi).run P w = .ok (.value v) w) (hS : S w)
    (h : wpAnyH P md ops Q S fuel (listed.setIfInBounds i true) (a.put oi.dst v) w) : wpAnyH P md ops Q S (fuel + 1) listed a w :=
  wpAnyH_take (get_of_drop hi) hs hf hr hQ (.inl ⟨hw, hy⟩) hS h
/-- number i comes up alone -/
theorem reg_one (i : Nat) {oi : Oper} {r : List Oper} {fuel : Nat} {listed : Array Bool} {a : Act} {w : World} (hi : ops.toList.drop i = oi :: r) (hr : Region.ready md ops listed = [i])
    (hw : Region.wanted oi (yielded ops a.tmps) = true)
    (h : ∀ K' : Act → World → Prop, Shut (∀ a w, S w → (S w → wpAnyH P md ops Q S fuel (listed.setIfInBounds i true) a w) → K' a w) → Oper.wp P oi a w K' Q) : wpAnyH P md ops Q S (fuel + 1) listed a w :=
  wpAnyH_ready hr (by simp) (AllReadyH.cons (get_of_drop hi) (fun K' hK => by rw [if_pos hw]; exact h K' hK) AllReadyH.nil)
/-- what is held grows -/
theorem reg_grow (h : ∀ w, S' w → S w) : ∀ {fuel : Nat} {listed : Array Bool} {a : Act} {w : World}, wpAnyH P md ops Q S' fuel listed a w → wpAnyH P md ops Q S fuel listed a w
  | 0, _, _, _, hh => hh
  | _ + 1, _, _, _, hh => ⟨hh.1, fun i hi => wpOp_mono (fun _ w' h' => ⟨h w' h'.1, reg_grow h h'.2⟩) (hh.2 i hi)⟩
theorem reg_add (T : World → Prop) {fuel : Nat} {listed : Array Bool} {a : Act} {w : World} (hS : S w) (hT : T w) (h : (T w ∧ S w) → wpAnyH P md ops Q (fun w => T w ∧ S w) fuel listed a w) : wpAnyH P md ops Q S fuel listed a w :=
  reg_grow (fun _ h => h.2) (h ⟨hT, hS⟩)
theorem noPanic_mk {a : Act} {w : World} (h : Q .normal a w) : NoPanic Q .normal a w := h
end
end Go.Proofs.Ytoccmedadiangaa
