/-
  What is proved here: how an argument that is a slice of takes is opened. No condition.
-/
import Derived.Test.YtaefhnmdombadaaFields
import Derived.Test.YtaefhnmdombadaaArgs
import Derived.Test.YtaefhnmdombadaaCodecTakesW
namespace Go.Proofs.Ytaefhnmdombadaa
open Go.ChangeShapes Go.WideShapes Go.ChangeAt Go.RowKit Go.Deep
theorem oneTk : ∃ fs, Try.prog.underlying 39 = some (.struct fs) ∧ oneCellFields Try.prog fs = true ∧ fs.size = 2 ∧ (fs.toList.map (·.type)) = [5, 3] := ⟨_, Try.underlying39, by kernel_rfl, by kernel_rfl, by kernel_rfl⟩
theorem cellsTk : Try.prog.cellsOf 39 = 2 := by kernel_rfl
section
variable {H : Type} {enc : TypeId × Value → H} {W : World} {base b0 : Nat} {spare : Nat → Bool} {held : Bool} {v : Value} {d : DataW H} {ps : List MemPlace}
theorem trod_tk {fuel : Nat} {cs : List Value} {x : DataW H × List MemPlace} (h : DataW.trod enc Try.prog W base spare held fuel 39 cs = some x) : ∃ o : Tk, cs = tkC o ∧ TkOk o := by
  obtain ⟨fs, hu, hone, hsz, hty⟩ := oneTk
  obtain ⟨hl, hf⟩ := trod_fields hu hone (cellsTk.trans hsz.symm) h
  rw [hty] at hf
  obtain ⟨u0, n0, y0, e0, t0⟩ := hf 0 _ rfl
  obtain ⟨u1, n1, y1, e1, t1⟩ := hf 1 _ rfl
  obtain ⟨k, hk, _, wk⟩ := DataW.trod_int Try.underlying5 t0
  obtain ⟨m, hm, _, wm⟩ := DataW.trod_int Try.underlying3 t1
  obtain ⟨kb, rfl⟩ := u8_of k wk
  simp only [List.cons.injEq, and_true] at hk hm
  subst hk; subst hm
  refine ⟨⟨kb, m⟩, ?_, i64_of m wm⟩
  rw [hsz] at hl
  match cs, hl with
  | [c0, c1], _ =>
    simp only [List.getElem?_cons_zero, List.getElem?_cons_succ, Option.some.injEq] at e0 e1
    rw [e0, e1]
    rfl
/-- a slice of takes, as an argument -/
theorem arg_tks (hval : Value.okWide Try.prog W .any b0 32 v) (hd : DataW.Trod enc Try.prog W base spare held 32 v d ps) :
    ∃ l : List Tk, Sl W W.heap.size 2 v l.length (l.flatMap tkC) ∧ (∀ o ∈ l, TkOk o) ∧ (l.length = 0 ∨ ∃ elems rest, d = .slice elems rest ∧ elems.length = l.length) :=
  arg_sl tkC 2 (by omega) tkC_length TkOk Try.underlying32 cellsTk (fun _ _ _ h => trod_tk h) hval hd
end
end Go.Proofs.Ytaefhnmdombadaa
