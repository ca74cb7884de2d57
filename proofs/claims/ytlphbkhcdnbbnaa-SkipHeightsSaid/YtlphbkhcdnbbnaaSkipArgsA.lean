/-
  What is proved here: how an argument that is a put, an ask, or a slice of puts, is opened. No condition.
-/
import Derived.Test.YtlphbkhcdnbbnaaFields
import Derived.Test.YtlphbkhcdnbbnaaArgs
import Derived.Test.YtlphbkhcdnbbnaaEntA
import Derived.Test.YtlphbkhcdnbbnaaSkipArgs
namespace Go.Proofs.Ytlphbkhcdnbbnaa
open Go.ChangeShapes Go.WideShapes Go.ChangeAt Go.RowKit Go.Deep
theorem onePut : ∃ fs, Try.prog.underlying 27 = some (.struct fs) ∧ fs.size = 2 ∧ (fs.toList.map (fun f => (f.type, f.offset))) = [(25, 0), (3, 4)] := ⟨_, Try.underlying27, by kernel_rfl, by kernel_rfl⟩
theorem cellsPut : Try.prog.cellsOf 27 = 5 := by kernel_rfl
theorem cellsInt : Try.prog.cellsOf 3 = 1 := by kernel_rfl
theorem oneAsk : ∃ fs, Try.prog.underlying 29 = some (.struct fs) ∧ oneCellFields Try.prog fs = true ∧ fs.size = 3 ∧ (fs.toList.map (·.type)) = [9, 23, 3] := ⟨_, Try.underlying29, by kernel_rfl, by kernel_rfl, by kernel_rfl⟩
theorem cellsAsk : Try.prog.cellsOf 29 = 3 := by kernel_rfl
section
variable {H : Type} {enc : TypeId × Value → H} {W : World} {base b0 : Nat} {spare : Nat → Bool} {held : Bool} {v : Value} {d : DataW H} {ps : List MemPlace}
theorem trod_put {fuel : Nat} {cs : List Value} {x : DataW H × List MemPlace} (h : DataW.trod enc Try.prog W base spare held fuel 27 cs = some x) : ∃ o : PutA, cs = putC o ∧ PutOk o := by
  obtain ⟨fs, hu, hsz, hty⟩ := onePut
  obtain ⟨xs, n, _, _, hlen, hxl, hf⟩ := DataW.trod_struct hu h
  rw [cellsPut] at hlen
  have hpart : ∀ (i : Nat) (t : TypeId) (o : Nat), (fs.toList.map (fun f => (f.type, f.offset)))[i]? = some (t, o) → ∃ y, DataW.trod enc Try.prog W base spare held n t ((cs.drop o).take (Try.prog.cellsOf t)) = some y := by
    intro i t o hi
    rw [List.getElem?_map, Array.getElem?_toList] at hi
    obtain ⟨f, hfi, he⟩ := Option.map_eq_some_iff.1 hi
    injection he with h1 h2
    subst h1; subst h2
    have hlt : i < fs.size := (Array.getElem?_eq_some_iff.1 hfi).1
    exact ⟨_, (hf i f hfi).trans (List.getElem?_eq_getElem (by omega))⟩
  rw [hty] at hpart
  obtain ⟨y0, t0⟩ := hpart 0 _ _ rfl
  obtain ⟨y1, t1⟩ := hpart 1 _ _ rfl
  rw [cellsEnt] at t0
  rw [cellsInt] at t1
  obtain ⟨e, he, hok, _⟩ := trod_ent t0
  obtain ⟨m, hm, _, wm⟩ := DataW.trod_int Try.underlying3 t1
  refine ⟨⟨e, m⟩, ?_, hok, i64_of m wm⟩
  have hs : cs = cs.take 4 ++ cs.drop 4 := (List.take_append_drop 4 cs).symm
  have hd : (cs.drop 4).take 1 = cs.drop 4 := List.take_of_length_le (by rw [List.length_drop, hlen]; omega)
  rw [hs, ← hd, hm]
  rw [List.drop_zero] at he
  rw [he]
  rfl
/-- a slice of puts, as an argument -/
theorem arg_puts (hval : Value.okWide Try.prog W .any b0 22 v) (hd : DataW.Trod enc Try.prog W base spare held 22 v d ps) :
    ∃ l : List PutA, SP W W.heap.size v l ∧ (∀ o ∈ l, PutOk o) ∧ (l.length = 0 ∨ ∃ elems rest, d = .slice elems rest ∧ elems.length = l.length) :=
  arg_sl putC 5 (by omega) putC_length PutOk Try.underlying22 cellsPut (fun _ _ _ h => trod_put h) hval hd
/-- a put, as an argument -/
theorem arg_put (hval : Value.okWide Try.prog W .any b0 27 v) (hd : DataW.Trod enc Try.prog W base spare held 27 v d ps) : ∃ o : PutA, v = putV o ∧ PutOk o := by
  obtain ⟨fs, hu, _, _⟩ := onePut
  obtain ⟨cs, rfl, hcs⟩ := okWide_struct hu hval
  obtain ⟨fuel, hfu⟩ := hd
  obtain ⟨o, ho, hok⟩ := trod_put hfu
  refine ⟨o, ?_, hok⟩
  have hl : cs.toList = putC o := by simpa [Value.cells] using ho
  have : cs = (putC o).toArray := by rw [← hl]
  rw [this]
  rfl
/-- an ask, as an argument -/
theorem arg_ask (hval : Value.okWide Try.prog W .any b0 29 v) (hd : DataW.Trod enc Try.prog W base spare held 29 v d ps) : ∃ (u : ByteArray) (s : UInt64) (n : Int), v = .agg #[.string u, .int .u64 (s.toNat : Int), .int .i64 n] ∧ u.size ≤ 9223372036854775807 ∧ -9223372036854775808 ≤ n ∧ n ≤ 9223372036854775807 := by
  obtain ⟨fs, hu, hone, hsz, hty⟩ := oneAsk
  obtain ⟨cs, rfl, hcs⟩ := okWide_struct hu hval
  obtain ⟨fuel, hfu⟩ := hd
  obtain ⟨hl, hf⟩ := trod_fields hu hone (cellsAsk.trans hsz.symm) hfu
  rw [hty] at hf
  obtain ⟨u0, n0, y0, e0, t0⟩ := hf 0 _ rfl
  obtain ⟨u1, n1, y1, e1, t1⟩ := hf 1 _ rfl
  obtain ⟨u2, n2, y2, e2, t2⟩ := hf 2 _ rfl
  obtain ⟨s, hs, _, ls⟩ := DataW.trod_string Try.underlying9 t0
  obtain ⟨q, hq, _, wq⟩ := DataW.trod_int Try.underlying23 t1
  obtain ⟨m, hm, _, wm⟩ := DataW.trod_int Try.underlying3 t2
  obtain ⟨qb, rfl⟩ := u64_of q wq
  simp only [List.cons.injEq, and_true] at hs hq hm
  subst hs; subst hq; subst hm
  unfold maxLen at ls
  refine ⟨s, qb, m, ?_, by omega, i64_of m wm⟩
  rw [hsz] at hl
  have hl3 : cs.toList.length = 3 := by simpa [Value.cells] using hl
  have hcs3 : cs.toList = [.string s, .int .u64 (qb.toNat : Int), .int .i64 m] := by
    generalize hg : cs.toList = l at hl3
    match l, hl3 with
    | [c0, c1, c2], _ =>
      simp [Value.cells, hg] at e0 e1 e2
      rw [e0, e1, e2]
  have : cs = ([.string s, .int .u64 (qb.toNat : Int), .int .i64 m] : List Value).toArray := by rw [← hcs3]
  rw [this]
end
end Go.Proofs.Ytlphbkhcdnbbnaa
