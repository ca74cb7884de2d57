/-
  What is proved here: how an argument that is a head is opened, at this seat's numbers. No condition.
-/
import Derived.Test.YtjkcdnangmjoeaaDoorFields
import Derived.Test.YtjkcdnangmjoeaaDoorArgs
import Derived.Test.YtjkcdnangmjoeaaDoorM2
namespace Go.Proofs.YtjkcdnangmjoeaaDoor
open Go.ChangeShapes Go.WideShapes Go.ChangeAt Go.RowKit Go.Deep
theorem oneHd : ∃ fs, Tryd.prog.underlying 26 = some (.struct fs) ∧ oneCellFields Tryd.prog fs = true ∧ fs.size = 5 ∧ (fs.toList.map (·.type)) = [5, 5, 24, 24, 24] := ⟨_, Tryd.underlying26, by kernel_rfl, by kernel_rfl, by kernel_rfl⟩
theorem cellsHd : Tryd.prog.cellsOf 26 = 5 := by kernel_rfl
section
variable {H : Type} {enc : TypeId × Value → H} {W : World} {base b0 : Nat} {spare : Nat → Bool} {held : Bool} {v : Value} {d : DataW H} {ps : List MemPlace}
theorem trod_hd {fuel : Nat} {cs : List Value} {x : DataW H × List MemPlace} (h : DataW.trod enc Tryd.prog W base spare held fuel 26 cs = some x) :
    ∃ o : Hd, cs = [.int .u8 (o.k : Int), .int .u8 (o.lv : Int), .int .u64 (o.g : Int), .int .u64 (o.e : Int), .int .u64 (o.n : Int)] ∧ o.ok := by
  obtain ⟨fs, hu, hone, hsz, hty⟩ := oneHd
  obtain ⟨hl, hf⟩ := trod_fields hu hone (cellsHd.trans hsz.symm) h
  rw [hty] at hf
  obtain ⟨u0, n0, y0, e0, t0⟩ := hf 0 _ rfl
  obtain ⟨u1, n1, y1, e1, t1⟩ := hf 1 _ rfl
  obtain ⟨u2, n2, y2, e2, t2⟩ := hf 2 _ rfl
  obtain ⟨u3, n3, y3, e3, t3⟩ := hf 3 _ rfl
  obtain ⟨u4, n4, y4, e4, t4⟩ := hf 4 _ rfl
  obtain ⟨a0, h0, _, w0⟩ := DataW.trod_int Tryd.underlying5 t0
  obtain ⟨a1, h1, _, w1⟩ := DataW.trod_int Tryd.underlying5 t1
  obtain ⟨a2, h2, _, w2⟩ := DataW.trod_int Tryd.underlying24 t2
  obtain ⟨a3, h3, _, w3⟩ := DataW.trod_int Tryd.underlying24 t3
  obtain ⟨a4, h4, _, w4⟩ := DataW.trod_int Tryd.underlying24 t4
  obtain ⟨b0, rfl⟩ := u8_of a0 w0
  obtain ⟨b1, rfl⟩ := u8_of a1 w1
  obtain ⟨b2, rfl⟩ := u64_of a2 w2
  obtain ⟨b3, rfl⟩ := u64_of a3 w3
  obtain ⟨b4, rfl⟩ := u64_of a4 w4
  simp only [List.cons.injEq, and_true] at h0 h1 h2 h3 h4
  subst h0; subst h1; subst h2; subst h3; subst h4
  refine ⟨⟨b0.toNat, b1.toNat, b2.toNat, b3.toNat, b4.toNat⟩, ?_, UInt8.toNat_lt _, UInt8.toNat_lt _, UInt64.toNat_lt _, UInt64.toNat_lt _, UInt64.toNat_lt _⟩
  rw [hsz] at hl
  match cs, hl with
  | [c0, c1, c2, c3, c4], _ =>
    simp only [List.getElem?_cons_zero, List.getElem?_cons_succ, Option.some.injEq] at e0 e1 e2 e3 e4
    rw [e0, e1, e2, e3, e4]
/-- a head, as an argument -/
theorem arg_hd (hval : Value.okWide Tryd.prog W .any b0 26 v) (hd : DataW.Trod enc Tryd.prog W base spare held 26 v d ps) : ∃ o : Hd, v = hdV o ∧ o.ok := by
  obtain ⟨fs, hu, hone, hsz, hty⟩ := oneHd
  obtain ⟨cs, rfl, hcs⟩ := okWide_struct hu hval
  obtain ⟨fuel, hfu⟩ := hd
  obtain ⟨o, ho, hok⟩ := trod_hd hfu
  refine ⟨o, ?_, hok⟩
  have hl : cs.toList = [.int .u8 (o.k : Int), .int .u8 (o.lv : Int), .int .u64 (o.g : Int), .int .u64 (o.e : Int), .int .u64 (o.n : Int)] := by simpa [Value.cells] using ho
  have : cs = ([.int .u8 (o.k : Int), .int .u8 (o.lv : Int), .int .u64 (o.g : Int), .int .u64 (o.e : Int), .int .u64 (o.n : Int)] : List Value).toArray := by rw [← hl]
  rw [this]
end
end Go.Proofs.YtjkcdnangmjoeaaDoor
