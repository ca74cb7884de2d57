/-
  What is proved here: how a statement's arguments are opened: whole numbers, texts, slices of any element whose cells are known. No condition.
-/
import Derived.Test.YtoccmedadiangaaLawRow
import Derived.ChangeMaps5
namespace Go.Proofs.Ytoccmedadiangaa
open Go.ChangeShapes Go.WideShapes Go.ChangeAt Go.RowKit Go.Deep
section
variable {H : Type} {enc : TypeId × Value → H} {W : World} {base b0 : Nat} {spare : Nat → Bool} {held : Bool} {v : Value} {d : DataW H} {ps : List MemPlace}
theorem u16_of (n : Int) (h : (Lit.int .u16 n).wf = true) : ∃ x : UInt16, n = (x.toNat : Int) := by
  have hx : 0 ≤ n ∧ n ≤ 65535 := by simpa [Lit.wf, IntKind.min, IntKind.max, IntKind.signed, IntKind.bits] using h
  refine ⟨UInt16.ofNat n.toNat, ?_⟩
  rw [UInt16.toNat_ofNat']
  omega
theorem i64_of (n : Int) (h : (Lit.int .i64 n).wf = true) : -9223372036854775808 ≤ n ∧ n ≤ 9223372036854775807 := by
  simpa [Lit.wf, IntKind.min, IntKind.max, IntKind.signed, IntKind.bits] using h
theorem arg_i64 {t : TypeId} (ht : Try.prog.underlying t = some (.int .i64)) (hval : Value.okWide Try.prog W .any b0 t v) (hd : DataW.Trod enc Try.prog W base spare held t v d ps) : ∃ x : Int, v = .int .i64 x ∧ -9223372036854775808 ≤ x ∧ x ≤ 9223372036854775807 := by
  obtain ⟨n, rfl, _, _, hw⟩ := open_int ht hval hd
  exact ⟨n, rfl, i64_of n hw⟩
theorem arg_u8 {t : TypeId} (ht : Try.prog.underlying t = some (.int .u8)) (hval : Value.okWide Try.prog W .any b0 t v) (hd : DataW.Trod enc Try.prog W base spare held t v d ps) : ∃ x : UInt8, v = .int .u8 (x.toNat : Int) := by
  obtain ⟨n, rfl, _, _, hw⟩ := open_int ht hval hd
  obtain ⟨x, rfl⟩ := u8_of n hw
  exact ⟨x, rfl⟩
theorem arg_u16 {t : TypeId} (ht : Try.prog.underlying t = some (.int .u16)) (hval : Value.okWide Try.prog W .any b0 t v) (hd : DataW.Trod enc Try.prog W base spare held t v d ps) : ∃ x : UInt16, v = .int .u16 (x.toNat : Int) := by
  obtain ⟨n, rfl, _, _, hw⟩ := open_int ht hval hd
  obtain ⟨x, rfl⟩ := u16_of n hw
  exact ⟨x, rfl⟩
theorem arg_str (hval : Value.okWide Try.prog W .any b0 9 v) (hd : DataW.Trod enc Try.prog W base spare held 9 v d ps) : ∃ x : ByteArray, v = .string x ∧ x.size ≤ maxLen ∧ d = .lit (.string x.data.toList) := by
  obtain ⟨n, rfl, hd, _, hw⟩ := Go.ChangeMaps.open_string Try.underlying9 hval hd
  exact ⟨n, rfl, hw, hd⟩
/-- a slice whose elements' cells are known, as an argument -/
theorem arg_sl {α : Type} (f : α → List Value) (c : Nat) (hc0 : 0 < c) (hf : ∀ x, (f x).length = c) (Ok : α → Prop) {t e : TypeId} (ht : Try.prog.underlying t = some (.slice e)) (hce : Try.prog.cellsOf e = c)
    (hopen : ∀ (fuel : Nat) (cs : List Value) (x : DataW H × List MemPlace), DataW.trod enc Try.prog W base spare held fuel e cs = some x → ∃ o : α, cs = f o ∧ Ok o)
    (hval : Value.okWide Try.prog W .any b0 t v) (hd : DataW.Trod enc Try.prog W base spare held t v d ps) :
    ∃ l : List α, Sl W W.heap.size c v l.length (l.flatMap f) ∧ (∀ o ∈ l, Ok o) ∧ (l.length = 0 ∨ ∃ elems rest, d = .slice elems rest ∧ elems.length = l.length) := by
  obtain ⟨a0, len0, cap0, rfl⟩ := okWide_slice ht hval
  obtain ⟨fuel, hfu⟩ := hd
  rcases open_slice ht hfu with ⟨hcs, _⟩ | ⟨a, len, cap, m, n, D, Pl, hcs, hb, hl, hm, hmm, hx, hi⟩
  · have e : Value.slice a0 len0 cap0 = .slice none 0 0 := by simpa [Value.cells] using hcs
    rw [e]
    exact ⟨[], Sl.nil_ _ _ _, (fun o ho => by simp at ho), .inl rfl⟩
  · have e : Value.slice a0 len0 cap0 = .slice (some a) len cap := by simpa [Value.cells] using hcs
    rw [e]
    have hlm : len ≤ m := by rw [hmm]; split <;> omega
    rw [hce] at hi
    obtain ⟨l, hll, hp⟩ := exists_list (p := fun i (o : α) => Ok o ∧ ∀ j u, (f o)[j]? = some u → W.cell? ((a.add (i * c)).add j) = some u) len (fun i him => by
      obtain ⟨cs', hc, ht⟩ := hi i (by omega)
      obtain ⟨o, rfl, hok⟩ := hopen _ _ _ ht
      obtain ⟨_, hcl, hat⟩ := World.cells?_some hc
      refine ⟨o, hok, fun j u hu => ?_⟩
      have hj := (List.getElem?_eq_some_iff.1 hu).1
      rw [hat j (by rw [← hcl]; exact hj)]
      exact hu)
    refine ⟨l, ⟨some a, cap, by rw [hll], by omega, hm, ?_⟩, ?_, .inr ⟨_, _, (congrArg Prod.fst hx), by simp [hll]⟩⟩
    · have hspot : 0 < l.length → a.spot = none ∧ a.block < W.heap.size := fun h0 => by
        have h1 : 0 < (f l[0]).length := by rw [hf]; exact hc0
        have := (hp 0 h0).2 0 _ (List.getElem?_eq_getElem h1)
        rw [Nat.zero_mul] at this
        have e2 : (a.add 0).add 0 = a := by simp [Addr.add]
        rw [e2] at this
        exact addr_of_cell this
      refine Rd.of_elems f c hf hspot (fun k hk j u hu => ?_)
      have h1 := (hp k hk).2 j u hu
      have hs := (hspot (by omega)).1
      rw [add_spot hs, add_lit0, Nat.add_assoc] at h1
      exact h1
    · intro o ho
      obtain ⟨k, hk, rfl⟩ := List.getElem_of_mem ho
      exact (hp k hk).1
theorem flat_bv (l : List UInt8) : l.flatMap (fun b => [u8v b]) = bv l := by
  induction l with
  | nil => rfl
  | cons b l ih => rw [List.flatMap_cons, ih]; rfl
/-- a slice of bytes, as an argument -/
theorem arg_bytes (hval : Value.okWide Try.prog W .any b0 25 v) (hd : DataW.Trod enc Try.prog W base spare held 25 v d ps) :
    ∃ l : List UInt8, SB W W.heap.size v l ∧ (l.length = 0 ∨ ∃ elems rest, d = .slice elems rest ∧ elems.length = l.length) := by
  obtain ⟨l, h1, _, h3⟩ := arg_sl (fun b : UInt8 => [u8v b]) 1 (by omega) (fun _ => rfl) (fun _ => True) Try.underlying25 (by kernel_rfl) (fun fuel cs x h => by
    obtain ⟨n, rfl, _, hw⟩ := DataW.trod_int Try.underlying5 h
    obtain ⟨b, rfl⟩ := u8_of n hw
    exact ⟨b, rfl, trivial⟩) hval hd
  rw [flat_bv] at h1
  exact ⟨l, h1, h3⟩
end
end Go.Proofs.Ytoccmedadiangaa
