/-
  What is proved here: a list of byte slices, as an argument, at this seat's numbers. No condition.
-/
import Derived.Test.YthhcoljhfokacaaDoorShaLaid
import Derived.Test.YthhcoljhfokacaaDoorShaSumW4
namespace Go.Proofs.YthhcoljhfokacaaDoor
open Go.ChangeShapes Go.WideShapes Go.ChangeAt Go.RowKit Go.Deep
section
variable {H : Type} {enc : TypeId × Value → H} {W : World} {base b0 : Nat} {spare : Nat → Bool} {held : Bool} {v : Value} {d : DataW H} {ps : List MemPlace}
theorem trod_bytes {fuel : Nat} {cs : List Value} {x : DataW H × List MemPlace} (h : DataW.trod enc Tryd.prog W base spare held fuel 22 cs = some x) : ∃ (u : Value) (l : List UInt8), cs = [u] ∧ SB W W.heap.size u l := by
  rcases open_slice Tryd.underlying22 h with ⟨hcs, _⟩ | ⟨a, len, cap, m, n, D, Pl, hcs, hb, hl, hm, hmm, hx, hi⟩
  · exact ⟨_, [], hcs, SB.nil_ _ _⟩
  · have hce : Tryd.prog.cellsOf 5 = 1 := by kernel_rfl
    have hlm : len ≤ m := by rw [hmm]; split <;> omega
    rw [hce] at hi
    obtain ⟨l, hll, hp⟩ := exists_list (p := fun i (o : UInt8) => ∀ j w, [u8v o][j]? = some w → W.cell? ((a.add (i * 1)).add j) = some w) len (fun i him => by
      obtain ⟨cs', hc, ht⟩ := hi i (by omega)
      obtain ⟨n, rfl, _, hw⟩ := DataW.trod_int Tryd.underlying5 ht
      obtain ⟨o, rfl⟩ := u8_of n hw
      obtain ⟨_, hcl, hat⟩ := World.cells?_some hc
      refine ⟨o, fun j u hu => ?_⟩
      have hj := (List.getElem?_eq_some_iff.1 hu).1
      rw [hat j (by rw [← hcl]; exact hj)]
      exact hu)
    refine ⟨_, l, hcs, ?_⟩
    unfold SB
    rw [← flat_bv, hll]
    refine ⟨some a, cap, rfl, by omega, hm, ?_⟩
    have hspot : 0 < l.length → a.spot = none ∧ a.block < W.heap.size := fun h0 => by
      have := (hp 0 h0) 0 (u8v l[0]) rfl
      rw [Nat.zero_mul] at this
      have e2 : (a.add 0).add 0 = a := by simp [Addr.add]
      rw [e2] at this
      exact addr_of_cell this
    have h2 := Rd.of_elems (fun b : UInt8 => [u8v b]) 1 (fun _ => rfl) hspot (fun k hk j u hu => by
      have h1 := (hp k hk) j u hu
      have hs := (hspot (by omega)).1
      rw [add_spot hs, add_lit0, Nat.add_assoc] at h1
      exact h1)
    rw [hll] at h2
    exact h2
theorem flat_fst : ∀ l : List (Value × List UInt8), l.flatMap (fun o => [o.1]) = l.map (·.1)
  | [] => rfl
  | b :: l => by rw [List.flatMap_cons, flat_fst l]; rfl
/-- a number, as an argument -/
theorem arg_uint (hval : Value.okWide Tryd.prog W .any b0 36 v) (hd : DataW.Trod enc Tryd.prog W base spare held 36 v d ps) : ∃ x : UInt64, v = .int .u64 (x.toNat : Int) := by
  obtain ⟨n, rfl, _, _, hw⟩ := open_int Tryd.underlying36 hval hd
  obtain ⟨x, rfl⟩ := u64_of n hw
  exact ⟨x, rfl⟩
/-- a list of byte slices, as an argument -/
theorem arg_bbs (hval : Value.okWide Tryd.prog W .any b0 33 v) (hd : DataW.Trod enc Tryd.prog W base spare held 33 v d ps) : ∃ ls : List (List UInt8), LL W W.heap.size v ls := by
  obtain ⟨l, h1, h2, _⟩ := arg_sl (fun o : Value × List UInt8 => [o.1]) 1 (by omega) (fun _ => rfl) (fun o => SB W W.heap.size o.1 o.2) Tryd.underlying33 (by kernel_rfl) (fun fuel cs x h => by
    obtain ⟨u, l, rfl, hs⟩ := trod_bytes h
    exact ⟨(u, l), rfl, hs⟩) hval hd
  have e : l.flatMap (fun o : Value × List UInt8 => [o.1]) = l.map (·.1) := flat_fst l
  rw [e] at h1
  refine ⟨l.map (·.2), l.map (·.1), by rw [List.length_map]; exact h1, by simp, fun i u m hu hm => ?_⟩
  rw [List.getElem?_map] at hu hm
  obtain ⟨o, ho, rfl⟩ := Option.map_eq_some_iff.1 hu
  rw [ho] at hm
  injection hm with hm
  subst hm
  exact h2 o (List.mem_of_getElem? ho)
end
end Go.Proofs.YthhcoljhfokacaaDoor
