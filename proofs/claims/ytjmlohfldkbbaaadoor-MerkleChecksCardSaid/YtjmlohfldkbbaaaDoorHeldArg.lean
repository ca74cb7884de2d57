/-
  What is proved here: how an argument of type Held is opened, at this seat's numbers. No condition.
-/
import Derived.Test.YtjmlohfldkbbaaaDoorDigArg
namespace Go.Proofs.YtjmlohfldkbbaaaDoor
open Go.ChangeShapes Go.WideShapes Go.ChangeAt Go.RowKit Go.Deep
section
variable {H : Type} {enc : TypeId × Value → H} {W : World} {base b0 : Nat} {spare : Nat → Bool} {held : Bool} {v : Value} {d : DataW H} {ps : List MemPlace}
/-- the cells of a slice of digests -/
theorem trod_digs {fuel : Nat} {cs : List Value} {x : DataW H × List MemPlace} (h : DataW.trod enc Tryd.prog W base spare held fuel 22 cs = some x) : ∃ (u : Value) (l : List Dg), cs = [u] ∧ SD W W.heap.size u l := by
  have hce : Tryd.prog.cellsOf 31 = 32 := by kernel_rfl
  rcases open_slice Tryd.underlying22 h with ⟨hcs, _⟩ | ⟨a, len, cap, m, n, D, Pl, hcs, hb, hl, hm, hmm, hx, hi⟩
  · exact ⟨_, [], hcs, SD.nil_ _ _⟩
  · have hlm : len ≤ m := by rw [hmm]; split <;> omega
    rw [hce] at hi
    obtain ⟨l, hll, hp⟩ := exists_list (p := fun i (o : Dg) => ∀ j u, (bv o.1)[j]? = some u → W.cell? ((a.add (i * 32)).add j) = some u) len (fun i him => by
      obtain ⟨cs', hc, ht⟩ := hi i (by omega)
      obtain ⟨l, hl, rfl⟩ := trod_bytesA Tryd.underlying31 (by kernel_rfl) ht
      obtain ⟨_, hcl, hat⟩ := World.cells?_some hc
      refine ⟨⟨l, hl⟩, fun j u hu => ?_⟩
      have hj := (List.getElem?_eq_some_iff.1 hu).1
      rw [hat j (by rw [← hcl]; exact hj)]
      exact hu)
    refine ⟨_, l, hcs, ⟨some a, cap, by rw [hll], by omega, hm, ?_⟩⟩
    have hspot : 0 < l.length → a.spot = none ∧ a.block < W.heap.size := fun h0 => by
      have h1 : 0 < (bv l[0].1).length := by rw [dbv_len]; omega
      have := hp 0 h0 0 _ (List.getElem?_eq_getElem h1)
      rw [Nat.zero_mul] at this
      have e2 : (a.add 0).add 0 = a := by simp [Addr.add]
      rw [e2] at this
      exact addr_of_cell this
    refine Rd.of_elems (fun d : Dg => bv d.1) 32 dbv_len hspot (fun k hk j u hu => ?_)
    have h1 := hp k hk j u hu
    have hs := (hspot (by omega)).1
    rw [add_spot hs, add_lit0, Nat.add_assoc] at h1
    exact h1
def heldC (root : Dg) (n at_ : Int) (leaf : Dg) (u : Value) : List Value := bv root.1 ++ (.int .i64 n :: .int .i64 at_ :: (bv leaf.1 ++ [u]))
theorem oneHeld : ∃ fs, Tryd.prog.underlying 33 = some (.struct fs) ∧ fs.size = 5 ∧ (fs.toList.map (fun f => (f.type, f.offset))) = [(31, 0), (3, 32), (3, 33), (31, 34), (22, 66)] := ⟨_, Tryd.underlying33, by kernel_rfl, by kernel_rfl⟩
theorem arg_held (hval : Value.okWide Tryd.prog W .any b0 33 v) (hd : DataW.Trod enc Tryd.prog W base spare held 33 v d ps) :
    ∃ (root leaf : Dg) (n at_ : Int) (u : Value) (l : List Dg), v = .agg (heldC root n at_ leaf u).toArray ∧ n ≤ 9223372036854775807 ∧ SD W W.heap.size u l := by
  obtain ⟨fs, hu, hsz, hty⟩ := oneHeld
  obtain ⟨cs, rfl, _⟩ := okWide_struct hu hval
  obtain ⟨fuel, hfu⟩ := hd
  obtain ⟨xs, n, _, _, hlen, hxl, hf⟩ := DataW.trod_struct hu hfu
  have hc67 : Tryd.prog.cellsOf 33 = 67 := by kernel_rfl
  have hcD : Tryd.prog.cellsOf 31 = 32 := by kernel_rfl
  have hcI : Tryd.prog.cellsOf 3 = 1 := by kernel_rfl
  have hcS : Tryd.prog.cellsOf 22 = 1 := by kernel_rfl
  rw [hc67] at hlen
  have hpart : ∀ (i : Nat) (t : TypeId) (o : Nat), (fs.toList.map (fun f => (f.type, f.offset)))[i]? = some (t, o) → ∃ y, DataW.trod enc Tryd.prog W base spare held n t (((Value.agg cs).cells.toList.drop o).take (Tryd.prog.cellsOf t)) = some y := by
    intro i t o hi
    rw [List.getElem?_map, Array.getElem?_toList] at hi
    obtain ⟨f, hfi, he⟩ := Option.map_eq_some_iff.1 hi
    injection he with h1 h2
    subst h1; subst h2
    have hlt : i < fs.size := (Array.getElem?_eq_some_iff.1 hfi).1
    exact ⟨_, (hf i f hfi).trans (List.getElem?_eq_getElem (by omega))⟩
  rw [hty] at hpart
  obtain ⟨y0, t0⟩ := hpart 0 _ _ rfl
  obtain ⟨y1, t1⟩ := hpart 1 _ _ rfl
  obtain ⟨y2, t2⟩ := hpart 2 _ _ rfl
  obtain ⟨y3, t3⟩ := hpart 3 _ _ rfl
  obtain ⟨y4, t4⟩ := hpart 4 _ _ rfl
  rw [hcD] at t0 t3
  rw [hcI] at t1 t2
  rw [hcS] at t4
  obtain ⟨l0, hl0, e0⟩ := trod_bytesA Tryd.underlying31 (by kernel_rfl) t0
  obtain ⟨m1, e1, _, w1⟩ := DataW.trod_int Tryd.underlying3 t1
  obtain ⟨m2, e2, _, w2⟩ := DataW.trod_int Tryd.underlying3 t2
  obtain ⟨l3, hl3, e3⟩ := trod_bytesA Tryd.underlying31 (by kernel_rfl) t3
  obtain ⟨u, l, e4, hs⟩ := trod_digs t4
  refine ⟨⟨l0, hl0⟩, ⟨l3, hl3⟩, m1, m2, u, l, ?_, (i64_of m1 w1).2, hs⟩
  have hC : (Value.agg cs).cells.toList = cs.toList := rfl
  rw [hC] at hlen e0 e1 e2 e3 e4
  have : cs.toList = heldC ⟨l0, hl0⟩ m1 m2 ⟨l3, hl3⟩ u := by
    unfold heldC
    show cs.toList = bv l0 ++ ([Value.int .i64 m1] ++ ([Value.int .i64 m2] ++ (bv l3 ++ [u])))
    rw [← e0, ← e1, ← e2, ← e3, ← e4]
    generalize cs.toList = L at hlen
    have k4 : (L.drop 66).take 1 = L.drop 66 := List.take_of_length_le (by rw [List.length_drop]; omega)
    have k3 : (L.drop 34).take 32 ++ L.drop 66 = L.drop 34 := by
      have := List.take_append_drop 32 (L.drop 34)
      rwa [List.drop_drop] at this
    have k2 : (L.drop 33).take 1 ++ L.drop 34 = L.drop 33 := by
      have := List.take_append_drop 1 (L.drop 33)
      rwa [List.drop_drop] at this
    have k1 : (L.drop 32).take 1 ++ L.drop 33 = L.drop 32 := by
      have := List.take_append_drop 1 (L.drop 32)
      rwa [List.drop_drop] at this
    rw [k4, k3, k2, k1, List.drop_zero, List.take_append_drop]
  have e : cs = (heldC ⟨l0, hl0⟩ m1 m2 ⟨l3, hl3⟩ u).toArray := by rw [← this]
  rw [e]
end
end Go.Proofs.YtjmlohfldkbbaaaDoor
