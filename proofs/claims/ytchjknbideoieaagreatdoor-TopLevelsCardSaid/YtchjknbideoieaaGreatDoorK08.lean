/-
  What is proved here: how a statement's arguments are opened (numbers, texts, slices of bytes, of operations, of entries), and that a call that returns true and turns nothing that was there meets the row. No condition.
  how the cells of a struct of one-cell fields are opened, field by field. No condition.
-/
import Derived.Test.YtchjknbideoieaaGreatDoorRows
import Derived.Test.YtchjknbideoieaaGreatDoorK03
import Derived.ProofKit
import Derived.JoinedCond
import Derived.SizedLaws
import Derived.Deep.Slices
import Derived.Deep.Fields
namespace Go.Proofs.YtchjknbideoieaaGreatDoor
open Go.ChangeShapes Go.WideShapes Go.ChangeAt Go.RowKit Go.Deep
set_option maxRecDepth 100000 in
theorem own : ownKnob Tryz.prog.godebug = none := by kernel_rfl
set_option maxRecDepth 100000 in
theorem laidOut : laidOutB Tryz.prog = true := by kernel_rfl
section
variable {H : Type} {enc : TypeId × Value → H} {P : Program}
theorem trodAll_below (hl : laidOutB P = true) {W W' : World} (hb : Below W.heap.size W W') : ∀ (ts : List TypeId) (vs : List Value) (ds : List (DataW H)) (ps : List MemPlace),
    (∀ t ∈ ts, P.readableRec t = true ∧ t < P.types.size) → (∀ x ∈ ps, x.block < W.heap.size) → DataW.TrodAll enc P W 0 (fun _ => true) true ts vs ds ps →
    DataW.TrodAll enc P W' 0 (fun b => decide (b < W.heap.size)) true ts vs ds ps
  | [], [], [], _, _, _, h => h
  | t :: ts, v :: vs, d :: ds, ps, ht, hps, ⟨p, q, h1, h2, e⟩ => by
    subst e
    refine ⟨p, q, Below.trod hl (ht t (by simp)).1 (ht t (by simp)).2 h1 hb (fun x hx => hps x (by simp [hx])), ?_, rfl⟩
    exact trodAll_below hl hb ts vs ds q (fun t' h' => ht t' (by simp [h'])) (fun x hx => hps x (by simp [hx])) h2
  | [], [], _ :: _, _, _, _, h => h.elim
  | [], _ :: _, _, _, _, _, h => h.elim
  | _ :: _, [], _, _, _, _, h => h.elim
  | _ :: _, _ :: _, [], _, _, _, h => h.elim
theorem law_post (hl : laidOutB P = true) {f : Func} {s : ChangeSpec} {W W' : World} {args : Array Value} {ds gs : List (DataW H)} {before : List MemPlace} {tb : TypeId}
    (hts : ∀ t ∈ f.params.toList, P.readableRec t = true ∧ t < P.types.size) (hres : f.resultTypes = #[tb]) (htb : P.underlying tb = some .bool) (hvars : s.vars = [])
    (hfn : s.fn H (ds ++ gs) = { results := [.lit (.bool true)], args := ds })
    (hW : DataW.Whole enc P f.params.toList s.vars false W args.toList ds gs before) (hb : Below W.heap.size W W') :
    s.post enc P f false true false false W args (.bool true) W' := by
  have hlt : ∀ p ∈ before, p.block < W.heap.size := fun p hp => hW.lt p hp
  obtain ⟨p, q, hA, hV, e, hfz, hnd⟩ := id hW
  refine ⟨ds, gs, before, [], p, q, hW, ?_, ?_, ?_, World.keptBut_mono (fun x hx => ⟨hx, ?_⟩) (hb.frame (· ∈ before)), fun h => by cases h⟩
  · rw [hfn, hres]
    exact trodAll_mk1 (shut_bool htb _)
  · rw [hfn]
    exact trodAll_below hl hb _ _ _ _ hts (fun x hx => hlt x (by rw [e]; simp [hx])) hA
  · rw [hfn, hvars]
    rw [hvars] at hV
    obtain ⟨_, rfl⟩ := trodVars_none hV
    rfl
  · rw [e, List.mem_append] at hx
    exact Or.inr hx
end
theorem exists_list {α : Type} {p : Nat → α → Prop} : ∀ (n : Nat), (∀ i, i < n → ∃ x, p i x) → ∃ l : List α, l.length = n ∧ ∀ i (hi : i < l.length), p i l[i]
  | 0, _ => ⟨[], rfl, fun i hi => by simp at hi⟩
  | n + 1, h => by
    obtain ⟨l, hl, hp⟩ := exists_list n (fun i hi => h i (by omega))
    obtain ⟨x, hx⟩ := h n (by omega)
    refine ⟨l ++ [x], by simp [hl], fun i hi => ?_⟩
    rcases Nat.lt_or_ge i l.length with h' | h'
    · rw [List.getElem_append_left h']
      exact hp i h'
    · have e : i = l.length := by simp at hi; omega
      subst e
      rw [List.getElem_append_right (Nat.le_refl _)]
      simp only [Nat.sub_self, List.getElem_cons_zero]
      rw [hl]
      exact hx
theorem Rd.of_elems {α : Type} (f : α → List Value) (c : Nat) (hf : ∀ x, (f x).length = c) {w : World} {B : Nat} {a : Addr} {l : List α} (hs : 0 < l.length → a.spot = none ∧ a.block < B)
    (h : ∀ k (hk : k < l.length) j u, (f l[k])[j]? = some u → w.cell? ⟨a.block, a.off + (k * c + j), none⟩ = some u) : Rd w B c (some a) l.length (l.flatMap f) := by
  refine ⟨flat_length f c hf l, (fun h => by cases h), fun ad e hn => ?_⟩
  injection e with e
  subst e
  refine ⟨(hs hn).1, (hs hn).2, fun j u hu => ?_⟩
  have hj := (List.getElem?_eq_some_iff.1 hu).1
  rw [flat_length f c hf] at hj
  have hc : 0 < c := by
    rcases Nat.eq_zero_or_pos c with h0 | h0
    · rw [h0, Nat.mul_zero] at hj; omega
    · exact h0
  have hk : j / c < l.length := by rw [Nat.div_lt_iff_lt_mul hc]; exact hj
  have e : j / c * c + j % c = j := by rw [Nat.mul_comm]; exact Nat.div_add_mod j c
  have := h (j / c) hk (j % c) u (by rw [← flat_get f c hf l _ _ hk (Nat.mod_lt _ hc), e]; exact hu)
  rwa [e] at this
theorem addr_of_cell {w : World} {a : Addr} {v : Value} (h : w.cell? a = some v) : a.spot = none ∧ a.block < w.heap.size := by
  refine ⟨?_, World.block_lt_of_cell? w a h⟩
  unfold World.cell? at h
  split at h
  · split at h
    · cases h
    · rename_i hx; simpa using hx
  · cases h
theorem add_spot {a : Addr} (h : a.spot = none) (j : Nat) : a.add j = ⟨a.block, a.off + j, none⟩ := by
  cases a; simp only at h; subst h; rw [add_lit0]
section
variable {H : Type} {enc : TypeId × Value → H} {W : World} {base b0 : Nat} {spare : Nat → Bool} {held : Bool} {v : Value} {d : DataW H} {ps : List MemPlace}
theorem u64_of (n : Int) (h : (Lit.int .u64 n).wf = true) : ∃ x : UInt64, n = (x.toNat : Int) := by
  have hx : 0 ≤ n ∧ n ≤ 18446744073709551615 := by simpa [Lit.wf, IntKind.min, IntKind.max, IntKind.signed, IntKind.bits] using h
  refine ⟨UInt64.ofNat n.toNat, ?_⟩
  rw [UInt64.toNat_ofNat']
  omega
theorem u8_of (n : Int) (h : (Lit.int .u8 n).wf = true) : ∃ x : UInt8, n = (x.toNat : Int) := by
  have hx : 0 ≤ n ∧ n ≤ 255 := by simpa [Lit.wf, IntKind.min, IntKind.max, IntKind.signed, IntKind.bits] using h
  refine ⟨UInt8.ofNat n.toNat, ?_⟩
  rw [UInt8.toNat_ofNat']
  omega
set_option maxRecDepth 100000 in
theorem arg_u64 (hval : Value.okWide Tryz.prog W .any b0 23 v) (hd : DataW.Trod enc Tryz.prog W base spare held 23 v d ps) : ∃ x : UInt64, v = .int .u64 (x.toNat : Int) := by
  obtain ⟨n, rfl, _, _, hw⟩ := open_int Tryz.underlying23 hval hd
  obtain ⟨x, rfl⟩ := u64_of n hw
  exact ⟨x, rfl⟩
theorem sized_len {P : Program} {ts : List TypeId} {ds : List (DataW H)} (hsz : (DataW.weightsEach P ts ds).all (· ≤ reachBytes) = true) {j : Nat} {t e : TypeId} {d : DataW H} {n : Nat} (ht : ts[j]? = some t) (hd : ds[j]? = some d) (hu : P.underlying t = some (.slice e))
    (h : n = 0 ∨ ∃ elems rest, d = .slice elems rest ∧ elems.length = n) : n * P.bytesOf e ≤ 140737488351232 := by
  rcases h with rfl | ⟨elems, rest, rfl, rfl⟩
  · simp
  · have h1 := sized_slice hsz ht hd hu
    unfold reachBytes at h1
    exact Nat.le_trans (Nat.mul_le_mul_right _ (Nat.le_add_right _ _)) h1
end
end Go.Proofs.YtchjknbideoieaaGreatDoor
namespace Go.Proofs.YtchjknbideoieaaGreatDoor
open Go.ChangeShapes Go.WideShapes Go.ChangeAt Go.RowKit Go.Deep
end Go.Proofs.YtchjknbideoieaaGreatDoor
