/-
  What is proved here: digests are compared; lists of byte slices as the laws make them; what shown of tantaluslaw03 comes to, at this seat's numbers. Condition: the table of constants.
-/
import Derived.Test.YtjkcdnangmjoeaaDoorShaSumW3
import Derived.Test.YtjkcdnangmjoeaaDoorShaSumW4
import Derived.DeepKeys
import Derived.Lib.SmallJoins
namespace Go.Proofs.YtjkcdnangmjoeaaDoor
open Go.RowKit

theorem run_eqItemsB (w : World) (d : Nat) (l m : List UInt8) (hl : l.length = 32) (hm : m.length = 32) : ∀ is : List Nat, (∀ i ∈ is, i < 32) →
    ∃ r : Bool, (Op.eqItems (d + 1) 5 1 (dgA l) (dgA m) is).run Tryd.prog w = .ok r w ∧ (r = true ↔ ∀ i ∈ is, l[i]? = m[i]?)
  | [], _ => ⟨true, by simp [Op.eqItems], by simp⟩
  | i :: is, h => by
    have hi := h i (by simp)
    obtain ⟨r, hr, hiff⟩ := run_eqItemsB w d l m hl hm is (fun j hj => h j (by simp [hj]))
    have he : Tryd.prog.plainKey 5 = true := by kernel_rfl
    have p1 : (part 5 (dgA l) (i * 1)).run Tryd.prog w = .ok (u8v (l[i]'(by omega))) w := run_part_plain w he (by rw [Nat.mul_one]; simpa using bv_get l i (by omega))
    have p2 : (part 5 (dgA m) (i * 1)).run Tryd.prog w = .ok (u8v (m[i]'(by omega))) w := run_part_plain w he (by rw [Nat.mul_one]; simpa using bv_get m i (by omega))
    simp only [Op.eqItems, Sem.run_bind, p1, p2, Result.andThen_ok, run_equalIn_int w d 5 .u8 .u8 _ _ Tryd.underlying5]
    by_cases e : l[i]'(by omega) = m[i]'(by omega)
    · refine ⟨r, by simp [e, hr], ?_⟩
      rw [hiff]
      simp [List.getElem?_eq_getElem (show i < l.length by omega), List.getElem?_eq_getElem (show i < m.length by omega), e]
    · have e2 : ¬ ((l[i]'(by omega)).toNat : Int) = ((m[i]'(by omega)).toNat : Int) := fun h2 => e (UInt8.toNat_inj.1 (by omega))
      refine ⟨false, by simp [e2], ?_⟩
      simp [List.getElem?_eq_getElem (show i < l.length by omega), List.getElem?_eq_getElem (show i < m.length by omega), e]
theorem run_eqD (w : World) (l m : List UInt8) (hl : l.length = 32) (hm : m.length = 32) : (Op.equalIn 10000 23 (digV l) (digV m)).run Tryd.prog w = .ok (l == m) w := by
  obtain ⟨i0, hi0, _⟩ := info_parts infoB
  rw [show (10000 : Nat) = 9999 + 1 from rfl, run_equalIn_array w 9999 (dgA l) (dgA m) Tryd.underlying23 hi0]
  obtain ⟨r, hr, hiff⟩ := run_eqItemsB w 9998 l m hl hm (List.range 32) (fun i hi => List.mem_range.1 hi)
  have hc : Tryd.prog.cellsOf 5 = 1 := by kernel_rfl
  rw [hc, show (9999 : Nat) = 9998 + 1 from rfl, hr]
  have e : r = (l == m) := by
    rw [Bool.eq_iff_iff, hiff, beq_iff_eq]
    constructor
    · intro h
      apply List.ext_getElem?
      intro i
      by_cases hi : i < 32
      · exact h i (List.mem_range.2 hi)
      · rw [List.getElem?_eq_none (by omega), List.getElem?_eq_none (by omega)]
    · intro h i _; rw [h]
  rw [e]
theorem run_eqC (w : World) (c : Array Value) (l : List UInt8) (hl : l.length = 32) (hc : dgA l = c) : (Op.equalIn 10000 23 (.agg c) (.agg c)).run Tryd.prog w = .ok true w := by
  subst hc
  rw [run_eqD w l l hl hl]
  simp
theorem kSumC (ls : List (List UInt8)) (c : Array Value) (hc : dgA (shaOf ls.flatten) = c) (v : Value) (w : World) (h : LL w w.heap.size v ls) (hl : ls.flatten.length ≤ 1152921504606846000) (hk : KTab w 1) (h1 : 1 < w.heap.size) :
    Calls Tryd.prog 40 #[v] w fun e w' => e = .returned (.agg c) ∧ Below w.heap.size w w' := by
  subst hc; exact kSum_any ls v w h hl hk h1
/-- bytes that fill a block -/
theorem SB.cells {w : World} {g B : Nat} {l : List UInt8} {C : Array Value} {t : TypeId} {fr : Nat × Nat} {n : Nat} (h : w.heap[g]? = some (.cells C t fr)) (hC : C.toList = bv l) (hn : n = l.length) (hB : g < B) (hl : l.length ≤ maxLen) : SB w B (.slice (some ⟨g, 0, none⟩) n n) l := by
  subst hn
  refine ⟨_, _, rfl, Nat.le_refl _, hl, ⟨by rw [bv_length, Nat.mul_one], ⟨fun e => (by cases e), fun ad e _ => ?_⟩⟩⟩
  injection e with e
  subst e
  refine ⟨rfl, hB, fun j u hu => ?_⟩
  show w.cell? ⟨g, 0 + j, none⟩ = some u
  rw [Nat.zero_add, cell_of_row _ _ j _ _ _ h, ← hu, ← hC]
  simp
/-- a list of byte slices that was laid just now -/
theorem LL.new {w : World} {g : Nat} (us : List Value) (ls : List (List UInt8)) (t : TypeId) (hg : g = w.heap.size) {n : Nat} (hn1 : n = us.length) (hn : us.length = ls.length) (hm : us.length ≤ maxLen) (h : ∀ (i : Nat) (u : Value) (l : List UInt8), us[i]? = some u → ls[i]? = some l → SB w w.heap.size u l) :
    LL (w.alloc (.cells us.toArray t)) (w.alloc (.cells us.toArray t)).heap.size (.slice (some ⟨g, 0, none⟩) n n) ls := by
  subst hg
  subst hn1
  have hz := World.size_alloc w (.cells us.toArray t)
  refine ⟨us, ⟨_, _, by rw [hn], by omega, hm, ?_⟩, hn, fun i u l h1 h2 => ((h i u l h1 h2).alloc (Nat.le_refl _) _).more (by omega)⟩
  have := Rd.newBlock w us.toArray t (g := w.heap.size) (n := us.length) (size := 1) (B := (w.alloc (.cells us.toArray t)).heap.size) rfl (by omega) (by simp)
  rw [← hn]
  simpa using this
/-- a digest's first 8 bytes -/
theorem SB.head {w : World} {g B : Nat} {bs : List UInt8} {c : Array Value} (h : w.heap[g]? = some (rowO c)) (hc : dgA (shaOf bs) = c) (hB : g < B) : SB w B (.slice (some ⟨g, 0, none⟩) 8 32) ((shaOf bs).take 8) := by
  have hl := shaOf_length bs
  have h1 : SB w B (.slice (some ⟨g, 0, none⟩) 32 32) (shaOf bs) := SB.cells h (by rw [← hc]) hl.symm hB (by rw [hl]; simp [maxLen])
  unfold SB at h1
  rw [hl] at h1
  have h2 := Sl.take h1 (k := 8) (by omega) rfl
  unfold SB
  rw [List.length_take, hl, bv_take]
  exact h2
theorem LL.drewN {w : World} {B : Nat} {v : Value} {ls : List (List UInt8)} (h : LL w B v ls) (n : Nat) : LL (w.drewN n) B v ls := h
theorem LL.drew {w : World} {B : Nat} {v : Value} {ls : List (List UInt8)} (h : LL w B v ls) : LL w.drew B v ls := h
end Go.Proofs.YtjkcdnangmjoeaaDoor
