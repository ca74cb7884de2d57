/-
  What is proved here: heads, and nonces, are compared: true just if they are the same, at this seat's numbers. No condition.
-/
import Derived.Test.YtjkcdnangmjoeaaNameW10
import Derived.DeepKeys
namespace Go.Proofs.Ytjkcdnangmjoeaa
open Go.RowKit

theorem hd_eq_iff (h i : Hd) : h = i ↔ h.k = i.k ∧ h.lv = i.lv ∧ h.g = i.g ∧ h.e = i.e ∧ h.n = i.n := by
  obtain ⟨a, b, c, d, e⟩ := h
  obtain ⟨a', b', c', d', e'⟩ := i
  simp
theorem run_eqF (w : World) (d : Nat) (xs ys : Array Value) : ∀ (L : List (TypeId × Nat × IntKind × Int × Int)) (fs : List Field), fs.map (fun f => (f.name != "_", f.type, f.offset)) = L.map (fun p => (true, p.1, p.2.1)) →
    (∀ p ∈ L, Try.prog.plainKey p.1 = true ∧ xs[p.2.1]? = some (.int p.2.2.1 p.2.2.2.1) ∧ ys[p.2.1]? = some (.int p.2.2.1 p.2.2.2.2) ∧ Try.prog.underlying p.1 = some (.int p.2.2.1)) →
    (Op.eqFields (d + 1) xs ys fs).run Try.prog w = .ok (L.all (fun p => p.2.2.2.1 == p.2.2.2.2)) w
  | [], fs, hf, _ => by
    have e : fs = [] := by simpa using hf
    subst e
    simp [Op.eqFields]
  | p :: L, fs, hf, h => by
    cases fs with
    | nil => simp at hf
    | cons f fs =>
      simp only [List.map_cons, List.cons.injEq, Prod.mk.injEq] at hf
      obtain ⟨⟨h1, h2, h3⟩, h4⟩ := hf
      have h1' : f.name ≠ "_" := by simpa using h1
      obtain ⟨k1, k2, k3, k4⟩ := h p (by simp)
      have ih := run_eqF w d xs ys L fs h4 (fun q hq => h q (by simp [hq]))
      have p1 := run_part_plain (P := Try.prog) w (xs := xs) k1 k2
      have p2 := run_part_plain (P := Try.prog) w (xs := ys) k1 k3
      simp only [Op.eqFields]
      rw [if_pos h1', h2, h3, Sem.run_bind, p1, Result.andThen_ok, Sem.run_bind, p2, Result.andThen_ok, Sem.run_bind, run_equalIn_int w d _ _ _ _ _ k4, Result.andThen_ok]
      by_cases e : p.2.2.2.1 = p.2.2.2.2
      · simp [e, ih]
      · simp [e]
theorem run_eqH (w : World) (h i : Hd) : (Op.equalIn 10000 36 (hdV h) (hdV i)).run Try.prog w = .ok (decide (h = i)) w := by
  rw [show (10000 : Nat) = 9998 + 1 + 1 from rfl, run_equalIn_struct w 9999 36 _ _ (by kernel_rfl) (by kernel_rfl)]
  have h5 := run_eqF w 9998 #[.int .u8 (h.k : Int), .int .u8 (h.lv : Int), .int .u64 (h.g : Int), .int .u64 (h.e : Int), .int .u64 (h.n : Int)] #[.int .u8 (i.k : Int), .int .u8 (i.lv : Int), .int .u64 (i.g : Int), .int .u64 (i.e : Int), .int .u64 (i.n : Int)]
    [(5, 0, .u8, (h.k : Int), (i.k : Int)), (5, 1, .u8, (h.lv : Int), (i.lv : Int)), (22, 2, .u64, (h.g : Int), (i.g : Int)), (22, 3, .u64, (h.e : Int), (i.e : Int)), (22, 4, .u64, (h.n : Int), (i.n : Int))]
    (Try.prog.fieldsOf 36).toList (by kernel_rfl) (by
      intro p hp
      simp only [List.mem_cons, List.not_mem_nil, or_false] at hp
      rcases hp with rfl | rfl | rfl | rfl | rfl
      all_goals exact ⟨by kernel_rfl, rfl, rfl, by kernel_rfl⟩)
  rw [show (9999 : Nat) = 9998 + 1 from rfl, h5]
  congr 1
  rw [Bool.eq_iff_iff, decide_eq_true_eq, hd_eq_iff]
  simp
  omega
theorem run_eqItemsN (w : World) (d : Nat) (l m : List UInt8) (hl : l.length = 12) (hm : m.length = 12) : ∀ is : List Nat, (∀ i ∈ is, i < 12) →
    ∃ r : Bool, (Op.eqItems (d + 1) 5 1 (nonA l) (nonA m) is).run Try.prog w = .ok r w ∧ (r = true ↔ ∀ i ∈ is, l[i]? = m[i]?)
  | [], _ => ⟨true, by simp [Op.eqItems], by simp⟩
  | i :: is, h => by
    have hi := h i (by simp)
    obtain ⟨r, hr, hiff⟩ := run_eqItemsN w d l m hl hm is (fun j hj => h j (by simp [hj]))
    have he : Try.prog.plainKey 5 = true := by kernel_rfl
    have p1 : (part 5 (nonA l) (i * 1)).run Try.prog w = .ok (u8v (l[i]'(by omega))) w := run_part_plain w he (by rw [Nat.mul_one]; simpa using bv_get l i (by omega))
    have p2 : (part 5 (nonA m) (i * 1)).run Try.prog w = .ok (u8v (m[i]'(by omega))) w := run_part_plain w he (by rw [Nat.mul_one]; simpa using bv_get m i (by omega))
    simp only [Op.eqItems, Sem.run_bind, p1, p2, Result.andThen_ok, run_equalIn_int w d 5 .u8 .u8 _ _ Try.underlying5]
    by_cases e : l[i]'(by omega) = m[i]'(by omega)
    · refine ⟨r, by simp [e, hr], ?_⟩
      rw [hiff]
      simp [List.getElem?_eq_getElem (show i < l.length by omega), List.getElem?_eq_getElem (show i < m.length by omega), e]
    · have e2 : ¬ ((l[i]'(by omega)).toNat : Int) = ((m[i]'(by omega)).toNat : Int) := fun h2 => e (UInt8.toNat_inj.1 (by omega))
      refine ⟨false, by simp [e2], ?_⟩
      simp [List.getElem?_eq_getElem (show i < l.length by omega), List.getElem?_eq_getElem (show i < m.length by omega), e]
theorem run_eqN (w : World) (l m : List UInt8) (hl : l.length = 12) (hm : m.length = 12) : (Op.equalIn 10000 32 (.agg (nonA l)) (.agg (nonA m))).run Try.prog w = .ok (decide (l = m)) w := by
  obtain ⟨i0, hi0, _⟩ := info_parts infoB
  rw [show (10000 : Nat) = 9999 + 1 from rfl, run_equalIn_array w 9999 (nonA l) (nonA m) Try.underlying32 hi0]
  obtain ⟨r, hr, hiff⟩ := run_eqItemsN w 9998 l m hl hm (List.range 12) (fun i hi => List.mem_range.1 hi)
  have hc : Try.prog.cellsOf 5 = 1 := by kernel_rfl
  rw [hc, show (9999 : Nat) = 9998 + 1 from rfl, hr]
  have e : r = decide (l = m) := by
    rw [Bool.eq_iff_iff, hiff, decide_eq_true_eq]
    constructor
    · intro h
      apply List.ext_getElem?
      intro i
      by_cases hi : i < 12
      · exact h i (List.mem_range.2 hi)
      · rw [List.getElem?_eq_none (by omega), List.getElem?_eq_none (by omega)]
    · intro h i _; rw [h]
  rw [e]
theorem run_eqNonce (w : World) (a b : Nat) (ha : a < 18446744073709551616) (hb : b < 18446744073709551616) (ca cb : Array Value) (hca : nonA (nonceOf a) = ca) (hcb : nonA (nonceOf b) = cb) : (Op.equalIn 10000 32 (.agg ca) (.agg cb)).run Try.prog w = .ok (decide (a = b)) w := by
  subst hca; subst hcb
  have h := run_eqN w _ _ (nonce_len a) (nonce_len b)
  rw [show decide (a = b) = decide (nonceOf a = nonceOf b) from by rw [decide_eq_decide]; exact (nonce_inj a b ha hb).symm]
  exact h
end Go.Proofs.Ytjkcdnangmjoeaa
