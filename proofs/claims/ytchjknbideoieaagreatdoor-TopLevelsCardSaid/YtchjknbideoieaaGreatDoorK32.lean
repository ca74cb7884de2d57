/-
  What is proved here: heads, and nonces, are compared: true just if they are the same, at this seat's numbers. No condition.
-/
import Derived.Test.YtchjknbideoieaaGreatDoorK30
import Derived.DeepKeys
namespace Go.Proofs.YtchjknbideoieaaGreatDoor
open Go.RowKit
theorem hd_eq_iff (h i : Hd) : h = i ↔ h.k = i.k ∧ h.lv = i.lv ∧ h.g = i.g ∧ h.e = i.e ∧ h.n = i.n := by
  obtain ⟨a, b, c, d, e⟩ := h
  obtain ⟨a', b', c', d', e'⟩ := i
  simp
set_option maxRecDepth 100000 in
theorem run_eqF (w : World) (d : Nat) (xs ys : Array Value) : ∀ (L : List (TypeId × Nat × IntKind × Int × Int)) (fs : List Field), fs.map (fun f => (f.name != "_", f.type, f.offset)) = L.map (fun p => (true, p.1, p.2.1)) →
    (∀ p ∈ L, Tryz.prog.plainKey p.1 = true ∧ xs[p.2.1]? = some (.int p.2.2.1 p.2.2.2.1) ∧ ys[p.2.1]? = some (.int p.2.2.1 p.2.2.2.2) ∧ Tryz.prog.underlying p.1 = some (.int p.2.2.1)) →
    (Op.eqFields (d + 1) xs ys fs).run Tryz.prog w = .ok (L.all (fun p => p.2.2.2.1 == p.2.2.2.2)) w
  | [], fs, hf, _ => by
    have e : fs = [] := by simpa using hf
    subst e
    simp [Op.eqFields]
  | p :: L, fs, hf, h => by
    cases fs with
    | nil => simp at hf
    | cons f fs =>
      simp only [List.map_cons, List.cons.injEq, Prod.mk.injEq] at hf
      obtain ⟨⟨h1, h2, h3⟩, h4⟩ := hf
      have h1' : f.name ≠ "_" := by simpa using h1
      obtain ⟨k1, k2, k3, k4⟩ := h p (by simp)
      have ih := run_eqF w d xs ys L fs h4 (fun q hq => h q (by simp [hq]))
      have p1 := run_part_plain (P := Tryz.prog) w (xs := xs) k1 k2
      have p2 := run_part_plain (P := Tryz.prog) w (xs := ys) k1 k3
      simp only [Op.eqFields]
      rw [if_pos h1', h2, h3, Sem.run_bind, p1, Result.andThen_ok, Sem.run_bind, p2, Result.andThen_ok, Sem.run_bind, run_equalIn_int w d _ _ _ _ _ k4, Result.andThen_ok]
      by_cases e : p.2.2.2.1 = p.2.2.2.2
      · simp [e, ih]
      · simp [e]
set_option maxRecDepth 100000 in
theorem run_eqH (w : World) (h i : Hd) : (Op.equalIn 10000 65 (hdV h) (hdV i)).run Tryz.prog w = .ok (decide (h = i)) w := by
  rw [show (10000 : Nat) = 9998 + 1 + 1 from rfl, run_equalIn_struct w 9999 65 _ _ (by kernel_rfl) (by kernel_rfl)]
  have h5 := run_eqF w 9998 #[.int .u8 (h.k : Int), .int .u8 (h.lv : Int), .int .u64 (h.g : Int), .int .u64 (h.e : Int), .int .u64 (h.n : Int)] #[.int .u8 (i.k : Int), .int .u8 (i.lv : Int), .int .u64 (i.g : Int), .int .u64 (i.e : Int), .int .u64 (i.n : Int)]
    [(5, 0, .u8, (h.k : Int), (i.k : Int)), (5, 1, .u8, (h.lv : Int), (i.lv : Int)), (23, 2, .u64, (h.g : Int), (i.g : Int)), (23, 3, .u64, (h.e : Int), (i.e : Int)), (23, 4, .u64, (h.n : Int), (i.n : Int))]
    (Tryz.prog.fieldsOf 65).toList (by kernel_rfl) (by
      intro p hp
      simp only [List.mem_cons, List.not_mem_nil, or_false] at hp
      rcases hp with rfl | rfl | rfl | rfl | rfl
      all_goals exact ⟨by kernel_rfl, rfl, rfl, by kernel_rfl⟩)
  rw [show (9999 : Nat) = 9998 + 1 from rfl, h5]
  congr 1
  rw [Bool.eq_iff_iff, decide_eq_true_eq, hd_eq_iff]
  simp
  omega
end Go.Proofs.YtchjknbideoieaaGreatDoor
