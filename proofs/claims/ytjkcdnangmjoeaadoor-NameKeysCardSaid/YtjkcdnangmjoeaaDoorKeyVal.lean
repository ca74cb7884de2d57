/-
  What is proved here: a key of two parts as a value: built of its parts, held against itself; a range of bytes loaded as an array, at this seat's numbers. No condition.
-/
import Derived.Test.YtjkcdnangmjoeaaDoorMacExpR
import Derived.Great.FillDense
import Derived.Deep.MidRow
namespace Go.Proofs.YtjkcdnangmjoeaaDoor
open Go.RowKit Go.Great

theorem infoKey : (Tryd.prog.info? 29).map (fun i => (i.zero, i.size)) = some (some (.agg (dgA (List.replicate 64 0))), 64) := by kernel_rfl
theorem keyFields : (Tryd.prog.fieldsOf 29).toList.map (fun f => ((f.name ≠ "_" : Bool), f.type, f.offset)) = [(true, 22, 0), (true, 22, 32)] := by kernel_rfl
theorem builtKey (c1 c2 : Array Value) (h1 : c1.size = 32) (h2 : c2.size = 32) : Tryd.prog.built 29 [(0, .agg c1), (1, .agg c2)] = some (c1 ++ c2) := by
  have h := fill_whole (s := 32) (by omega) [.agg c1, .agg c2] (dgA (List.replicate 64 0)) (fun v hv => by
    simp only [List.mem_cons, List.not_mem_nil, or_false] at hv
    rcases hv with rfl | rfl
    · exact h1
    · exact h2) (by rw [dgA_size]; rfl)
  have e : Tryd.prog.built 29 [(0, .agg c1), (1, .agg c2)] = Instr.fill (#[(0, 32), (32, 32)][·]?) (dgA (List.replicate 64 0)) [(0, .agg c1), (1, .agg c2)] := by
    kernel_rfl
  have e2 : Instr.fill (#[(0, 32), (32, 32)][·]?) (dgA (List.replicate 64 0)) [(0, .agg c1), (1, .agg c2)] = Instr.fill (fun i => some (i * 32, 32)) (dgA (List.replicate 64 0)) (([.agg c1, .agg c2].zipIdx 0).map fun x => (x.2, x.1)) := by
    simp [Instr.fill]
  rw [e, e2, h]
  simp [Value.cells]
theorem run_eq32 (w : World) (d : Nat) (l m : List UInt8) (hl : l.length = 32) (hm : m.length = 32) : (Op.equalIn (d + 2) 22 (.agg (dgA l)) (.agg (dgA m))).run Tryd.prog w = .ok (l == m) w := by
  obtain ⟨i0, hi0, _⟩ := info_parts infoB
  rw [run_equalIn_array w (d + 1) (dgA l) (dgA m) Tryd.underlying22 hi0]
  obtain ⟨r, hr, hiff⟩ := run_eqItemsB w d l m hl hm (List.range 32) (fun i hi => List.mem_range.1 hi)
  have hc : Tryd.prog.cellsOf 5 = 1 := by kernel_rfl
  rw [hc, hr]
  have e : r = (l == m) := by
    rw [Bool.eq_iff_iff, hiff, beq_iff_eq]
    constructor
    · intro h
      apply List.ext_getElem?
      intro i
      by_cases hi : i < 32
      · exact h i (List.mem_range.2 hi)
      · rw [List.getElem?_eq_none (by omega), List.getElem?_eq_none (by omega)]
    · intro h i _; rw [h]
  rw [e]
theorem info32 : (Tryd.prog.info? 22).map (·.size) = some 32 := by kernel_rfl
theorem run_part32 (w : World) (c : Array Value) (off : Nat) : (part 22 c off).run Tryd.prog w = .ok (.agg (c.extract off (off + 32))) w := by
  obtain ⟨i, hi, hs⟩ := Option.map_eq_some_iff.1 info32
  unfold part isAgg
  simp only [Sem.run_bind, run_underlying Tryd.underlying22, Result.andThen_ok, Sem.run_pure, if_true, sizeOf, typeInfo, run_program, hi, hs]
theorem run_eqKey (w : World) (l : List UInt8) (hl : l.length = 64) (c : Array Value) (hc : dgA l = c) : (Op.equalIn 10000 29 (.agg c) (.agg c)).run Tryd.prog w = .ok true w := by
  subst hc
  rw [show (10000 : Nat) = 9999 + 1 from rfl, run_equalIn_struct w 9999 29 _ _ (by kernel_rfl) (by kernel_rfl)]
  have hf := keyFields
  generalize (Tryd.prog.fieldsOf 29).toList = fs at hf
  obtain ⟨f0, f1, rfl⟩ : ∃ f0 f1, fs = [f0, f1] := by
    have h := congrArg List.length hf
    simp only [List.length_map, List.length_cons, List.length_nil] at h
    cases fs with
    | nil => simp at h
    | cons f0 r => cases r with
      | nil => simp at h
      | cons f1 r => cases r with
        | nil => exact ⟨f0, f1, rfl⟩
        | cons f2 r => simp at h
  simp only [List.map_cons, List.map_nil, List.cons.injEq, Prod.mk.injEq, decide_eq_true_eq, and_true] at hf
  obtain ⟨⟨n0, t0, o0⟩, ⟨n1, t1, o1⟩⟩ := hf
  have e0 : (dgA l).extract 0 (0 + 32) = dgA (l.take 32) := by simp [bv]
  have e1 : (dgA l).extract 32 (32 + 32) = dgA (l.drop 32) := by
    simp [bv, List.take_of_length_le, hl]
  have l0 : (l.take 32).length = 32 := by rw [List.length_take]; omega
  have l1 : (l.drop 32).length = 32 := by rw [List.length_drop]; omega
  have q0 : (Op.equalIn 9999 22 (.agg (dgA (l.take 32))) (.agg (dgA (l.take 32)))).run Tryd.prog w = .ok true w := by
    have h := run_eq32 w 9997 (l.take 32) (l.take 32) l0 l0
    rw [beq_self_eq_true] at h
    rw [show (9999 : Nat) = 9997 + 2 from rfl]
    exact h
  have q1 : (Op.equalIn 9999 22 (.agg (dgA (l.drop 32))) (.agg (dgA (l.drop 32)))).run Tryd.prog w = .ok true w := by
    have h := run_eq32 w 9997 (l.drop 32) (l.drop 32) l1 l1
    rw [beq_self_eq_true] at h
    rw [show (9999 : Nat) = 9997 + 2 from rfl]
    exact h
  have p0 := run_part32 w (dgA l) 0
  have p1 := run_part32 w (dgA l) 32
  rw [e0] at p0
  rw [e1] at p1
  generalize hA : dgA l = A at p0 p1
  generalize hB : Value.agg (dgA (l.take 32)) = B at p0 q0
  generalize hC : Value.agg (dgA (l.drop 32)) = C at p1 q1
  generalize (9999 : Nat) = D at q0 q1
  simp only [Op.eqFields]
  rw [if_pos n0, if_pos n1, t0, t1, o0, o1, Sem.run_bind, p0, Result.andThen_ok, Sem.run_bind, p0, Result.andThen_ok, Sem.run_bind, q0, Result.andThen_ok]
  simp only [Bool.not_true, Bool.false_eq_true, if_false]
  rw [Sem.run_bind, p1, Result.andThen_ok, Sem.run_bind, p1, Result.andThen_ok, Sem.run_bind, q1, Result.andThen_ok]
  simp only [Bool.not_true, Bool.false_eq_true, if_false, Sem.run_pure]
theorem exec_mid {o : Oper} {a : Act} {w : World} (x : Operand) (ho : o.op = .load 22 x) (g off : Nat) (hx : a.eval x = .pointer (some ⟨g, off, none⟩)) (l : List UInt8) (hl : l.length = 32) (hc : w.rangeAt g off (bv l)) :
    (execOp a.eval o).run Tryd.prog w = .ok (.value (.agg (dgA l))) w := by
  unfold execOp
  simp only [ho, hx, Sem.run_bind, Sem.run_pure, Result.andThen_ok, run_loadAt_mid w g off 22 (bv l) _ hc Tryd.underlying22 rfl (by rw [bv_length, hl]; kernel_rfl)]
theorem exec_buildKey {o : Oper} {a : Act} {w : World} (x y : Operand) (ho : o.op = .build 29 #[(0, x), (1, y)]) (c1 c2 : Array Value) (hx : a.eval x = .agg c1) (hy : a.eval y = .agg c2) (h1 : c1.size = 32) (h2 : c2.size = 32) :
    (execOp a.eval o).run Tryd.prog w = .ok (.value (.agg (c1 ++ c2))) w := by
  have h := run_build (P := Tryd.prog) w 29 #[(0, .agg c1), (1, .agg c2)] _ (builtKey c1 c2 h1 h2)
  unfold execOp
  simp only [ho, List.map_toArray, List.map_cons, List.map_nil, hx, hy, Sem.run_bind, Sem.run_pure, Result.andThen_ok, h]
theorem res_key {fn : Func} {p : Tmp} (h : fn.results = #[.cell p 29]) (tmps : Array Value) (w : World) (g : Nat) (cs : Array Value) (hp : tmps.getD p undef = .pointer (some ⟨g, 0, none⟩)) (hg : w.heap[g]? = some (rowT 29 cs)) (hn : cs.size = 64) :
    (results fn tmps).run Tryd.prog w = .ok (.agg cs) w :=
  results_cell_row h tmps w g _ cs (0, 0) _ hp hg Tryd.underlying29 rfl (by rw [hn]; kernel_rfl)
theorem SB.range {w : World} {B g o n c : Nat} {l : List UInt8} (h : SB w B (.slice (some ⟨g, o, none⟩) n c) l) (k : Nat) : w.rangeAt g (o + k) (bv (l.drop k)) := by
  obtain ⟨A', c', e, h1, h2, hr⟩ := h
  injection e with e1 _ e3
  subst e1
  intro j v hv
  have hj := (List.getElem?_eq_some_iff.1 hv).1
  rw [bv_length, List.length_drop] at hj
  have := (hr.2.2 _ rfl (by omega)).2.2 (k + j) v (by rw [← hv, bv_drop, List.getElem?_drop])
  rw [Nat.add_assoc]
  exact this
theorem range_take {w : World} {g o k : Nat} {l : List UInt8} (h : w.rangeAt g o (bv l)) : w.rangeAt g o (bv (l.take k)) := fun j v hv => h j v (by
  rw [bv_take, List.getElem?_take] at hv
  split at hv
  · exact hv
  · cases hv)
end Go.Proofs.YtjkcdnangmjoeaaDoor
