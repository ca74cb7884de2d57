/-
  What is proved here: what State.Sum of package sha comes to, at this seat's numbers. Conditions: the bytes' length; the table of constants.
-/
import Derived.Test.YtjkcdnangmjoeaaDoorShaW4
import Derived.Test.YtjkcdnangmjoeaaDoorRegion
import Derived.Laws.CopyOwn
namespace Go.Proofs.YtjkcdnangmjoeaaDoor
open Go.RowKit

abbrev dgA (l : List UInt8) : Array Value := (bv l).toArray
abbrev digV (l : List UInt8) : Value := .agg (dgA l)
abbrev rowO (c : Array Value) : Obj := .cells c 23 (0, 0)
theorem dg_cell {w : World} {D : Nat} {l : List UInt8} (h : w.heap[D]? = some (rowO (dgA l))) {k : Nat} (hk : k < l.length) :
    w.cell? ⟨D, k, none⟩ = some (u8v l[k]) ∧ w.frozen? ⟨D, k, none⟩ = false ∧ ∀ b : UInt8, (w.setCell ⟨D, k, none⟩ (u8v b)).heap[D]? = some (rowO (dgA (l.set k b))) := by
  refine ⟨?_, by simp [World.frozen?, h], fun b => ?_⟩
  · rw [cell_of_row _ _ k _ _ _ h]
    have := bv_get l k hk
    simpa using this
  · simp only [World.setCell, Array.getElem?_modify, h]
    simp [bv, List.map_set]
theorem load_row {P : Program} {w : World} {D : Nat} {c : Array Value} {t : TypeId} {n : Nat} (h : w.heap[D]? = some (.cells c t (0, 0))) (hn : c.size = n) : (loadCellsFrom ⟨D, 0, none⟩ 0 n #[]).run P w = .ok c w := by
  subst hn
  have := run_loadCells_list (P := P) w ⟨D, 0, none⟩ c.toList (fun j v hv => by
    have hadd : (⟨D, 0, none⟩ : Addr).add j = ⟨D, j, none⟩ := by unfold Addr.add; split <;> simp_all
    rw [hadd, cell_of_row _ _ j c t (0, 0) h]
    simpa using hv)
  simpa [loadCells] using this
theorem store_row {P : Program} {w : World} {D : Nat} {c c' : Array Value} {t : TypeId} (h : w.heap[D]? = some (.cells c t (0, 0))) (hn : c'.size = c.size) (h1 : ∀ v ∈ c'.toList, v.oneCell' = true) :
    (storeCells ⟨D, 0, none⟩ c'.toList 0).run P w = .ok () (w.setRow D c') := by
  have := run_storeCells_from (P := P) D t c'.toList 0 c w h (by simp [hn]) h1
  simpa using this
theorem dgA_size (l : List UInt8) : (dgA l).size = l.length := by simp [bv]
theorem dgA_one (l : List UInt8) : ∀ v ∈ (dgA l).toList, v.oneCell' = true := fun v hv => bv_one l v (by simpa using hv)
/-- the byte of a word -/
def byteW (x : UInt32) (s : Nat) : UInt8 := (x >>> UInt32.ofNat s).toUInt8
theorem byteW_val (x : UInt32) (s : Nat) (hs : s < 32) : ((x.toNat : Int) / (2 ^ s : Nat)) % 256 = ((byteW x s).toNat : Int) := by
  unfold byteW
  rw [UInt32.toNat_toUInt8, UInt32.toNat_shiftRight, UInt32.toNat_ofNat', Nat.shiftRight_eq_div_pow]
  have e : s % 2 ^ 32 % 32 = s := by
    have h32 : s % 2 ^ 32 = s := Nat.mod_eq_of_lt (Nat.lt_trans hs (by decide))
    rw [h32, Nat.mod_eq_of_lt hs]
  rw [e]
  generalize 2 ^ s = q
  rw [Int.natCast_emod, Int.natCast_ediv]
  rfl
theorem byteW_0 (x : UInt32) : byteW x 0 = x.toUInt8 := by
  unfold byteW
  apply UInt8.toNat_inj.1
  rw [UInt32.toNat_toUInt8, UInt32.toNat_shiftRight, UInt32.toNat_toUInt8]
  rfl
theorem dig_byte (S : St) (i : Nat) (hi : i < 32) : (digB S)[i]? = some (byteW (blkC S (i / 4)) (24 - 8 * (i % 4))) := by
  match i, hi with
  | 0, _ => rfl
  | 1, _ => rfl
  | 2, _ => rfl
  | 3, _ => show some (S.a.toUInt8) = some (byteW S.a 0); rw [byteW_0]
  | 4, _ => rfl
  | 5, _ => rfl
  | 6, _ => rfl
  | 7, _ => show some (S.b.toUInt8) = some (byteW S.b 0); rw [byteW_0]
  | 8, _ => rfl
  | 9, _ => rfl
  | 10, _ => rfl
  | 11, _ => show some (S.c.toUInt8) = some (byteW S.c 0); rw [byteW_0]
  | 12, _ => rfl
  | 13, _ => rfl
  | 14, _ => rfl
  | 15, _ => show some (S.d.toUInt8) = some (byteW S.d 0); rw [byteW_0]
  | 16, _ => rfl
  | 17, _ => rfl
  | 18, _ => rfl
  | 19, _ => show some (S.e.toUInt8) = some (byteW S.e 0); rw [byteW_0]
  | 20, _ => rfl
  | 21, _ => rfl
  | 22, _ => rfl
  | 23, _ => show some (S.f.toUInt8) = some (byteW S.f 0); rw [byteW_0]
  | 24, _ => rfl
  | 25, _ => rfl
  | 26, _ => rfl
  | 27, _ => show some (S.g.toUInt8) = some (byteW S.g 0); rw [byteW_0]
  | 28, _ => rfl
  | 29, _ => rfl
  | 30, _ => rfl
  | 31, _ => show some (S.h.toUInt8) = some (byteW S.h 0); rw [byteW_0]
  | n + 32, h => omega
/-- a digest on the way -/
def dgUp (l : List UInt8) (k : Nat) : List UInt8 := l.take k ++ List.replicate (32 - k) 0
theorem dgUp_len {l : List UInt8} (h : l.length = 32) {k : Nat} (hk : k ≤ 32) : (dgUp l k).length = 32 := by unfold dgUp; simp [h]; omega
theorem dgUp_step {l : List UInt8} (h : l.length = 32) {k : Nat} (hk : k < 32) {b : UInt8} (hb : l[k]? = some b) : (dgUp l k).set k b = dgUp l (k + 1) := by
  unfold dgUp
  apply List.ext_getElem?
  intro j
  rw [List.getElem?_set]
  by_cases e : k = j
  · subst e
    have hl : (l.take k ++ List.replicate (32 - k) 0 : List UInt8).length = 32 := dgUp_len h (by omega)
    rw [if_pos rfl, if_pos (by rw [hl]; exact hk), List.getElem?_append_left (by rw [List.length_take]; omega), List.getElem?_take, if_pos (by omega), hb]
  · simp only [e, if_false, List.getElem?_append, List.getElem?_take, List.length_take, h, List.getElem?_replicate]
    by_cases h1 : j < k
    · simp [h1, show j < k + 1 from by omega, show j < min k 32 from by omega, show j < min (k + 1) 32 from by omega]
    · have h2 : k < j := by omega
      simp [show ¬ j < min k 32 from by omega, show ¬ j < min (k + 1) 32 from by omega]
      have e1 : min k 32 = k := by omega
      have e2 : min (k + 1) 32 = k + 1 := by omega
      rw [e1, e2]
      by_cases h3 : j < 32
      · rw [if_pos (by omega), if_pos (by omega)]
      · rw [if_neg (by omega), if_neg (by omega)]
theorem dgUp_0 (l : List UInt8) : dgUp l 0 = List.replicate 32 0 := by simp [dgUp]
theorem dgUp_32 {l : List UInt8} (h : l.length = 32) : dgUp l 32 = l := by unfold dgUp; rw [List.take_of_length_le (by omega)]; simp
theorem stN_cell {w : World} {P : Nat} {S : St} {pv : Value} {n : Int} {k : Nat} (h : w.heap[P]? = some (stObj S pv n)) (hk : k < 8) : w.cell? ⟨P, k, none⟩ = some (.int .u32 ((blkC S k).toNat : Int)) := by
  rcases k with _ | _ | _ | _ | _ | _ | _ | _ | k
  all_goals first | omega | (simp [World.cell?, h, blkC]; done)
section
variable {ops : Array Oper} {rest : List Oper} {o : Oper} {a : Act} {Q : Exit → Act → World → Prop} {w : World} {K : Act → World → Prop}
theorem wp_storeR {P : Program} (t : TypeId) (p x : Operand) (ho : o.op = .store t p x) (g : Nat) (hp : a.eval p = .pointer (some ⟨g, 0, none⟩)) (c c' : Array Value) (hx : a.eval x = .agg c') (hg : w.heap[g]? = some (.cells c t (0, 0)))
    (hi : (P.info? t).map (·.size) = some c'.size) (hn : c.size = c'.size) (h1 : c'.all (·.oneCell') = true) (h : K (a.put o.dst undef) (w.setRow g c')) : o.wp P a w K Q := by
  unfold Oper.wp execOp
  simp only [ho, hp, hx, Instr.storeAt, Instr.sureAddr, Sem.run_bind, Sem.run_pure, Result.andThen_ok, run_storeVar_row w g t t c c' hg hi hn h1, Oper.upon]
  exact h
theorem wl_loadD (hgd : o.guard = none) (x : Operand) (ho : o.op = .load 23 x) (g : Nat) (hx : a.eval x = .pointer (some ⟨g, 0, none⟩)) (cs : Array Value) (hg : w.heap[g]? = some (rowO cs)) (hn : cs.size = 32)
    (h : wpList Tryd.prog ops Q rest (a.put o.dst (.agg cs)) w) : wpList Tryd.prog ops Q (o :: rest) a w :=
  wpList_load_row hgd 23 x ho g hx _ cs (0, 0) _ hg Tryd.underlying23 rfl (by rw [hn]; kernel_rfl) h
theorem wl_storeD (hgd : o.guard = none) (p x : Operand) (ho : o.op = .store 23 p x) (g : Nat) (hp : a.eval p = .pointer (some ⟨g, 0, none⟩)) (c c' : Array Value) (hx : a.eval x = .agg c') (hg : w.heap[g]? = some (rowO c)) (hn : c.size = 32) (hn' : c'.size = 32) (h1 : ∀ v ∈ c'.toList, v.oneCell' = true)
    (h : wpList Tryd.prog ops Q rest (a.put o.dst undef) (w.setRow g c')) : wpList Tryd.prog ops Q (o :: rest) a w :=
  wpList_plain hgd fun _ hK => wp_storeR 23 p x ho g hp c c' hx hg (by rw [hn']; kernel_rfl) (by rw [hn, hn']) (Array.all_eq_true_iff_forall_mem.2 (fun v hv => h1 v (by simpa using hv))) (hK _ _ h)
end
theorem res_dig {fn : Func} {p : Tmp} (h : fn.results = #[.cell p 23]) (tmps : Array Value) (w : World) (g : Nat) (cs : Array Value) (hp : tmps.getD p undef = .pointer (some ⟨g, 0, none⟩)) (hg : w.heap[g]? = some (rowO cs)) (hn : cs.size = 32) :
    (results fn tmps).run Tryd.prog w = .ok (.agg cs) w :=
  results_cell_row h tmps w g _ cs (0, 0) _ hp hg Tryd.underlying23 rfl (by rw [hn]; kernel_rfl)
end Go.Proofs.YtjkcdnangmjoeaaDoor
