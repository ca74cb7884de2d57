/-
  What is proved here: what Nonce of package name (and of the reference) comes to, at this seat's numbers. No condition.
-/
import Derived.Test.YtchjknbideoieaaGreatDoorK29
import Derived.Laws.CopyOwn
namespace Go.Proofs.YtchjknbideoieaaGreatDoor
open Go.RowKit
abbrev nonA (l : List UInt8) : Array Value := (bv l).toArray
abbrev rowN (c : Array Value) : Obj := .cells c 173 (0, 0)
theorem nonA_size (l : List UInt8) : (nonA l).size = l.length := by simp [bv]
theorem nonA_one (l : List UInt8) : ∀ v ∈ (nonA l).toList, v.oneCell' = true := fun v hv => bv_one l v (by simpa using hv)
theorem non_cell {w : World} {D : Nat} {l : List UInt8} (h : w.heap[D]? = some (rowN (nonA l))) {k : Nat} (hk : k < l.length) :
    w.cell? ⟨D, k, none⟩ = some (u8v l[k]) ∧ w.frozen? ⟨D, k, none⟩ = false ∧ ∀ b : UInt8, (w.setCell ⟨D, k, none⟩ (u8v b)).heap[D]? = some (rowN (nonA (l.set k b))) := by
  refine ⟨?_, by simp [World.frozen?, h], fun b => ?_⟩
  · rw [cell_of_row _ _ k _ _ _ h]
    have := bv_get l k hk
    simpa using this
  simp only [World.setCell, Array.getElem?_modify, h]
  simp [bv, List.map_set]
def nonUp (p k : Nat) : List UInt8 := (fix p 8).take k ++ List.replicate (12 - k) 0
theorem nonUp_len (p k : Nat) (hk : k ≤ 8) : (nonUp p k).length = 12 := by unfold nonUp; simp [fix_length]; omega
theorem nonUp_8 (p : Nat) : nonUp p 8 = nonceOf p := by
  unfold nonUp nonceOf
  rw [List.take_of_length_le (by rw [fix_length]; exact Nat.le_refl _)]
  rfl
theorem fix_at (n : Nat) : ∀ (m k : Nat), k < m → (fix n m)[k]? = some (UInt8.ofNat (n / 256 ^ k)) := by
  intro m
  induction m generalizing n with
  | zero => intro k h; omega
  | succ m ih =>
    intro k h
    rw [fix]
    cases k with
    | zero => simp
    | succ k =>
      rw [List.getElem?_cons_succ, ih (n / 256) k (by omega), Nat.div_div_eq_div_mul, Nat.pow_succ, Nat.mul_comm 256]
theorem nonUp_step (p k : Nat) (hk : k < 8) : (nonUp p k).set k (UInt8.ofNat (p / 256 ^ k)) = nonUp p (k + 1) := by
  have ht : (fix p 8).take (k + 1) = (fix p 8).take k ++ [UInt8.ofNat (p / 256 ^ k)] := by
    have h := fix_at p 8 k hk
    obtain ⟨h1, h2⟩ := List.getElem?_eq_some_iff.1 h
    rw [List.take_succ_eq_append_getElem h1, h2]
  unfold nonUp
  rw [ht, List.set_append_right _ _ (by rw [List.length_take]; omega), List.length_take, fix_length, Nat.min_eq_left (by omega), Nat.sub_self, show 12 - k = (12 - (k + 1)) + 1 from by omega, List.replicate_succ, List.set_cons_zero, List.append_assoc]
  rfl
theorem non_byte (p k : Nat) : Value.int .u8 ((p : Int) / 2 ^ (8 * k) % 256) = u8v (UInt8.ofNat (p / 256 ^ k)) := by
  have e : (2 : Int) ^ (8 * k) = ((256 ^ k : Nat) : Int) := by rw [show (256 : Nat) = 2 ^ 8 from rfl, ← Nat.pow_mul]; simp
  unfold u8v
  rw [e, UInt8.toNat_ofNat', Int.natCast_emod, Int.natCast_ediv]
  rfl
section
variable {ops : Array Oper} {rest : List Oper} {o : Oper} {a : Act} {Q : Exit → Act → World → Prop} {w : World} {K : Act → World → Prop}
set_option maxRecDepth 100000 in
theorem wl_loadN (hgd : o.guard = none) (x : Operand) (ho : o.op = .load 173 x) (g : Nat) (hx : a.eval x = .pointer (some ⟨g, 0, none⟩)) (cs : Array Value) (hg : w.heap[g]? = some (rowN cs)) (hn : cs.size = 12)
    (h : wpList Tryz.prog ops Q rest (a.put o.dst (.agg cs)) w) : wpList Tryz.prog ops Q (o :: rest) a w :=
  wpList_load_row hgd 173 x ho g hx _ cs (0, 0) _ hg Tryz.underlying173 rfl (by rw [hn]; kernel_rfl) h
set_option maxRecDepth 100000 in
theorem wl_storeN (hgd : o.guard = none) (p x : Operand) (ho : o.op = .store 173 p x) (g : Nat) (hp : a.eval p = .pointer (some ⟨g, 0, none⟩)) (c c' : Array Value) (hx : a.eval x = .agg c') (hg : w.heap[g]? = some (rowN c)) (hn : c.size = 12) (hn' : c'.size = 12) (h1 : ∀ v ∈ c'.toList, v.oneCell' = true)
    (h : wpList Tryz.prog ops Q rest (a.put o.dst undef) (w.setRow g c')) : wpList Tryz.prog ops Q (o :: rest) a w := by
  have hz : (Tryz.prog.info? 173).map (·.size) = some c'.size := by rw [hn']; kernel_rfl
  refine wpList_plain hgd fun _ hK => ?_
  unfold Oper.wp execOp
  simp only [ho, hp, hx, Instr.storeAt, Instr.sureAddr, Sem.run_bind, Sem.run_pure, Result.andThen_ok, run_storeVar_row w g 173 173 c c' hg hz (by rw [hn, hn']) (Array.all_eq_true_iff_forall_mem.2 (fun v hv => h1 v (by simpa using hv))), Oper.upon]
  exact hK _ _ h
end
set_option maxRecDepth 100000 in
theorem res_non {fn : Func} {p : Tmp} (h : fn.results = #[.cell p 173]) (tmps : Array Value) (w : World) (g : Nat) (cs : Array Value) (hp : tmps.getD p undef = .pointer (some ⟨g, 0, none⟩)) (hg : w.heap[g]? = some (rowN cs)) (hn : cs.size = 12) :
    (results fn tmps).run Tryz.prog w = .ok (.agg cs) w :=
  results_cell_row h tmps w g _ cs (0, 0) _ hp hg Tryz.underlying173 rfl (by rw [hn]; kernel_rfl)
set_option maxRecDepth 100000 in
set_option maxHeartbeats 1000000 in
theorem kNonceC (p : Nat) (_hp : p < 18446744073709551616) (c : Array Value) (hc : nonA (nonceOf p) = c) (w : World) :
    Calls Tryz.prog 94 #[.int .u64 p] w fun e w' => e = .returned (.agg c) ∧ Below w.heap.size w w' := by
  have HN : Hid (c.size = 12 ∧ ∀ v ∈ c.toList, v.oneCell' = true) := Lib.hid (by rw [← hc]; exact ⟨(nonA_size _).trans (nonce_len p), nonA_one _⟩)
  have HC : Hid (nonA (nonUp p 8) = c) := Lib.hid (by rw [nonUp_8, hc])
  clear hc
  go_enter Tryz.func94, Tryz.ntmps94
  go_upto_region 2 with fail
  generalize hWA : World.alloc _ _ = wA
  have rN : wA.heap[w.heap.size + 1]? = some (rowN (nonA (nonUp p 0))) := by rw [← hWA]; exact (heap_alloc2_new w _ _).trans (by kernel_rfl)
  have rR : wA.heap[w.heap.size]? = some (rowN (nonA (nonUp 0 0))) := by rw [← hWA]; exact (heap_alloc2_old w _ _).trans (by kernel_rfl)
  have bA : Below w.heap.size w wA := by rw [← hWA]; exact balloc (balloc (bself w) _) _
  clear hWA
  go_wp2
  go_loopw [4, 5] (fun x i wr => ∃ k : Nat, i = .int .i64 k ∧ k ≤ 8 ∧ Hid (wr.heap[w.heap.size + 1]? = some (rowN (nonA (nonUp p k))) ∧ wr.heap[w.heap.size]? = some (rowN (nonA (nonUp 0 0)))) ∧ Below w.heap.size w wr) (fun _ i _ => 8 - (intOf i).toNat)
  case atStart => exact ⟨0, rfl, by omega, Lib.hid ⟨rN, rR⟩, bA⟩
  case round =>
    obtain ⟨k, rfl, hk, hr, hbr⟩ := hrel
    by_cases hlt : k < 8
    · obtain ⟨c0, f0, hset⟩ := non_cell hr.out.1 (k := k) (by rw [nonUp_len p k hk]; omega)
      have hb := Lib.hid (non_byte p k)
      have hst := Lib.hid (hset (UInt8.ofNat (p / 256 ^ k)))
      have h2 := Lib.hid (hr.out.2)
      clear hset hr
      go_wp2
      rw [hb.out]
      go_roundw
      case rel =>
        refine ⟨k + 1, by go_num, by omega, Lib.hid ⟨?_, ?_⟩, hbr.setCell (by simp) _⟩
        · rw [← nonUp_step p k hlt]; exact hst.out
        · rw [← h2.out]; exact Below.heap_setCell _ _ _ _ (by simp)
      case measure => simp [intOf]; omega
    · have h8 : k = 8 := by omega
      subst h8
      obtain ⟨hr1, hr2⟩ := hr.out
      rw [HC.out] at hr1
      go_wp2_with (first | (refine wl_loadN rfl (.tmp 3) rfl _ rfl c hr1 HN.out.1 ?_) | (refine wl_storeN rfl (.tmp 2) (.tmp 16) rfl _ rfl _ c rfl hr2 ((nonA_size _).trans (nonUp_len 0 0 (by omega))) HN.out.1 HN.out.2 ?_))
      exact bodyPost_ret (v := .agg c) (res_non Tryz.results94 _ _ _ c rfl (setRow_heap _ _ _ _ _ _ hr2) HN.out.1) rfl ⟨rfl, below_setRow hbr (Nat.le_refl _) _⟩
end Go.Proofs.YtchjknbideoieaaGreatDoor
