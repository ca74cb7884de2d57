/-
  What is proved here: what first, Get, From, All, Len and Size of package skip come to, at this seat's numbers.
-/
import Derived.Test.YtlphbkhcdnbbnaaSkipW
namespace Go.Proofs.Ytlphbkhcdnbbnaa
open Go.RowKit

theorem run_idx0 (p0 p1 p2 p3 p4 p5 p6 p7 p8 p9 p10 p11 : Nat) (w : World) : (Instr.index 57 (.agg #[.int .i64 (p0 : Int), .int .i64 (p1 : Int), .int .i64 (p2 : Int), .int .i64 (p3 : Int), .int .i64 (p4 : Int), .int .i64 (p5 : Int), .int .i64 (p6 : Int), .int .i64 (p7 : Int), .int .i64 (p8 : Int), .int .i64 (p9 : Int), .int .i64 (p10 : Int), .int .i64 (p11 : Int)]) (.int .i64 0)).run Try.prog w = .ok (.int .i64 (p0 : Int)) w := by
  have h := Try.underlying57
  simp [Instr.index, run_underlying h, asIntOf, go_sem]
set_option maxHeartbeats 2000000 in
theorem kFirst_any (base L : Nat) (ns : List Nd) (cs : Nat → List Nat) (sz : Nat) (q : Ent) (w : World) (h : LiAt w base L ns sz) (hg : Good ns cs) (hn : ns.length ≤ 1000000) :
    Calls Try.prog 25 #[.pointer (some ⟨L, 0, none⟩), .string q.user, .int .u64 (q.seq.toNat : Int)] w fun e w' => e = .returned (.int .i64 (firstN ns cs q : Int)) ∧ Below w.heap.size w w' := by
  have h0 := h
  obtain ⟨g, n, cap, hL, hnn, hON, hgL, hbL, hbg, hglt⟩ := h
  have hLlt : L < w.heap.size := (Array.getElem?_eq_some_iff.1 hL).1
  have hL0 : w.cell? ⟨L, 0, none⟩ = some (.slice (some ⟨g, 0, none⟩) n cap) := cell_of_row w L 0 _ _ _ hL
  have hpl : posn ns cs q 0 < n := by rw [hnn]; exact posn_lt hg q 0 (by omega)
  have hpl' : posn ns cs q 0 < ns.length := by omega
  have d1 := hON.nx hnn (i := posn ns cs q 0) (k := 0) (by omega) (by omega)
  rw [first_nxt hg q] at d1
  go_enter Try.func25, Try.ntmps25
  go_wp2_with fail
  refine wp_region_noPanic ?_
  refine wp_region_held_drew (S := fun w' => w'.cell? ⟨L, 0, none⟩ = some (.slice (some ⟨g, 0, none⟩) n cap) ∧ w'.cell? ⟨g, posn ns cs q 0 * 16 + 4 + 0, none⟩ = some (.int .i64 (firstN ns cs q : Int))) (by kernel_rfl) ⟨hL0, d1⟩ (fun hHeld => ?_)
  refine reg_take 0 (v := ?_) (by rfl) (by kernel_rfl) (by kernel_rfl) (by kernel_rfl) (fun _ _ _ h => h) (by rfl) ?_ (by assumption) ?_
  rotate_left
  · (intro wq hSq; (try dsimp only at hSq); go_split_ands; go_simp; (try with_reducible rfl))
  try simp only [Act.put, List.setIfInBounds_toArray, List.set_cons_zero, List.set_cons_succ]
  refine reg_take 1 (v := ?_) (by rfl) (by kernel_rfl) (by kernel_rfl) (by kernel_rfl) (fun _ _ _ h => h) (by rfl) ?_ (by assumption) ?_
  rotate_left
  · (intro wq hSq; (try dsimp only at hSq); go_split_ands; go_simp; (try with_reducible rfl))
  try simp only [Act.put, List.setIfInBounds_toArray, List.set_cons_zero, List.set_cons_succ]
  refine reg_take 2 (v := ?_) (by rfl) (by kernel_rfl) (by kernel_rfl) (by kernel_rfl) (fun _ _ _ h => h) (by rfl) ?_ (by assumption) ?_
  rotate_left
  · (intro wq hSq; (try dsimp only at hSq); go_split_ands; go_simp; (try with_reducible rfl))
  try simp only [Act.put, List.setIfInBounds_toArray, List.set_cons_zero, List.set_cons_succ]
  refine reg_take 3 (v := ?_) (by rfl) (by kernel_rfl) (by kernel_rfl) (by kernel_rfl) (fun _ _ _ h => h) (by rfl) ?_ (by assumption) ?_
  rotate_left
  · (intro wq hSq; (try dsimp only at hSq); go_split_ands; go_simp; (try with_reducible rfl))
  try simp only [Act.put, List.setIfInBounds_toArray, List.set_cons_zero, List.set_cons_succ]
  refine reg_take 4 (v := ?_) (by rfl) (by kernel_rfl) (by kernel_rfl) (by kernel_rfl) (fun _ _ _ h => h) (by rfl) ?_ (by assumption) ?_
  rotate_left
  · (intro wq hSq; (try dsimp only at hSq); go_split_ands; go_simp; (try with_reducible rfl))
  try simp only [Act.put, List.setIfInBounds_toArray, List.set_cons_zero, List.set_cons_succ]
  refine reg_take 5 (v := ?_) (by rfl) (by kernel_rfl) (by kernel_rfl) (by kernel_rfl) (fun _ _ _ h => h) (by rfl) ?_ (by assumption) ?_
  rotate_left
  · (intro wq hSq; (try dsimp only at hSq); go_split_ands; go_simp; (try with_reducible rfl))
  try simp only [Act.put, List.setIfInBounds_toArray, List.set_cons_zero, List.set_cons_succ]
  refine reg_take 6 (v := ?_) (by rfl) (by kernel_rfl) (by kernel_rfl) (by kernel_rfl) (fun _ _ _ h => h) (by rfl) ?_ (by assumption) ?_
  rotate_left
  · (intro wq hSq; (try dsimp only at hSq); go_split_ands; go_simp; (try with_reducible rfl))
  try simp only [Act.put, List.setIfInBounds_toArray, List.set_cons_zero, List.set_cons_succ]
  refine reg_one 7 (by rfl) (by kernel_rfl) (by rfl) (fun K hK => ?_)
  (go_simp; go_at_call 24; refine (kSeek_any base L ns cs sz q _ (show LiAt w.drew base L ns sz from h0) hg hn).mono ?_; rintro e5 w5 ⟨rfl, hb5⟩; go_wp2_with fail)
  refine hK.out _ _ ?_ (fun hHeld => ?_)
  · exact ⟨(hb5.cell (by simpa using hLlt)).trans hL0, (hb5.cell (by simpa using hglt)).trans d1⟩
  clear hK K
  try simp only [Act.put, List.setIfInBounds_toArray, List.set_cons_zero, List.set_cons_succ]
  refine reg_take 8 (v := .int .i64 (posn ns cs q 0 : Int)) (by rfl) (by kernel_rfl) (by kernel_rfl) (by kernel_rfl) (fun _ _ _ h => h) (by rfl) ?_ (by assumption) ?_
  · (intro wq hSq; go_simp; rw [run_idx0]; rfl)
  try simp only [Act.put, List.setIfInBounds_toArray, List.set_cons_zero, List.set_cons_succ]
  refine reg_take 9 (v := .pointer (some ⟨g, posn ns cs q 0 * 16, none⟩)) (by rfl) (by kernel_rfl) (by kernel_rfl) (by kernel_rfl) (fun _ _ _ h => h) (by rfl) ?_ (by assumption) ?_
  · (intro wq hSq; go_simp)
  try simp only [Act.put, List.setIfInBounds_toArray, List.set_cons_zero, List.set_cons_succ]
  refine reg_take 10 (v := ?_) (by rfl) (by kernel_rfl) (by kernel_rfl) (by kernel_rfl) (fun _ _ _ h => h) (by rfl) ?_ (by assumption) ?_
  rotate_left
  · (intro wq hSq; (try dsimp only at hSq); go_split_ands; go_simp; (try with_reducible rfl))
  try simp only [Act.put, List.setIfInBounds_toArray, List.set_cons_zero, List.set_cons_succ]
  refine reg_take 11 (v := ?_) (by rfl) (by kernel_rfl) (by kernel_rfl) (by kernel_rfl) (fun _ _ _ h => h) (by rfl) ?_ (by assumption) ?_
  rotate_left
  · (intro wq hSq; (try dsimp only at hSq); go_split_ands; go_simp; (try with_reducible rfl))
  try simp only [Act.put, List.setIfInBounds_toArray, List.set_cons_zero, List.set_cons_succ]
  refine reg_take 12 (v := ?_) (by rfl) (by kernel_rfl) (by kernel_rfl) (by kernel_rfl) (fun _ _ _ h => h) (by rfl) ?_ (by assumption) ?_
  rotate_left
  · (intro wq hSq; (try dsimp only at hSq); go_split_ands; go_simp; (try with_reducible rfl))
  try simp only [Act.put, List.setIfInBounds_toArray, List.set_cons_zero, List.set_cons_succ]
  refine reg_take 13 (v := ?_) (by rfl) (by kernel_rfl) (by kernel_rfl) (by kernel_rfl) (fun _ _ _ h => h) (by rfl) ?_ (by assumption) ?_
  rotate_left
  · (intro wq hSq; (try dsimp only at hSq); go_split_ands; go_simp; (try with_reducible rfl))
  try simp only [Act.put, List.setIfInBounds_toArray, List.set_cons_zero, List.set_cons_succ]
  refine wpAnyH_done (by kernel_rfl) (noPanic_mk ?_) _
  go_wp2
  go_ret
  exact ⟨rfl, bstep (bdrew (bself w)) hb5⟩
set_option maxHeartbeats 400000 in
theorem kFirst_nil (q : Ent) (w : World) : Calls Try.prog 25 #[.pointer none, .string q.user, .int .u64 (q.seq.toNat : Int)] w fun e w' => e = .returned (.int .i64 0) ∧ Below w.heap.size w w' := by
  go_enter Try.func25, Try.ntmps25
  go_wp2
  go_ret
  exact ⟨rfl, bself w⟩
set_option maxHeartbeats 400000 in
theorem kLen_any (base L : Nat) (ns : List Nd) (sz : Nat) (w : World) (h : LiAt w base L ns sz) (h0 : 1 ≤ ns.length) (hn : ns.length ≤ 1000000) : Calls Try.prog 15 #[.pointer (some ⟨L, 0, none⟩)] w fun e w' => e = .returned (.int .i64 ((ns.length - 1 : Nat) : Int)) ∧ Below w.heap.size w w' := by
  obtain ⟨g, n, cap, hL, hnn, hON, hgL, hbL, hbg, hglt⟩ := h
  have hL0 : w.cell? ⟨L, 0, none⟩ = some (.slice (some ⟨g, 0, none⟩) n cap) := cell_of_row w L 0 _ _ _ hL
  go_enter Try.func15, Try.ntmps15
  go_wp2
  go_ret
  exact ⟨by go_num, bself w⟩
set_option maxHeartbeats 400000 in
theorem kLen_nil (w : World) : Calls Try.prog 15 #[.pointer none] w fun e w' => e = .returned (.int .i64 0) ∧ Below w.heap.size w w' := by
  go_enter Try.func15, Try.ntmps15
  go_wp2
  go_ret
  exact ⟨rfl, bself w⟩
set_option maxHeartbeats 400000 in
theorem kSize_any (base L : Nat) (ns : List Nd) (sz : Nat) (w : World) (h : LiAt w base L ns sz) : Calls Try.prog 16 #[.pointer (some ⟨L, 0, none⟩)] w fun e w' => e = .returned (.int .i64 (sz : Int)) ∧ Below w.heap.size w w' := by
  obtain ⟨g, n, cap, hL, hnn, hON, hgL, hbL, hbg, hglt⟩ := h
  have hL1 : w.cell? ⟨L, 1, none⟩ = some (.int .i64 (sz : Int)) := cell_of_row w L 1 _ _ _ hL
  go_enter Try.func16, Try.ntmps16
  go_wp2
  go_ret
  exact ⟨rfl, bself w⟩
set_option maxHeartbeats 400000 in
theorem kSize_nil (w : World) : Calls Try.prog 16 #[.pointer none] w fun e w' => e = .returned (.int .i64 0) ∧ Below w.heap.size w w' := by
  go_enter Try.func16, Try.ntmps16
  go_wp2
  go_ret
  exact ⟨rfl, bself w⟩
/-- what is not ahead of a key at a moment -/
def restE (E : List Ent) (q : Ent) : List Ent := E.dropWhile (fun x => aheadE x q)
/-- what Get tells -/
def getV (E : List Ent) (q : Ent) : Value := match (restE E q).head? with
  | none => .tuple #[.agg #[.string .empty, .int .u64 0, .int .u8 0, .string .empty], .bool false]
  | some x => if (x.user.toList == q.user.toList) = true then .tuple #[entV x, .bool true] else .tuple #[.agg #[.string .empty, .int .u64 0, .int .u8 0, .string .empty], .bool false]
theorem rest_ents (ns : List Nd) (cs : Nat → List Nat) (q : Ent) : restE (entsN ns cs) q = ((cs 0).dropWhile (ahd ns q)).map (entOf ns) := (map_while ns q (cs 0)).2
theorem first_rest {ns : List Nd} {cs : Nat → List Nat} (hg : Good ns cs) (q : Ent) : (firstN ns cs q = 0 ∧ restE (entsN ns cs) q = []) ∨ (0 < firstN ns cs q ∧ firstN ns cs q < ns.length ∧ (restE (entsN ns cs) q).head? = some (entOf ns (firstN ns cs q))) := by
  rw [rest_ents]
  unfold firstN
  cases h : (cs 0).dropWhile (ahd ns q) with
  | nil => exact .inl ⟨rfl, rfl⟩
  | cons m r =>
    have hm : m ∈ cs 0 := (List.dropWhile_sublist _).subset (by rw [h]; simp)
    have := chain_mem (hg.chain 0 (by omega)) m hm
    exact .inr ⟨this.1, this.2, rfl⟩
theorem kcells4 {w : World} {R : Nat} {a b c d : Value} {T : TypeId} (h : w.heap[R]? = some (.cells #[a, b, c, d] T (0, 0))) :
    (w.cell? ⟨R, 0, none⟩ = some a ∧ w.cell? ⟨R, 1, none⟩ = some b ∧ w.cell? ⟨R, 2, none⟩ = some c ∧ w.cell? ⟨R, 3, none⟩ = some d) ∧ w.frozen? ⟨R, 0, none⟩ = false ∧ w.frozen? ⟨R, 1, none⟩ = false ∧ w.frozen? ⟨R, 2, none⟩ = false ∧ w.frozen? ⟨R, 3, none⟩ = false := by
  refine ⟨⟨cell_of_row w R 0 _ _ _ h, cell_of_row w R 1 _ _ _ h, cell_of_row w R 2 _ _ _ h, cell_of_row w R 3 _ _ _ h⟩, ?_, ?_, ?_, ?_⟩ <;> simp [World.frozen?, h]
set_option maxHeartbeats 1000000 in
theorem kGet_any (base L : Nat) (ns : List Nd) (cs : Nat → List Nat) (sz : Nat) (q : Ent) (w : World) (h : LiAt w base L ns sz) (hg : Good ns cs) (hn : ns.length ≤ 1000000) :
    Calls Try.prog 12 #[.pointer (some ⟨L, 0, none⟩), .string q.user, .int .u64 (q.seq.toNat : Int)] w fun e w' => e = .returned (getV (entsN ns cs) q) ∧ Below w.heap.size w w' := by
  have hfr := first_rest hg q
  go_enter Try.func12, Try.ntmps12
  go_wp2_with fail
  refine (kFirst_any base L ns cs sz q _ (h.on (balloc (bself w) _) (Nat.le_refl _)) hg hn).mono ?_
  rintro e w2 ⟨rfl, hb2⟩
  have hb2' := bstep (balloc (bself w) _) hb2
  obtain ⟨g, n, cap, hL, hnn, hON, hgL, hbL, hbg, hglt⟩ := h.on hb2' (Nat.le_refl _)
  have hL0 : w2.cell? ⟨L, 0, none⟩ = some (.slice (some ⟨g, 0, none⟩) n cap) := cell_of_row w2 L 0 _ _ _ hL
  have hr2 := (hb2.block _ (by simp)).trans (heap_alloc_new w (.cells #[.string ⟨#[]⟩, .int .u64 0, .int .u8 0, .string ⟨#[]⟩] 25))
  obtain ⟨⟨x0, x1, x2, x3⟩, y0, y1, y2, y3⟩ := kcells4 hr2
  have hbe : ∀ u0 u1 u2 u3, Below w.heap.size w ((((w2.setCell ⟨w.heap.size, 0, none⟩ u0).setCell ⟨w.heap.size, 1, none⟩ u1).setCell ⟨w.heap.size, 2, none⟩ u2).setCell ⟨w.heap.size, 3, none⟩ u3) := fun u0 u1 u2 u3 => (((hb2'.setCell (Nat.le_refl _) _).setCell (Nat.le_refl _) _).setCell (Nat.le_refl _) _).setCell (Nat.le_refl _) _
  clear hr2
  rcases hfr with ⟨h1, h2⟩ | ⟨h1, h2, h3⟩
  · rw [h1]
    have HV : Hid (getV (entsN ns cs) q = .tuple #[.agg #[.string ⟨#[]⟩, .int .u64 0, .int .u8 0, .string ⟨#[]⟩], .bool false]) := Lib.hid (by unfold getV; rw [h2]; rfl)
    clear h2
    go_wp2_with fail
    exact bodyPost_ret (v := .tuple #[.agg #[.string ⟨#[]⟩, .int .u64 0, .int .u8 0, .string ⟨#[]⟩], .bool false]) (by simp [results, Try.results12, go_sem, x0, x1, x2, x3]) rfl ⟨by rw [HV.out], hbe _ _ _ _⟩
  · generalize firstN ns cs q = m at h1 h2 h3 ⊢
    obtain ⟨c0, c1, c2, c3⟩ := hON.ent hnn h2
    have hz : ¬ ((m : Int) = 0) := by omega
    have hz2 : ((m : Int) == 0) = false := by simp; omega
    have HV : Hid (getV (entsN ns cs) q = if ((entOf ns m).user.toList == q.user.toList) = true then .tuple #[entV (entOf ns m), .bool true] else .tuple #[.agg #[.string ⟨#[]⟩, .int .u64 0, .int .u8 0, .string ⟨#[]⟩], .bool false]) := Lib.hid (by unfold getV; rw [h3]; rfl)
    clear h3
    cases hu : ((entOf ns m).user.toList == q.user.toList) with
    | true =>
      have HV2 : Hid (getV (entsN ns cs) q = .tuple #[entV (entOf ns m), .bool true]) := Lib.hid (by rw [HV.out, if_pos hu])
      clear HV
      go_wp2_with fail
      exact bodyPost_ret (v := .tuple #[entV (entOf ns m), .bool true]) (by simp [results, Try.results12, go_sem, x0, x1, x2, x3, entV]) rfl ⟨by rw [HV2.out], hbe _ _ _ _⟩
    | false =>
      have HV2 : Hid (getV (entsN ns cs) q = .tuple #[.agg #[.string ⟨#[]⟩, .int .u64 0, .int .u8 0, .string ⟨#[]⟩], .bool false]) := Lib.hid (by rw [HV.out, if_neg (by rw [hu]; simp)])
      clear HV
      go_wp2_with fail
      exact bodyPost_ret (v := .tuple #[.agg #[.string ⟨#[]⟩, .int .u64 0, .int .u8 0, .string ⟨#[]⟩], .bool false]) (by simp [results, Try.results12, go_sem, x0, x1, x2, x3]) rfl ⟨by rw [HV2.out], hbe _ _ _ _⟩
set_option maxHeartbeats 400000 in
theorem kGet_nil (q : Ent) (w : World) : Calls Try.prog 12 #[.pointer none, .string q.user, .int .u64 (q.seq.toNat : Int)] w fun e w' => e = .returned (.tuple #[.agg #[.string ⟨#[]⟩, .int .u64 0, .int .u8 0, .string ⟨#[]⟩], .bool false]) ∧ Below w.heap.size w w' := by
  go_enter Try.func12, Try.ntmps12
  go_wp2_with fail
  refine (kFirst_nil q _).mono ?_
  rintro e w2 ⟨rfl, hb2⟩
  have hb2' := bstep (balloc (bself w) _) hb2
  have hr2 := (hb2.block _ (by simp)).trans (heap_alloc_new w (.cells #[.string ⟨#[]⟩, .int .u64 0, .int .u8 0, .string ⟨#[]⟩] 25))
  obtain ⟨⟨x0, x1, x2, x3⟩, y0, y1, y2, y3⟩ := kcells4 hr2
  clear hr2
  go_wp2_with fail
  exact bodyPost_ret (v := .tuple #[.agg #[.string ⟨#[]⟩, .int .u64 0, .int .u8 0, .string ⟨#[]⟩], .bool false]) (by simp [results, Try.results12, go_sem, x0, x1, x2, x3]) rfl ⟨rfl, (((hb2'.setCell (Nat.le_refl _) _).setCell (Nat.le_refl _) _).setCell (Nat.le_refl _) _).setCell (Nat.le_refl _) _⟩
set_option maxHeartbeats 2000000 in
theorem kFrom_any (base L : Nat) (ns : List Nd) (cs : Nat → List Nat) (sz : Nat) (q : Ent) (n : Int) (w : World) (h : LiAt w base L ns sz) (hg : Good ns cs) (hn : ns.length ≤ 1000000) (hl : ns.length = (cs 0).length + 1) (hn1 : -9223372036854775808 ≤ n) (hn2 : n ≤ 9223372036854775807) :
    Calls Try.prog 20 #[.pointer (some ⟨L, 0, none⟩), .string q.user, .int .u64 (q.seq.toNat : Int), .int .i64 n] w fun e w' => ∃ v, e = .returned v ∧ OE w' w.heap.size v ((restE (entsN ns cs) q).take n.toNat) ∧ Below w.heap.size w w' := by
  go_enter Try.func20, Try.ntmps20
  go_wp2_with fail
  refine (kFirst_any base L ns cs sz q _ h hg hn).mono ?_
  rintro e w2 ⟨rfl, hb2⟩
  have hre := rest_ents ns cs q
  obtain ⟨r0, hr0⟩ : ∃ r, r = (cs 0).dropWhile (ahd ns q) := ⟨_, rfl⟩
  have hfn : firstN ns cs q = r0.head?.getD 0 := by rw [hr0]; rfl
  obtain ⟨t0, hsp⟩ : ∃ t, cs 0 = t ++ r0 := ⟨(cs 0).takeWhile (ahd ns q), by rw [hr0]; exact (List.takeWhile_append_dropWhile).symm⟩
  rw [← hr0] at hre
  have hrl : r0.length ≤ (cs 0).length := by rw [hsp]; simp
  rw [hfn]
  have HR := Lib.hid (And.intro hre hsp)
  clear hre hsp hr0 hfn
  go_wp2_with fail
  go_loopw [9, 10] (fun ov av wr => ∃ p r : List Nat, av = .int .i64 ((r.head?.getD 0 : Nat) : Int) ∧ Hid (r0 = p ++ r) ∧ (p.length : Int) ≤ (if n < 0 then 0 else n) ∧ OE wr w.heap.size ov (p.map (entOf ns)) ∧ Below w.heap.size w wr) (fun _ av _ => (cs 0).length - (cs 0).idxOf (intOf av).toNat)
  case atStart => exact ⟨[], r0, rfl, Lib.hid rfl, by simp; omega, OE.nil_ _ _, hb2⟩
  case round =>
    obtain ⟨p, r, rfl, HP, hpn, hown, hbr⟩ := hrel
    obtain ⟨A9, c9, hv9, _, _, _⟩ := id hown.se
    rw [List.length_map] at hv9
    subst hv9
    have hsz := hbr.size
    have hpr : r0.length = p.length + r.length := by rw [HP.out, List.length_append]
    cases r with
    | nil =>
      have HT : Hid ((restE (entsN ns cs) q).take n.toNat = p.map (entOf ns)) := Lib.hid (by
        rw [HR.out.1, HP.out, List.append_nil]
        exact List.take_of_length_le (by rw [List.length_map]; split at hpn <;> omega))
      simp only [List.head?_nil, Option.getD_none] at *
      go_wp2_with fail
      go_ret
      exact ⟨_, rfl, by rw [HT.out]; exact hown, hbr⟩
    | cons m r =>
      simp only [List.head?_cons, Option.getD_some] at *
      have hcs : cs 0 = (t0 ++ p) ++ m :: r := by
        have := HR.out.2
        rw [HP.out] at this
        rw [List.append_assoc]; exact this
      have hm := chain_mem (hg.chain 0 (by omega)) m (by rw [hcs]; simp)
      have hmn : m < ns.length := hm.2
      have hm0 : 0 < m := hm.1
      by_cases hlt : (p.length : Int) < n
      · obtain ⟨g, nn, cap, hL, hnn, hON, hgL, hbL, hbg, hglt⟩ := h.on hbr (Nat.le_refl _)
        have hL0 : wr.cell? ⟨L, 0, none⟩ = some (.slice (some ⟨g, 0, none⟩) nn cap) := cell_of_row wr L 0 _ _ _ hL
        have hLlt : L < wr.heap.size := (Array.getElem?_eq_some_iff.1 hL).1
        obtain ⟨c0, c1, c2, c3⟩ := hON.ent hnn hmn
        have hcs2 : cs 0 = (t0 ++ (p ++ [m])) ++ r := by rw [hcs]; simp
        have HI := Lib.hid (And.intro (hg.idx (by omega) hcs2) (And.intro (hg.idx (by omega) hcs) hcs2))
        have hnx := hg.headNx (by omega) hcs2
        rw [← List.append_assoc, lastOf_snoc] at hnx
        have hpl : p.length < ns.length := by omega
        clear hcs hcs2
        go_wp2_with (at_builtin; refine wl_appE rfl (.tmp 32) (.tmp 41) rfl w.heap.size _ (p.map (entOf ns)) rfl hown (entOf ns m) rfl rfl (by rw [List.length_map]; simp only [maxLen]; omega) (Fits.one _ _ (by rw [List.length_map]; omega)) hbr.size ?_; intro v2 w2 hown2 _ hb2; have hb2' := hbr.trans hb2; obtain ⟨g2, nn2, cap2, hL2, hnn2, hON2, _, _, _, _⟩ := h.on hb2' (Nat.le_refl _); have hL02 : w2.cell? ⟨L, 0, none⟩ = some (.slice (some ⟨g2, 0, none⟩) nn2 cap2) := cell_of_row w2 L 0 _ _ _ hL2; have d1 := hON2.nx hnn2 (k := 0) hmn (by omega); rw [hnx, Nat.add_zero] at d1)
        go_roundw
        case rel => exact ⟨p ++ [m], r, rfl, Lib.hid (by rw [HP.out]; simp), by simp only [List.length_append, List.length_singleton]; split <;> omega, by rw [List.map_append]; exact hown2, hb2'⟩
        case measure =>
          have h1 := HI.out.1
          have h2 := HI.out.2.1
          have h3 : (cs 0).length = (t0 ++ p ++ [m]).length + r.length := by rw [HI.out.2.2]; simp; omega
          simp only [List.head?_cons, Option.getD_some] at h2
          simp only [intOf, Int.toNat_natCast, h1, h2, List.length_append, List.length_singleton] at *
          omega
      · have HT : Hid ((restE (entsN ns cs) q).take n.toNat = p.map (entOf ns)) := Lib.hid (by
          rw [HR.out.1, HP.out, List.map_append]
          exact List.take_left' (by rw [List.length_map]; split at hpn <;> omega))
        clear hcs
        go_wp2_with fail
        go_ret
        exact ⟨_, rfl, by rw [HT.out]; exact hown, hbr⟩
set_option maxHeartbeats 400000 in
theorem kFrom_nil (q : Ent) (n : Int) (w : World) : Calls Try.prog 20 #[.pointer none, .string q.user, .int .u64 (q.seq.toNat : Int), .int .i64 n] w fun e w' => e = .returned (.slice none 0 0) ∧ Below w.heap.size w w' := by
  go_enter Try.func20, Try.ntmps20
  go_wp2_with fail
  refine (kFirst_nil q _).mono ?_
  rintro e w2 ⟨rfl, hb2⟩
  go_wp2_with fail
  go_loopw [9, 10] (fun ov av wr => ov = .slice none 0 0 ∧ av = .int .i64 0 ∧ wr = w2) (fun _ _ _ => 0)
  case atStart => exact ⟨rfl, rfl, rfl⟩
  case round =>
    obtain ⟨rfl, rfl, rfl⟩ := hrel
    go_wp2_with fail
    go_ret
    exact ⟨rfl, hb2⟩
theorem rest_top {q : Ent} (h1 : q.user.toList = []) (h2 : q.seq.toNat = 18446744073709551615) (E : List Ent) : restE E q = E := by
  unfold restE
  cases E with
  | nil => rfl
  | cons x E =>
    have h : aheadE x q = false := by
      have h3 : ∀ l : List UInt8, ltB l [] = false := fun l => by cases l <;> rfl
      have h4 := u64_lt x.seq
      unfold aheadE
      rw [h1, h2, h3]
      have : decide (18446744073709551615 < x.seq.toNat) = false := by simp; omega
      rw [this]; simp
    simp [List.dropWhile_cons, h]
theorem topE : ∃ q : Ent, q.user = ⟨#[]⟩ ∧ (q.seq.toNat : Int) = 18446744073709551615 ∧ ∀ E, restE E q = E := by
  refine ⟨⟨⟨#[]⟩, UInt64.ofNat 18446744073709551615, 0, ⟨#[]⟩⟩, rfl, ?_, rest_top ?_ ?_⟩
  · rw [UInt64.toNat_ofNat']; omega
  · simp
  · rw [UInt64.toNat_ofNat']
set_option maxHeartbeats 1000000 in
theorem kAll_any (base L : Nat) (ns : List Nd) (cs : Nat → List Nat) (sz : Nat) (w : World) (h : LiAt w base L ns sz) (hg : Good ns cs) (hn : ns.length ≤ 1000000) (hl : ns.length = (cs 0).length + 1) :
    Calls Try.prog 22 #[.pointer (some ⟨L, 0, none⟩)] w fun e w' => ∃ v, e = .returned v ∧ OE w' w.heap.size v (entsN ns cs) ∧ Below w.heap.size w w' := by
  obtain ⟨q, hq1, hq2, hq3⟩ := topE
  have HK : Hid (∀ w' : World, LiAt w' base L ns sz → Calls Try.prog 20 #[.pointer (some ⟨L, 0, none⟩), .string ⟨#[]⟩, .int .u64 18446744073709551615, .int .i64 ((cs 0).length : Int)] w' fun e w'' => ∃ v, e = .returned v ∧ OE w'' w'.heap.size v (entsN ns cs) ∧ Below w'.heap.size w' w'') := Lib.hid (by
    intro w' h'
    have ht : (entsN ns cs).take (((cs 0).length : Int)).toNat = entsN ns cs := List.take_of_length_le (by unfold entsN; simp)
    have hk := kFrom_any base L ns cs sz q ((cs 0).length : Int) w' h' hg hn hl (by omega) (by omega)
    rw [hq1, hq2, hq3, ht] at hk
    exact hk)
  clear hq1 hq2 hq3
  go_enter Try.func22, Try.ntmps22
  go_wp2_with fail
  refine (kLen_any base L ns sz w h (by omega) hn).mono ?_
  rintro e w2 ⟨rfl, hb2⟩
  go_wp2_with fail
  refine (HK.out w2 (h.on hb2 (Nat.le_refl _))).mono ?_
  rintro e w3 ⟨v3, rfl, hown3, hb3⟩
  go_wp2_with fail
  go_ret
  exact ⟨_, rfl, hown3.rebase hb2.size, bstep hb2 hb3⟩
set_option maxHeartbeats 400000 in
theorem kAll_nil (w : World) : Calls Try.prog 22 #[.pointer none] w fun e w' => e = .returned (.slice none 0 0) ∧ Below w.heap.size w w' := by
  go_enter Try.func22, Try.ntmps22
  go_wp2_with fail
  refine (kLen_nil w).mono ?_
  rintro e w2 ⟨rfl, hb2⟩
  go_wp2_with fail
  obtain ⟨q, hq1, hq2, hq3⟩ := topE
  have hk := kFrom_nil q 0 w2
  rw [hq1, hq2] at hk
  refine hk.mono ?_
  rintro e w3 ⟨rfl, hb3⟩
  go_wp2_with fail
  go_ret
  exact ⟨rfl, bstep hb2 hb3⟩
end Go.Proofs.Ytlphbkhcdnbbnaa
