/-
  What is proved here: what shown of tantaluslaw11 comes to, at this seat's numbers. Condition: the table of constants.
-/
import Derived.Test.YtjmlohfldkbbaaaDoorMerkProof
import Derived.Test.YtjmlohfldkbbaaaDoorMerkCheckW
namespace Go.Proofs.YtjmlohfldkbbaaaDoor
open Go.RowKit Go.Great

section
variable {ops : Array Oper} {rest : List Oper} {o : Oper} {a : Act} {K : Act → World → Prop} {Q : Exit → Act → World → Prop} {w : World}
theorem exec_loadDr (x : Operand) (ho : o.op = .load 31 x) (g : Nat) (hx : a.eval x = .pointer (some ⟨g, 0, none⟩)) (cs : Array Value) (hg : w.heap[g]? = some (rowO cs)) (hn : cs.size = 32) :
    (execOp a.eval o).run Tryd.prog w = .ok (.value (.agg cs)) w := by
  unfold execOp
  simp only [ho, hx, Instr.loadAt, Instr.sureAddr, Sem.run_bind, Sem.run_pure, Result.andThen_ok, run_loadVar_row w g 31 31 cs (0, 0) _ hg Tryd.underlying31 rfl (by rw [hn]; kernel_rfl)]
theorem wl_loadDg (hgd : Region.wanted o (yielded ops a.tmps) = true) (x : Operand) (ho : o.op = .load 31 x) (g : Nat) (hx : a.eval x = .pointer (some ⟨g, 0, none⟩)) (cs : Array Value) (hg : w.heap[g]? = some (rowO cs)) (hn : cs.size = 32)
    (h : wpList Tryd.prog ops Q rest (a.put o.dst (.agg cs)) w) : wpList Tryd.prog ops Q (o :: rest) a w :=
  wl_of hgd fun _ hK => wp_exec (exec_loadDr x ho g hx cs hg hn) (hK _ _ h)
theorem fillN (l : List (Array Value)) (hl : ∀ c ∈ l, c.size = 32) : Instr.fill (fun i => some (i * 32, 32)) ((Array.range (l.length * 32)).map ((dgA (List.replicate 32 0))[· % (dgA (List.replicate 32 0)).size]!)) (((l.map Value.agg).zipIdx 0).map fun x => (x.2, x.1)) = some (l.flatMap fun c => c.toList).toArray := by
  have h := fill_whole (s := 32) (by omega) (l.map Value.agg) ((Array.range (l.length * 32)).map ((dgA (List.replicate 32 0))[· % (dgA (List.replicate 32 0)).size]!)) (fun v hv => by obtain ⟨c, hc, rfl⟩ := List.mem_map.1 hv; exact hl c hc) (by simp)
  rw [h, List.flatMap_map]
  rfl
theorem wl_buildD1g (hgd : Region.wanted o (yielded ops a.tmps) = true) (x : Operand) (ho : o.op = .buildSlice 22 1 #[(0, x)]) (c : Array Value) (hx : a.eval x = .agg c) (hc : c.size = 32)
    (h : wpList Tryd.prog ops Q rest (a.put o.dst (.slice (some ⟨w.heap.size, 0, none⟩) 1 1)) (w.alloc (.cells c 31))) : wpList Tryd.prog ops Q (o :: rest) a w :=
  wl_of hgd fun _ hK => wp_buildD x ho c hx hc (hK _ _ h)
theorem wl_buildD2g (hgd : Region.wanted o (yielded ops a.tmps) = true) (x y : Operand) (ho : o.op = .buildSlice 22 2 #[(0, x), (1, y)]) (c d : Array Value) (hx : a.eval x = .agg c) (hy : a.eval y = .agg d) (hc : c.size = 32) (hd : d.size = 32) (cc : Array Value) (hcc : c ++ d = cc)
    (h : wpList Tryd.prog ops Q rest (a.put o.dst (.slice (some ⟨w.heap.size, 0, none⟩) 2 2)) (w.alloc (.cells cc 31))) : wpList Tryd.prog ops Q (o :: rest) a w := by
  subst hcc
  obtain ⟨i0, hi0, hz0, hz1, hz2⟩ := info_parts infoD
  refine wl_of hgd fun K hK => wp_buildSlice 22 31 2 _ ho (c ++ d) i0 _ Tryd.underlying22 hi0 hz0 (by rw [hz1]; decide) (by rw [hz1]; decide) ?_ (hK _ _ h)
  rw [hz1]
  simp only [List.map_toArray, List.map_cons, List.map_nil, hx, hy]
  have hf := fillN [c, d] (by intro e he; simp at he; rcases he with rfl | rfl <;> assumption)
  have e : ([c, d].flatMap fun c => c.toList).toArray = c ++ d := by simp
  rw [e] at hf
  exact hf
theorem wl_buildD3g (hgd : Region.wanted o (yielded ops a.tmps) = true) (x y z : Operand) (ho : o.op = .buildSlice 22 3 #[(0, x), (1, y), (2, z)]) (c d f : Array Value) (hx : a.eval x = .agg c) (hy : a.eval y = .agg d) (hz : a.eval z = .agg f) (hc : c.size = 32) (hd : d.size = 32) (hf : f.size = 32) (cc : Array Value) (hcc : c ++ (d ++ f) = cc)
    (h : wpList Tryd.prog ops Q rest (a.put o.dst (.slice (some ⟨w.heap.size, 0, none⟩) 3 3)) (w.alloc (.cells cc 31))) : wpList Tryd.prog ops Q (o :: rest) a w := by
  subst hcc
  obtain ⟨i0, hi0, hz0, hz1, hz2⟩ := info_parts infoD
  refine wl_of hgd fun K hK => wp_buildSlice 22 31 3 _ ho (c ++ (d ++ f)) i0 _ Tryd.underlying22 hi0 hz0 (by rw [hz1]; decide) (by rw [hz1]; decide) ?_ (hK _ _ h)
  rw [hz1]
  simp only [List.map_toArray, List.map_cons, List.map_nil, hx, hy, hz]
  have hff := fillN [c, d, f] (by intro e he; simp at he; rcases he with rfl | rfl | rfl <;> assumption)
  have e : ([c, d, f].flatMap fun c => c.toList).toArray = c ++ (d ++ f) := by simp
  rw [e] at hff
  exact hff
theorem wl_buildC (hgd : o.guard = none) (b : Operand) (ho : o.op = .build 31 #[(0, b)]) (u : Value) (hb : a.eval b = u) (c : Array Value) (hc : Tryd.prog.built 31 [(0, u)] = some c)
    (h : wpList Tryd.prog ops Q rest (a.put o.dst (.agg c)) w) : wpList Tryd.prog ops Q (o :: rest) a w := by
  refine wpList_plain hgd fun K hK => wp_exec (v := .agg c) ?_ (hK _ _ h)
  have hr := run_build (P := Tryd.prog) w 31 #[(0, u)] c hc
  unfold execOp
  simp only [ho, List.map_toArray, List.map_cons, List.map_nil, hb, Sem.run_bind, Sem.run_pure, Result.andThen_ok, hr]
end
theorem alloc3a (w : World) (x y z : Obj) : (((w.alloc x).alloc y).alloc z).heap[w.heap.size]? = some x := (alloc3 w x y z).1.1
theorem alloc3b (w : World) (x y z : Obj) : (((w.alloc x).alloc y).alloc z).heap[w.heap.size + 1]? = some y := (alloc3 w x y z).1.2.1
theorem alloc3c (w : World) (x y z : Obj) : (((w.alloc x).alloc y).alloc z).heap[w.heap.size + 1 + 1]? = some z := (alloc3 w x y z).1.2.2
def dOne (b : UInt8) : Dg := ⟨b :: List.replicate 31 0, by simp⟩
theorem built1 : Tryd.prog.built 31 [(0, .int .u8 1)] = some (dgA (dOne 1).1) := by kernel_rfl
theorem built2 : Tryd.prog.built 31 [(0, .int .u8 2)] = some (dgA (dOne 2).1) := by kernel_rfl
theorem built3 : Tryd.prog.built 31 [(0, .int .u8 3)] = some (dgA (dOne 3).1) := by kernel_rfl
theorem SD.newN (w : World) (l : List Dg) (cs : Array Value) (hcs : cs.toList = dcs l) {g B n : Nat} (hn : n = l.length) (hg : g = w.heap.size) (hB : g < B) (hm : l.length ≤ maxLen) : SD (w.alloc (.cells cs 31)) B (.slice (some ⟨g, 0, none⟩) n n) l := by
  subst hn
  refine ⟨_, _, rfl, Nat.le_refl _, hm, ?_⟩
  have h := Rd.newBlock (size := 32) w cs 31 hg hB (n := l.length) (by rw [← dcs_length, ← hcs]; simp)
  rw [hcs] at h
  exact h
theorem proof3_2 (z a b c : Dg) : proofR jnD z [a, b, c] 2 = [rootR jnD z [a, b]] := by
  have e : part ([a, b, c] : List Dg).length = 2 := by rw [part_big (by simp)]; rw [part_small (by simp)]
  rw [proofR_right jnD z (by simp) (by rw [e]; omega), e]
  rw [proofR_small jnD z _ (by simp)]
  rfl
theorem proof3_0 (z a b c : Dg) : proofR jnD z [a, b, c] 0 = [b, c] := by
  have e : part ([a, b, c] : List Dg).length = 2 := by rw [part_big (by simp)]; rw [part_small (by simp)]
  have e2 : part ([a, b] : List Dg).length = 1 := part_small (by simp)
  rw [proofR_left jnD z (by simp) (by rw [e]; omega), e]
  show proofR jnD z [a, b] 0 ++ [rootR jnD z [c]] = _
  rw [proofR_left jnD z (by simp) (by rw [e2]; omega), e2, rootR_one]
  show (proofR jnD z [a] 0 ++ [rootR jnD z [b]]) ++ [c] = _
  rw [proofR_small jnD z _ (by simp), rootR_one]
  rfl
theorem zD4 : zD.1.take 4 = [219, 193, 180, 201] := by decide +kernel
theorem check1 (a b : Dg) : decide (checkD a 1 0 b []) = decide (b = a) := by
  rw [decide_eq_decide]
  unfold checkD
  rw [show ((1 : Int)).toNat = 1 from rfl, dirs_small _ (by omega)]
  simp [climb]
theorem one_ne : ¬ dOne 2 = dOne 1 := by
  intro h
  have := congrArg (fun d : Dg => d.1.head?) h
  simp [dOne] at this
set_option maxRecDepth 100000 in
set_option maxHeartbeats 2000000 in
theorem shown11_any (w : World) (hk : KTab w 1) (h1 : 1 < w.heap.size) : Calls Tryd.prog 12 #[] w fun e w' => e = .returned (.bool true) ∧ Below w.heap.size w w' := by
  obtain ⟨d1, hd1⟩ : ∃ d1, d1 = dOne 1 := ⟨_, rfl⟩
  obtain ⟨d2, hd2⟩ : ∃ d2, d2 = dOne 2 := ⟨_, rfl⟩
  obtain ⟨d3, hd3⟩ : ∃ d3, d3 = dOne 3 := ⟨_, rfl⟩
  have B1 : Tryd.prog.built 31 [(0, .int .u8 1)] = some (dgA d1.1) := by rw [hd1]; exact built1
  have B2 : Tryd.prog.built 31 [(0, .int .u8 2)] = some (dgA d2.1) := by rw [hd2]; exact built2
  have B3 : Tryd.prog.built 31 [(0, .int .u8 3)] = some (dgA d3.1) := by rw [hd3]; exact built3
  have HNE : Hid (¬ d2 = d1) := Lib.hid (by rw [hd1, hd2]; exact one_ne)
  clear hd1 hd2 hd3
  obtain ⟨cz, hcz⟩ : ∃ cz, dgA zD.1 = cz := ⟨_, rfl⟩
  have HCZ := Lib.hid hcz
  have HNZ : Hid (cz.size = 32 ∧ ∀ v ∈ cz.toList, v.oneCell' = true) := Lib.hid (by rw [← hcz]; exact ⟨dgA_n _, dgA_one _⟩)
  clear hcz
  go_enter Tryd.func12, Tryd.ntmps12
  have HRT := Lib.hid (kRoot_any [] (by simp) (.slice none 0 0) cz (by rw [rootR_nil]; exact HCZ.out) w (SD.nil_ _ _) hk h1)
  go_wp2_with fail
  refine HRT.out.mono ?_
  rintro e w1 ⟨rfl, hb1⟩
  have z1 := hb1.size
  go_upto_region 2 with (refine wl_storeD rfl (.tmp 1) (.tmp 9) rfl _ rfl _ cz rfl (heap_alloc_new w1 _) (by kernel_rfl) HNZ.out.1 HNZ.out.2 ?_)
  generalize hw2 : World.setRow _ _ _ = w2
  have rZ : w2.heap[w1.heap.size]? = some (rowO cz) := by rw [← hw2]; exact setRow_heap _ _ _ _ _ _ (heap_alloc_new w1 _)
  have b12 : Below w1.heap.size w1 w2 := by rw [← hw2]; exact below_setRow (balloc (bself w1) _) (Nat.le_refl _) _
  have z2 : w1.heap.size < w2.heap.size := by rw [← hw2]; simp
  clear hw2 HRT
  have b2 := bstep hb1 b12
  go_upto_region 3 with (first
    | (refine wl_buildC rfl (.const (.int .u8 1)) rfl _ rfl (dgA d1.1) B1 ?_)
    | (refine wl_buildC rfl (.const (.int .u8 2)) rfl _ rfl (dgA d2.1) B2 ?_)
    | (refine wl_buildC rfl (.const (.int .u8 3)) rfl _ rfl (dgA d3.1) B3 ?_)
    | (refine wl_storeD rfl (.tmp 2) (.tmp 10) rfl _ rfl _ (dgA d1.1) rfl (by exact alloc3a w2 _ _ _) (by kernel_rfl) (dgA_n d1) (dgA_one _) ?_)
    | (refine wl_storeD rfl (.tmp 3) (.tmp 11) rfl _ rfl _ (dgA d2.1) rfl (by rw [setRow_other _ _ _ _ (by omega)]; exact alloc3b w2 _ _ _) (by kernel_rfl) (dgA_n d2) (dgA_one _) ?_)
    | (refine wl_storeD rfl (.tmp 4) (.tmp 12) rfl _ rfl _ (dgA d3.1) rfl (by rw [setRow_other _ _ _ _ (by omega), setRow_other _ _ _ _ (by omega)]; exact alloc3c w2 _ _ _) (by kernel_rfl) (dgA_n d3) (dgA_one _) ?_))
  generalize hw3 : World.setRow _ _ _ = w3
  have hR3 : w3.heap[w2.heap.size]? = some (rowO (dgA d1.1)) ∧ w3.heap[w2.heap.size + 1]? = some (rowO (dgA d2.1)) ∧ w3.heap[w2.heap.size + 1 + 1]? = some (rowO (dgA d3.1)) := by
    rw [← hw3]
    refine ⟨?_, ?_, ?_⟩
    · exact (setRow_other _ _ _ _ (by omega)).trans ((setRow_other _ _ _ _ (by omega)).trans (setRow_heap _ _ _ _ _ _ (alloc3a w2 _ _ _)))
    · exact (setRow_other _ _ _ _ (by omega)).trans (setRow_heap _ _ _ _ _ _ ((setRow_other _ _ _ _ (by omega)).trans (alloc3b w2 _ _ _)))
    · exact setRow_heap _ _ _ _ _ _ ((setRow_other _ _ _ _ (by omega)).trans ((setRow_other _ _ _ _ (by omega)).trans (alloc3c w2 _ _ _)))
  have b23 : Below w2.heap.size w2 w3 := by rw [← hw3]; exact below_setRow (below_setRow (below_setRow (balloc (balloc (balloc (bself w2) _) _) _) (Nat.le_refl _) _) (by omega) _) (by omega) _
  have z3 : w2.heap.size + 2 < w3.heap.size := by rw [← hw3]; simp
  clear hw3 B1 B2 B3
  have b3 := bstep b2 b23
  have KR : Hid (∀ w', Below w3.heap.size w3 w' → w'.heap[w2.heap.size]? = some (rowO (dgA d1.1)) ∧ w'.heap[w2.heap.size + 1]? = some (rowO (dgA d2.1)) ∧ w'.heap[w2.heap.size + 1 + 1]? = some (rowO (dgA d3.1)) ∧ w'.heap[w1.heap.size]? = some (rowO cz)) := Lib.hid (fun w' h => by
    obtain ⟨h1, h2, h3⟩ := hR3
    exact ⟨(h.block _ (by omega)).trans h1, (h.block _ (by omega)).trans h2, (h.block _ (by omega)).trans h3, (h.block _ (by omega)).trans ((b23.block _ z2).trans rZ)⟩)
  have HK : Hid (∀ w', Below w3.heap.size w3 w' → KTab w' 1 ∧ 1 < w'.heap.size) := Lib.hid (fun w' h => ⟨hk.on (bstep b3 h) h1, by have := (bstep b3 h).size; omega⟩)
  have n1 := dgA_n d1
  have n2 := dgA_n d2
  have n3 := dgA_n d3
  obtain ⟨cc, hcc⟩ : ∃ cc, dgA d1.1 ++ (dgA d2.1 ++ dgA d3.1) = cc := ⟨_, rfl⟩
  have s123 : ∀ W : World, SD (W.alloc (.cells cc 31)) (W.alloc (.cells cc 31)).heap.size (.slice (some ⟨W.heap.size, 0, none⟩) 3 3) [d1, d2, d3] := fun W => SD.newN W [d1, d2, d3] _ (by rw [← hcc]; simp [dcs]) rfl rfl (by simp) (by simp [maxLen])
  have HCC := Lib.hid hcc
  clear hcc
  have H123 := Lib.hid s123
  have HP2 : Hid (∀ x, Below w3.heap.size w3 x → Calls Tryd.prog 9 #[.slice (some ⟨x.heap.size, 0, none⟩) 3 3, .int .i64 2] (x.alloc (.cells cc 31)) fun e w' => ∃ u, e = .returned (.tuple #[u, .int .i64 0]) ∧ SD w' w'.heap.size u [rootR jnD zD [d1, d2]] ∧ Below x.heap.size x w') := Lib.hid (fun x hx => by
    have hb := balloc hx (.cells cc 31)
    rw [← proof3_2 zD d1 d2 d3]
    exact (kProof_any [d1, d2, d3] (by simp) 2 (by simp) _ _ (H123.out x) (HK.out _ hb).1 (HK.out _ hb).2).mono fun e w' ⟨u, he, hs, h⟩ => ⟨u, he, hs, bstep (balloc (bself x) _) h⟩)
  have HP0 : Hid (∀ x, Below w3.heap.size w3 x → Calls Tryd.prog 9 #[.slice (some ⟨x.heap.size, 0, none⟩) 3 3, .int .i64 0] (x.alloc (.cells cc 31)) fun e w' => ∃ u, e = .returned (.tuple #[u, .int .i64 0]) ∧ SD w' w'.heap.size u [d2, d3] ∧ Below x.heap.size x w') := Lib.hid (fun x hx => by
    have hb := balloc hx (.cells cc 31)
    rw [← proof3_0 zD d1 d2 d3]
    exact (kProof_any [d1, d2, d3] (by simp) 0 (by simp) _ _ (H123.out x) (HK.out _ hb).1 (HK.out _ hb).2).mono fun e w' ⟨u, he, hs, h⟩ => ⟨u, he, hs, bstep (balloc (bself x) _) h⟩)
  clear hR3 s123 rZ
  obtain ⟨r1, r2, r3, _⟩ := KR.out w3 (bself w3)
  go_wp2_with (first
    | (refine wl_loadD rfl (.tmp 2) rfl _ rfl (dgA d1.1) r1 n1 ?_)
    | (refine wl_loadD rfl (.tmp 3) rfl _ rfl (dgA d2.1) r2 n2 ?_)
    | (refine wl_loadD rfl (.tmp 4) rfl _ rfl (dgA d3.1) r3 n3 ?_)
    | (refine wl_buildD3g rfl (.tmp 14) (.tmp 15) (.tmp 16) rfl _ _ _ rfl rfl rfl n1 n2 n3 cc HCC.out ?_))
  refine (HP2.out w3 (bself w3)).mono ?_
  rintro e w4 ⟨u4, rfl, hs4, b4⟩
  clear r1 r2 r3
  obtain ⟨r1, r2, r3, _⟩ := KR.out w4 b4
  go_wp2_with (first
    | (refine wl_loadD rfl (.tmp 2) rfl _ rfl (dgA d1.1) r1 n1 ?_)
    | (refine wl_loadD rfl (.tmp 3) rfl _ rfl (dgA d2.1) r2 n2 ?_)
    | (refine wl_loadD rfl (.tmp 4) rfl _ rfl (dgA d3.1) r3 n3 ?_)
    | (refine wl_buildD3g rfl (.tmp 22) (.tmp 23) (.tmp 24) rfl _ _ _ rfl rfl rfl n1 n2 n3 cc HCC.out ?_))
  refine (HP0.out w4 b4).mono ?_
  rintro e w5 ⟨u5, rfl, hs5, hb5⟩
  have b5 := bstep b4 hb5
  clear r1 r2 r3 HP2 HP0 H123 HCC
  have hs45 : SD w5 w5.heap.size u4 [rootR jnD zD [d1, d2]] := hs4.on hb5
  obtain ⟨r12, hr12⟩ : ∃ r12, r12 = rootR jnD zD [d1, d2] := ⟨_, rfl⟩
  rw [← hr12] at hs45
  have n12 := dgA_n r12
  obtain ⟨c12, hc12⟩ : ∃ c12, dgA d1.1 ++ dgA d2.1 = c12 := ⟨_, rfl⟩
  obtain ⟨c23, hc23⟩ : ∃ c23, dgA d2.1 ++ dgA d3.1 = c23 := ⟨_, rfl⟩
  have HRT2 : Hid (∀ x, Below w5.heap.size w5 x → Calls Tryd.prog 16 #[.slice (some ⟨x.heap.size, 0, none⟩) 2 2] (x.alloc (.cells c12 31)) fun e w' => e = .returned (.agg (dgA r12.1)) ∧ Below w5.heap.size w5 w') := Lib.hid (fun x hx => by
    have hb := balloc hx (.cells c12 31)
    exact (kRoot_any [d1, d2] (by simp) _ (dgA r12.1) (by rw [hr12]) _ (SD.newN x [d1, d2] _ (by rw [← hc12]; simp [dcs]) rfl rfl (by simp) (by simp [maxLen])) (HK.out _ (bstep b5 hb)).1 (HK.out _ (bstep b5 hb)).2).mono fun e w' ⟨he, h⟩ => ⟨he, bstep hb h⟩)
  have HS4 : Hid (∀ x, Below w5.heap.size w5 x → Calls Tryd.prog 13 #[u4, .slice (some ⟨x.heap.size, 0, none⟩) 1 1] (x.alloc (.cells (dgA r12.1) 31)) fun e w' => e = .returned (.bool true) ∧ Below w5.heap.size w5 w') := Lib.hid (fun x hx => by
    have hb := balloc hx (.cells (dgA r12.1) 31)
    have h := same_any [r12] [r12] u4 (.slice (some ⟨x.heap.size, 0, none⟩) 1 1) (x.alloc (.cells (dgA r12.1) 31)) (x.alloc (.cells (dgA r12.1) 31)).heap.size (hs45.on hb) (SD.newN x [r12] _ (by simp [dcs]) rfl rfl (by simp) (by simp [maxLen])) (Nat.le_refl _)
    rw [show decide ([r12] = [r12]) = true by simp] at h
    exact h.mono fun e w' ⟨he, h⟩ => ⟨he, bstep hb h⟩)
  have HS5 : Hid (∀ x, Below w5.heap.size w5 x → Calls Tryd.prog 13 #[u5, .slice (some ⟨x.heap.size, 0, none⟩) 2 2] (x.alloc (.cells c23 31)) fun e w' => e = .returned (.bool true) ∧ Below w5.heap.size w5 w') := Lib.hid (fun x hx => by
    have hb := balloc hx (.cells c23 31)
    have h := same_any [d2, d3] [d2, d3] u5 (.slice (some ⟨x.heap.size, 0, none⟩) 2 2) (x.alloc (.cells c23 31)) (x.alloc (.cells c23 31)).heap.size (hs5.on hb) (SD.newN x [d2, d3] _ (by rw [← hc23]; simp [dcs]) rfl rfl (by simp) (by simp [maxLen])) (Nat.le_refl _)
    rw [show decide ([d2, d3] = [d2, d3]) = true by simp] at h
    exact h.mono fun e w' ⟨he, h⟩ => ⟨he, bstep hb h⟩)
  have HC1 : Hid (∀ x, Below w5.heap.size w5 x → Calls Tryd.prog 14 #[.agg (dgA d1.1), .int .i64 1, .int .i64 0, .agg (dgA d1.1), .slice none 0 0] x fun e w' => e = .returned (.bool true) ∧ Below w5.heap.size w5 w') := Lib.hid (fun x hx => by
    have h := kCheck_any d1 d1 1 0 [] (.slice none 0 0) x (by omega) (SD.nil_ _ _) (HK.out _ (bstep b5 hx)).1 (HK.out _ (bstep b5 hx)).2
    rw [check1, show decide (d1 = d1) = true by simp] at h
    exact h.mono fun e w' ⟨he, h⟩ => ⟨he, bstep hx h⟩)
  have HC2 : Hid (∀ x, Below w5.heap.size w5 x → Calls Tryd.prog 14 #[.agg (dgA d1.1), .int .i64 1, .int .i64 0, .agg (dgA d2.1), .slice none 0 0] x fun e w' => e = .returned (.bool false) ∧ Below w5.heap.size w5 w') := Lib.hid (fun x hx => by
    have h := kCheck_any d1 d2 1 0 [] (.slice none 0 0) x (by omega) (SD.nil_ _ _) (HK.out _ (bstep b5 hx)).1 (HK.out _ (bstep b5 hx)).2
    rw [check1, show decide (d2 = d1) = false by simp [HNE.out]] at h
    exact h.mono fun e w' ⟨he, h⟩ => ⟨he, bstep hx h⟩)
  have KR5 : Hid (∀ w', Below w5.heap.size w5 w' → w'.heap[w2.heap.size]? = some (rowO (dgA d1.1)) ∧ w'.heap[w2.heap.size + 1]? = some (rowO (dgA d2.1)) ∧ w'.heap[w2.heap.size + 1 + 1]? = some (rowO (dgA d3.1))) := Lib.hid (fun w' h => by
    obtain ⟨q1, q2, q3, _⟩ := KR.out w' (bstep b5 h)
    exact ⟨q1, q2, q3⟩)
  have xs1 : (convert 40 9 (.slice (some ⟨w1.heap.size, 0, none⟩) 4 32)).run Tryd.prog w5 = .ok (.string ⟨#[219, 193, 180, 201]⟩) w5 := run_b2s w5 _ (w1.heap.size + 1) [219, 193, 180, 201] (by
    rw [← zD4]
    have h := SB.cells (C := cz) (n := 32) (B := w1.heap.size + 1) (l := zD.1) (KR.out w5 b5).2.2.2 (by rw [← HCZ.out]) (by rw [zD.2]) (by omega) (by rw [zD.2]; simp [maxLen])
    unfold SB at h ⊢
    rw [zD.2] at h
    have h2 := Sl.take h (k := 4) (by omega) rfl
    rw [List.length_take, zD.2, bv_take]
    exact h2)
  have HCC12 := Lib.hid hc12
  have HCC23 := Lib.hid hc23
  have HB5 := Lib.hid (bstep b3 b5)
  clear hs45 hs5 hs4 hr12 hc12 hc23 b4 b5 hb5 KR HK b3 b23 b2 hb1 b12
  obtain ⟨r1, r2, r3⟩ := KR5.out w5 (bself w5)
  go_wp2_with (first
    | (refine wl_loadDg rfl (.tmp 2) rfl _ rfl (dgA d1.1) r1 n1 ?_)
    | (refine wl_loadDg rfl (.tmp 3) rfl _ rfl (dgA d2.1) r2 n2 ?_)
    | (refine wl_loadDg rfl (.tmp 4) rfl _ rfl (dgA d3.1) r3 n3 ?_)
    | (refine wl_buildD2g rfl (.tmp 34) (.tmp 35) rfl _ _ rfl rfl n1 n2 c12 HCC12.out ?_)
    | (refine wl_buildD1g rfl (.tmp 37) rfl _ rfl n12 ?_)
    | (refine wl_buildD2g rfl (.tmp 43) (.tmp 44) rfl _ _ rfl rfl n2 n3 c23 HCC23.out ?_))
  refine (HRT2.out w5 (bself w5)).mono ?_
  rintro e w6 ⟨rfl, b6⟩
  clear r1 r2 r3
  obtain ⟨r1, r2, r3⟩ := KR5.out w6 b6
  go_wp2_with (first
    | (refine wl_loadDg rfl (.tmp 2) rfl _ rfl (dgA d1.1) r1 n1 ?_)
    | (refine wl_loadDg rfl (.tmp 3) rfl _ rfl (dgA d2.1) r2 n2 ?_)
    | (refine wl_loadDg rfl (.tmp 4) rfl _ rfl (dgA d3.1) r3 n3 ?_)
    | (refine wl_buildD2g rfl (.tmp 34) (.tmp 35) rfl _ _ rfl rfl n1 n2 c12 HCC12.out ?_)
    | (refine wl_buildD1g rfl (.tmp 37) rfl _ rfl n12 ?_)
    | (refine wl_buildD2g rfl (.tmp 43) (.tmp 44) rfl _ _ rfl rfl n2 n3 c23 HCC23.out ?_))
  refine (HS4.out w6 b6).mono ?_
  rintro e w7 ⟨rfl, b7⟩
  clear r1 r2 r3
  obtain ⟨r1, r2, r3⟩ := KR5.out w7 b7
  go_wp2_with (first
    | (refine wl_loadDg rfl (.tmp 2) rfl _ rfl (dgA d1.1) r1 n1 ?_)
    | (refine wl_loadDg rfl (.tmp 3) rfl _ rfl (dgA d2.1) r2 n2 ?_)
    | (refine wl_loadDg rfl (.tmp 4) rfl _ rfl (dgA d3.1) r3 n3 ?_)
    | (refine wl_buildD2g rfl (.tmp 34) (.tmp 35) rfl _ _ rfl rfl n1 n2 c12 HCC12.out ?_)
    | (refine wl_buildD1g rfl (.tmp 37) rfl _ rfl n12 ?_)
    | (refine wl_buildD2g rfl (.tmp 43) (.tmp 44) rfl _ _ rfl rfl n2 n3 c23 HCC23.out ?_))
  refine (HS5.out w7 b7).mono ?_
  rintro e w8 ⟨rfl, b8⟩
  clear r1 r2 r3
  obtain ⟨r1, r2, r3⟩ := KR5.out w8 b8
  go_wp2_with (first
    | (refine wl_loadDg rfl (.tmp 2) rfl _ rfl (dgA d1.1) r1 n1 ?_)
    | (refine wl_loadDg rfl (.tmp 3) rfl _ rfl (dgA d2.1) r2 n2 ?_)
    | (refine wl_loadDg rfl (.tmp 4) rfl _ rfl (dgA d3.1) r3 n3 ?_)
    | (refine wl_buildD2g rfl (.tmp 34) (.tmp 35) rfl _ _ rfl rfl n1 n2 c12 HCC12.out ?_)
    | (refine wl_buildD1g rfl (.tmp 37) rfl _ rfl n12 ?_)
    | (refine wl_buildD2g rfl (.tmp 43) (.tmp 44) rfl _ _ rfl rfl n2 n3 c23 HCC23.out ?_))
  refine (HC1.out w8 b8).mono ?_
  rintro e w9 ⟨rfl, b9⟩
  clear r1 r2 r3
  obtain ⟨r1, r2, r3⟩ := KR5.out w9 b9
  go_wp2_with (first
    | (refine wl_loadDg rfl (.tmp 2) rfl _ rfl (dgA d1.1) r1 n1 ?_)
    | (refine wl_loadDg rfl (.tmp 3) rfl _ rfl (dgA d2.1) r2 n2 ?_)
    | (refine wl_loadDg rfl (.tmp 4) rfl _ rfl (dgA d3.1) r3 n3 ?_)
    | (refine wl_buildD2g rfl (.tmp 34) (.tmp 35) rfl _ _ rfl rfl n1 n2 c12 HCC12.out ?_)
    | (refine wl_buildD1g rfl (.tmp 37) rfl _ rfl n12 ?_)
    | (refine wl_buildD2g rfl (.tmp 43) (.tmp 44) rfl _ _ rfl rfl n2 n3 c23 HCC23.out ?_))
  refine (HC2.out w9 b9).mono ?_
  rintro e w10 ⟨rfl, b10⟩
  go_wp2_with fail
  go_ret
  exact ⟨rfl, bstep HB5.out b10⟩
end Go.Proofs.YtjmlohfldkbbaaaDoor
