/-
  What is proved here: what the reference's Derive comes to, at this seat's numbers. Conditions: the lengths; the table of constants.
-/
import Derived.Test.YtjkcdnangmjoeaaDoorMacDerW
namespace Go.Proofs.YtjkcdnangmjoeaaDoor
open Go.RowKit

/-- a key on the way -/
def midK (E : List UInt8) (i : Nat) : List UInt8 := upTo 32 (E.take 32) i ++ upTo 32 (E.drop 32) i
theorem midK_len {E : List UInt8} (h : E.length = 64) {i : Nat} (hi : i ≤ 32) : (midK E i).length = 64 := by
  unfold midK
  rw [List.length_append, upTo_len (by rw [List.length_take]; omega) hi, upTo_len (by rw [List.length_drop]; omega) hi]
theorem midK_step {E : List UInt8} (h : E.length = 64) {i : Nat} (hi : i < 32) {a b : UInt8} (ha : E[i]? = some a) (hb : E[32 + i]? = some b) : ((midK E i).set i a).set (32 + i) b = midK E (i + 1) := by
  have l1 : (E.take 32).length = 32 := by rw [List.length_take]; omega
  have l2 : (E.drop 32).length = 32 := by rw [List.length_drop]; omega
  have u1 := upTo_len l1 (Nat.le_of_lt hi)
  have s1 := upTo_step l1 hi (b := a) (by rw [List.getElem?_take, if_pos hi]; exact ha)
  have s2 := upTo_step l2 hi (b := b) (by rw [List.getElem?_drop]; exact hb)
  unfold midK
  rw [List.set_append_left _ _ (by omega), s1, List.set_append_right _ _ (by rw [upTo_len l1 (by omega)]; omega), upTo_len l1 (by omega), show 32 + i - 32 = i by omega, s2]
theorem midK_0 (E : List UInt8) : midK E 0 = List.replicate 64 0 := by
  unfold midK
  rw [upTo_0, upTo_0]
  rfl
theorem midK_32 {E : List UInt8} (h : E.length = 64) : midK E 32 = E := by
  unfold midK
  rw [upTo_n (by rw [List.length_take]; omega), upTo_n (by rw [List.length_drop]; omega), List.take_append_drop]
section
variable {ops : Array Oper} {rest : List Oper} {o : Oper} {a : Act} {Q : Exit → Act → World → Prop} {w : World}
theorem wl_loadK (hgd : o.guard = none) (x : Operand) (ho : o.op = .load 29 x) (g : Nat) (hx : a.eval x = .pointer (some ⟨g, 0, none⟩)) (cs : Array Value) (hg : w.heap[g]? = some (rowT 29 cs)) (hn : cs.size = 64)
    (h : wpList Tryd.prog ops Q rest (a.put o.dst (.agg cs)) w) : wpList Tryd.prog ops Q (o :: rest) a w :=
  wpList_load_row hgd 29 x ho g hx _ cs (0, 0) _ hg Tryd.underlying29 rfl (by rw [hn]; kernel_rfl) h
end
theorem size64K : (Tryd.prog.info? 29).map (·.size) = some 64 := by kernel_rfl
set_option maxRecDepth 100000 in
set_option maxHeartbeats 2000000 in
theorem rDerive_any (root use : List UInt8) (hr : root.length = 32) (cr kk : Array Value) (hcr : dgA root = cr) (hkk : dgA (keyOfUse root use) = kk) (u : Value) (w : World) (hu : SB w w.heap.size u use) (hl2 : use.length ≤ 140737488353000) (hk : KTab w 0) (h0 : 0 < w.heap.size) :
    Calls Tryd.prog 14 #[.agg cr, u] w fun e w' => e = .returned (.agg kk) ∧ Below w.heap.size w w' := by
  obtain ⟨A2, c2, rfl, _, _, _⟩ := id hu
  have HR := Lib.hid hcr
  have HKK := Lib.hid hkk
  have hcn : cr.size = 32 := by rw [← hcr, dgA_size, hr]
  clear hcr hkk
  go_enter Tryd.func14, Tryd.ntmps14
  go_upto_region 1 with fail
  generalize hWA : World.alloc _ _ = wA
  have rR : wA.heap[w.heap.size]? = some (rowO cr) := by rw [← hWA]; exact heap_alloc2_old w _ _
  have rZ : wA.heap[w.heap.size + 1]? = some (rowT 29 (dgA (List.replicate 64 0))) := by rw [← hWA]; exact (heap_alloc2_new w _ _).trans (by kernel_rfl)
  have bA : Below w.heap.size w wA := by rw [← hWA]; exact balloc (balloc (bself w) _) _
  have zA : w.heap.size + 1 < wA.heap.size := by rw [← hWA]; simp
  clear hWA
  have x1 : (convert 40 40 (.slice (some ⟨wA.heap.size, 0, none⟩) 8 8)).run Tryd.prog (wA.alloc (.cells #[.int .u8 116, .int .u8 97, .int .u8 110, .int .u8 116, .int .u8 97, .int .u8 108, .int .u8 117, .int .u8 115] 5)) = .ok (.slice (some ⟨wA.heap.size, 0, none⟩) 8 8) (wA.alloc (.cells #[.int .u8 116, .int .u8 97, .int .u8 110, .int .u8 116, .int .u8 97, .int .u8 108, .int .u8 117, .int .u8 115] 5 (8, 9))) := Joins.run_convert_bytes_const_at wA 40 5 _ 8 8 _ rfl Tryd.underlying40 Tryd.underlying5
  obtain ⟨wB, hWB⟩ : ∃ wB, wB = wA.alloc (.cells #[.int .u8 116, .int .u8 97, .int .u8 110, .int .u8 116, .int .u8 97, .int .u8 108, .int .u8 117, .int .u8 115] 5 (8, 9)) := ⟨_, rfl⟩
  rw [← hWB] at x1
  have rT : wB.heap[wA.heap.size]? = some (.cells #[.int .u8 116, .int .u8 97, .int .u8 110, .int .u8 116, .int .u8 97, .int .u8 108, .int .u8 117, .int .u8 115] 5 (8, 9)) := by rw [hWB]; exact heap_alloc_new wA _
  have bAB : Below wA.heap.size wA wB := by rw [hWB]; exact balloc (bself wA) _
  have zB : wA.heap.size < wB.heap.size := by rw [hWB]; simp
  clear hWB
  have bB : Below w.heap.size w wB := bA.trans (bAB.mono bA.size)
  have s1 : SB wB wB.heap.size (.slice (some ⟨wA.heap.size, 0, none⟩) 8 8) tant := SB.cells rT rfl rfl zB (by decide)
  have s2 : SB wB wB.heap.size (.slice (some ⟨w.heap.size, 0, none⟩) 32 32) root := SB.ofRow ((bAB.block w.heap.size (by omega)).trans rR) HR.out hr.symm (by omega) (by rw [hr]; simp [maxLen])
  obtain ⟨dx, hdx⟩ : ∃ dx, dgA (macOf tant root) = dx := ⟨_, rfl⟩
  have HDN : Hid (dx.size = 32 ∧ ∀ v ∈ dx.toList, v.oneCell' = true) := Lib.hid (by rw [← hdx]; exact ⟨by rw [dgA_size, macOf_length], dgA_one _⟩)
  have HDX := Lib.hid hdx
  clear hdx
  have HM : Hid (Calls Tryd.prog 27 #[.slice (some ⟨wA.heap.size, 0, none⟩) 8 8, .slice (some ⟨w.heap.size, 0, none⟩) 32 32] wB fun e w' => e = .returned (.agg dx) ∧ Below wB.heap.size wB w') := Lib.hid (rMac_any tant root dx HDX.out _ _ wB s1 s2 (by decide) (by omega) (hk.on0 bB h0) (by have := bB.size; omega))
  clear s1 s2 rT
  go_wp2_with fail
  refine HM.out.mono ?_
  rintro e w2 ⟨rfl, hb2⟩
  clear HM x1
  go_upto_region 2 with (refine wl_storeD rfl (.tmp 5) (.tmp 13) rfl _ rfl _ dx rfl (heap_alloc_new w2 _) (by kernel_rfl) HDN.out.1 HDN.out.2 ?_)
  generalize hw3 : World.setRow _ _ _ = w3
  have rD : w3.heap[w2.heap.size]? = some (rowO dx) := by rw [← hw3]; exact setRow_heap _ _ _ _ _ _ (heap_alloc_new w2 _)
  have b23 : Below w2.heap.size w2 w3 := by rw [← hw3]; exact below_setRow (balloc (bself w2) _) (Nat.le_refl _) _
  have z3 : w2.heap.size < w3.heap.size := by rw [← hw3]; simp
  clear hw3
  have zB2 := hb2.size
  have bA3 : Below wA.heap.size wA w3 := bAB.trans ((hb2.trans (b23.mono zB2)).mono bAB.size)
  have bw3 : Below w.heap.size w w3 := bA.trans (bA3.mono bA.size)
  have zw3 := bw3.size
  have s3 : SB w3 w3.heap.size (.slice (some ⟨w2.heap.size, 0, none⟩) 32 32) (macOf tant root) := SB.ofRow rD HDX.out (macOf_length _ _).symm z3 (by rw [macOf_length]; simp [maxLen])
  clear rD b23
  have HE : Hid (Calls Tryd.prog 28 #[.slice (some ⟨w2.heap.size, 0, none⟩) 32 32, .slice A2 use.length c2, .int .i64 64] w3 fun e w' => ∃ A c, e = .returned (.tuple #[.slice A 64 c, .int .i64 0]) ∧ SB w' w'.heap.size (.slice A 64 c) (keyOfUse root use) ∧ Below w3.heap.size w3 w') := Lib.hid (rExpand_any (macOf tant root) use 64 (by omega) _ _ w3 s3 (hu.on bw3) (by rw [macOf_length]; omega) (by omega) (hk.on0 bw3 h0) (by omega))
  clear s3
  go_wp2_with fail
  refine HE.out.mono ?_
  rintro e w4 ⟨A9, c9, rfl, hs4, hb4⟩
  have b4 : Below wA.heap.size wA w4 := bstep bA3 hb4
  have z4 := b4.size
  have hz4 : w4.heap[w.heap.size + 1]? = some (rowT 29 (dgA (List.replicate 64 0))) := (b4.block (w.heap.size + 1) (by omega)).trans rZ
  have bw4 : Below w.heap.size w w4 := bA.trans (b4.mono bA.size)
  have hE := keyOfUse_length root use
  obtain ⟨E, hEE⟩ : ∃ E, E = keyOfUse root use := ⟨_, rfl⟩
  rw [← hEE] at hs4 hE HKK
  clear hEE
  have HN : Hid (kk.size = 64 ∧ ∀ v ∈ kk.toList, v.oneCell' = true) := Lib.hid (by rw [← HKK.out]; exact ⟨by rw [dgA_size, hE], dgA_one _⟩)
  have hA9 : ∃ b9 o9, A9 = some ⟨b9, o9, none⟩ := by
    obtain ⟨A', c', e, _, _, hr9⟩ := hs4
    injection e with e1 _ _
    subst e1
    obtain ⟨b9, o9, h, _, _⟩ := hr9.at_ (by omega)
    exact ⟨b9, o9, h⟩
  obtain ⟨b9, o9, rfl⟩ := hA9
  have KS : Hid (∀ w', Below w4.heap.size w4 w' → ∀ j (hj : j < 64), w'.cell? ⟨b9, o9 + j, none⟩ = some (.int .u8 ((E[j]'(by omega)).toNat : Int))) := Lib.hid (fun w' h j hj => SB.cellAt (hs4.below h) (by omega))
  have HRR : Hid (∀ w', Below w4.heap.size w4 w' → w'.heap[w.heap.size + 1]? = some (rowT 29 (dgA (List.replicate 64 0))) ∧ (w'.setRow (w.heap.size + 1) kk).heap[w.heap.size + 1]? = some (rowT 29 kk) ∧ Below w.heap.size w (w'.setRow (w.heap.size + 1) kk)) := Lib.hid (fun w' h => by
    have h5 := (h.block (w.heap.size + 1) (by omega)).trans hz4
    exact ⟨h5, setRow_heap _ _ _ _ _ _ h5, below_setRow (bstep bw4 h) (Nat.le_succ _) _⟩)
  have HZ : Hid ((dgA (List.replicate 64 0)).size = 64) := Lib.hid (by rw [dgA_size]; rfl)
  clear hs4 hz4
  go_upto_region 4 with fail
  generalize hw5 : World.alloc _ _ = w5
  have rK : w5.heap[w4.heap.size]? = some (rowT 29 (dgA (midK E 0))) := by rw [← hw5, midK_0]; exact (heap_alloc_new w4 _).trans (by kernel_rfl)
  have b5 : Below w4.heap.size w4 w5 := by rw [← hw5]; exact balloc (bself w4) _
  clear hw5
  go_wp2_with fail
  go_loopw [9] (fun iv wy => ∃ i : Nat, iv = .int .i64 i ∧ i ≤ 32 ∧ wy.heap[w4.heap.size]? = some (rowT 29 (dgA (midK E i))) ∧ Below w4.heap.size w4 wy) (fun iv _ => 32 - (intOf iv).toNat)
  case atStart => exact ⟨0, rfl, by omega, rK, b5⟩
  case round =>
    obtain ⟨i, rfl, hi, hK, hb⟩ := hrel
    clear rK b5
    by_cases hlt : i < 32
    · have lm := midK_len hE (Nat.le_of_lt hlt)
      obtain ⟨d0, f0, s0⟩ := rowT_cell hK (k := i) (by omega)
      have e0 := KS.out wr hb i (by omega)
      obtain ⟨a0, ha0⟩ : ∃ a0, E[i]? = some a0 := ⟨_, List.getElem?_eq_getElem (by omega)⟩
      obtain ⟨a1, ha1⟩ : ∃ a1, E[32 + i]? = some a1 := ⟨_, List.getElem?_eq_getElem (by omega)⟩
      have r0 := s0 a0
      have bb0 : Below w4.heap.size w4 (wr.setCell ⟨w4.heap.size, i, none⟩ (u8v a0)) := hb.setCell (Nat.le_refl _) _
      have e1 := KS.out _ bb0 (32 + i) (by omega)
      have g0 : E[i]'(by omega) = a0 := by rw [List.getElem?_eq_getElem (by omega)] at ha0; injection ha0
      have g1 : E[32 + i]'(by omega) = a1 := by rw [List.getElem?_eq_getElem (by omega)] at ha1; injection ha1
      rw [g0] at e0
      rw [g1] at e1
      obtain ⟨d1, f1, s1⟩ := rowT_cell r0 (k := 32 + i) (by rw [List.length_set]; omega)
      have r1 := s1 a1
      rw [midK_step hE hlt ha0 ha1] at r1
      have bb1 : Below w4.heap.size w4 ((wr.setCell ⟨w4.heap.size, i, none⟩ (u8v a0)).setCell ⟨w4.heap.size, 32 + i, none⟩ (u8v a1)) := bb0.setCell (Nat.le_refl _) _
      have HRB := Lib.hid (And.intro r1 bb1)
      generalize (midK E i)[i]'(by omega) = q0 at d0
      generalize ((midK E i).set i a0)[32 + i]'(by rw [List.length_set]; omega) = q1 at d1
      have t1 : (32 + (i : Int)).toNat = 32 + i := by omega
      clear s0 s1 r0 r1 bb0 bb1 ha0 ha1 g0 g1
      go_wp2_with fail
      go_roundw
      case rel => exact ⟨i + 1, by go_num, by omega, HRB.out⟩
      case measure => simp [intOf]; omega
    · have hi32 : i = 32 := by omega
      subst hi32
      rw [midK_32 hE, HKK.out] at hK
      have h9 := Lib.hid (HRR.out wr hb)
      have HK9 := Lib.hid hK
      clear hK
      go_wp2_with (first
        | (refine wl_loadK rfl (.tmp 8) rfl _ rfl kk HK9.out HN.out.1 ?_)
        | (refine wpList_plain rfl fun _ hK => wp_storeR 29 (.tmp 4) (.tmp 39) rfl _ rfl _ kk rfl h9.out.1 (by rw [HN.out.1]; exact size64K) (by rw [HN.out.1, HZ.out]) (Array.all_eq_true_iff_forall_mem.2 (fun v hv => HN.out.2 v (by simpa using hv))) (hK _ _ ?_)))
      exact bodyPost_ret (v := .agg kk) (res_key Tryd.results14 _ _ _ kk rfl h9.out.2.1 HN.out.1) rfl ⟨rfl, h9.out.2.2⟩
end Go.Proofs.YtjkcdnangmjoeaaDoor
