/-
  What is proved here: what Proof of package merkle comes to, at this seat's numbers. Conditions: the list's length; the table of constants.
-/
import Derived.Test.YtjmlohfldkbbaaaDoorMerkSame
import Derived.Test.YtjmlohfldkbbaaaDoorLawRow
namespace Go.Proofs.YtjmlohfldkbbaaaDoor
open Go.RowKit

theorem below_setCells {B : Nat} {w0 : World} {G : Nat} (hB : B ≤ G) : ∀ (vs : List Value) (o : Nat) (w : World), Below B w0 w → Below B w0 (w.setCells G o vs)
  | [], _, _, h => h
  | v :: r, o, w, h => below_setCells hB r (o + 1) _ (h.setCell hB v)
theorem kProof_bad (l : List Dg) (v : Value) (m : Int) (hm : m < 0 ∨ (l.length : Int) ≤ m) (w : World) (B : Nat) (hv : SD w B v l) : Calls Tryd.prog 9 #[v, .int .i64 m] w fun e w' => e = .returned (.tuple #[.slice none 0 0, .int .i64 2]) ∧ w' = w := by
  obtain ⟨A, c0, rfl, _, _⟩ := hv.form
  go_enter Tryd.func9, Tryd.ntmps9
  by_cases h0 : m < 0
  · go_wp2_with fail
    exact bodyPost_ret (v := .tuple #[.slice none 0 0, .int .i64 2]) (by simp [results, Tryd.results9, go_sem]) rfl ⟨rfl, rfl⟩
  · have h8 : (l.length : Int) ≤ m := by omega
    go_wp2_with fail
    exact bodyPost_ret (v := .tuple #[.slice none 0 0, .int .i64 2]) (by simp [results, Tryd.results9, go_sem]) rfl ⟨rfl, rfl⟩
theorem mkD (w : World) (m : Nat) (hm : m ≤ 2000) : ∃ M : Array Value, (Instr.makeSlice 22 (.int .i64 (m : Int)) (.int .i64 (m : Int))).run Tryd.prog w = .ok (.slice (some ⟨w.heap.size, 0, none⟩) m m) (w.alloc (.cells M 31)) ∧ (w.alloc (.cells M 31)).there w.heap.size 0 (m * 32) := by
  obtain ⟨i0, hi0, hz0, hz1, hz2⟩ := info_parts infoD
  have h := run_make (P := Tryd.prog) w 22 31 i0 _ Tryd.underlying22 hi0 hz0 .i64 .i64 (m : Int) (m : Int) (by omega) (by omega) (by rw [hz2]; omega) (by omega)
  rw [hz1, Int.toNat_natCast] at h
  refine ⟨_, h, fun j hj => ?_⟩
  have e := heap_alloc_new w (.cells (madeCells (Value.agg (dgA (List.replicate 32 0))).cells (m * 32)) 31)
  rw [Nat.zero_add]
  refine ⟨?_, by simp only [World.frozen?, e]; simp⟩
  rw [cell_of_row _ _ j _ _ _ e]
  have hs : (madeCells (Value.agg (dgA (List.replicate 32 0))).cells (m * 32)).size = m * 32 := by simp [madeCells]
  rw [Array.getElem?_eq_getElem (by omega)]
  rfl
set_option maxRecDepth 100000 in
set_option maxHeartbeats 2000000 in
theorem kProof_any (l : List Dg) (hl : l.length ≤ 2000) (i : Nat) (hi : i < l.length) (v : Value) (w : World) (hv : SD w w.heap.size v l) (hk : KTab w 1) (h1 : 1 < w.heap.size) :
    Calls Tryd.prog 9 #[v, .int .i64 (i : Int)] w fun e w' => ∃ u, e = .returned (.tuple #[u, .int .i64 0]) ∧ SD w' w'.heap.size u (proofR jnD zD l i) ∧ Below w.heap.size w w' := by
  obtain ⟨b, o, c0, rfl, hbl, _⟩ := hv.at_ (by omega)
  have e1 : ¬ (i : Int) < 0 := by omega
  have e2 : ¬ (l.length : Int) ≤ (i : Int) := by omega
  go_enter Tryd.func9, Tryd.ntmps9
  go_wp2_with fail
  go_loopw [0, 1, 6] (fun lv av kv wy => ∃ (L B : List Dg) (n j c9 b o : Nat), lv = .slice (some ⟨b, o, none⟩) n c9 ∧ av = .int .i64 (j : Int) ∧ Hid (n = L.length) ∧ j < n ∧ n ≤ 2000 ∧ SD w w.heap.size lv L ∧ OD wy w.heap.size kv B ∧ Hid (B.length + n ≤ l.length ∧ proofR jnD zD L j ++ B.reverse = proofR jnD zD l i) ∧ Below w.heap.size w wy) (fun lv _ _ _ => sliceLenS lv)
  case atStart => exact ⟨l, [], _, i, _, _, _, rfl, rfl, Lib.hid rfl, hi, by omega, hv, OD.nil_ _ _, Lib.hid ⟨by simp, by simp⟩, bself w⟩
  case round =>
    obtain ⟨L, B, n, j, c9, b9, o9, rfl, rfl, HNL, hjn, hn2, hL, hown, HP, hbr⟩ := hrel
    have hzr := hbr.size
    have hcn : n ≤ c9 ∧ c9 ≤ 9223372036854775807 := by
      obtain ⟨A', c', e', k1, k2⟩ := hL.form
      injection e' with _ e2 e3
      rw [e3]
      exact ⟨by rw [e2]; exact k1, k2⟩
    by_cases hgt : 1 < n
    · obtain ⟨k, hk9⟩ : ∃ k, k = part n := ⟨_, rfl⟩
      have hk1 : k < n := by rw [hk9]; exact part_lt (by omega)
      have hk2 : 0 < k := by rw [hk9]; exact part_pos _
      have HSP : Hid (Calls Tryd.prog 21 #[.int .i64 (n : Int)] wr fun e w' => e = .returned (.int .i64 (k : Int)) ∧ w' = wr) := Lib.hid (by rw [hk9]; exact kSplit_any n wr (by omega) (by omega))
      have sT : SD w w.heap.size (.slice (some ⟨b9, o9, none⟩) k c9) (L.take k) := hL.take (by have := HNL.out; omega) rfl
      have sD : SD w w.heap.size (.slice (some ⟨b9, o9 + k * 32, none⟩) (n - k) (c9 - k)) (L.drop k) := by
        have h := hL.cut (k := k) (by have := HNL.out; omega) rfl
        rw [if_neg (by omega), Option.map_some, add_lit0] at h
        exact h
      have y1 : (k : Int) ≤ (c9 : Int) := by omega
      have y2 : (k : Int) ≤ (n : Int) := by omega
      have y3 : ¬ c9 = k := by omega
      go_wp2_with fail
      refine HSP.out.mono ?_
      rintro e w1 ⟨rfl, rfl⟩
      by_cases hjk : j < k
      · have hjk2 : (j : Int) < (k : Int) := by omega
        obtain ⟨rd, hrd⟩ : ∃ rd, rd = rootR jnD zD (L.drop k) := ⟨_, rfl⟩
        have HP2 : Hid ((B ++ [rd]).length + k ≤ l.length ∧ proofR jnD zD (L.take k) j ++ (B ++ [rd]).reverse = proofR jnD zD l i) := Lib.hid (by
          obtain ⟨p1, p2⟩ := HP.out
          refine ⟨by rw [List.length_append]; simp only [List.length_cons, List.length_nil]; omega, ?_⟩
          have hLl := HNL.out
          rw [proofR_left jnD zD (by omega) (by rw [← hLl, ← hk9]; exact hjk), ← hLl, ← hk9, ← hrd] at p2
          rw [← p2]
          simp)
        have HRT : Hid (Calls Tryd.prog 16 #[.slice (some ⟨b9, o9 + k * 32, none⟩) (n - k) (c9 - k)] w1 fun e w' => e = .returned (.agg (dgA rd.1)) ∧ Below w1.heap.size w1 w') := Lib.hid (kRoot_any (L.drop k) (by have := HNL.out; rw [List.length_drop]; omega) _ (dgA rd.1) (by rw [hrd]) w1 (sD.on hbr) (hk.on hbr h1) (by omega))
        clear hrd
        have HSS := Lib.hid sT
        clear hk9
        have HKN : Hid (k = (L.take k).length) := Lib.hid (by have := HNL.out; rw [List.length_take]; omega)
        have hlen : (B.length + 1) * 32 ≤ 140737488355328 := by have := HP.out.1; omega
        clear hL sT sD
        go_wp2_with fail
        refine HRT.out.mono ?_
        rintro e w3 ⟨rfl, hb3⟩
        have own3 := hown.below hb3 (Nat.le_refl _)
        have bw3 := hbr.trans (hb3.mono hzr)
        have hz3 := bw3.size
        clear HRT hb3 hown
        go_wp2_with (first
          | (refine wl_buildD rfl (.tmp 32) rfl (dgA rd.1) rfl (dgA_n rd) ?_)
          | (at_builtin; go_loud (refine wl_appD1 rfl (.tmp 28) (.tmp 33) rfl w.heap.size _ B rfl own3 rd _ rfl rfl rfl hlen hz3 ?_); intro v4 w4 hown4 hg4 ho4 hb4; have b4 := bw3.trans hb4))
        go_roundw
        case rel => exact ⟨L.take k, B ++ [rd], k, j, c9, b9, o9, rfl, rfl, HKN, by omega, by omega, HSS.out, hown4, HP2, b4⟩
        case measure => simp only [sliceLenS]; omega
      · have hjk2 : ¬ (j : Int) < (k : Int) := by omega
        obtain ⟨rd, hrd⟩ : ∃ rd, rd = rootR jnD zD (L.take k) := ⟨_, rfl⟩
        have HP2 : Hid ((B ++ [rd]).length + (n - k) ≤ l.length ∧ proofR jnD zD (L.drop k) (j - k) ++ (B ++ [rd]).reverse = proofR jnD zD l i) := Lib.hid (by
          obtain ⟨p1, p2⟩ := HP.out
          refine ⟨by rw [List.length_append]; simp only [List.length_cons, List.length_nil]; omega, ?_⟩
          have hLl := HNL.out
          rw [proofR_right jnD zD (by omega) (by rw [← hLl, ← hk9]; exact hjk), ← hLl, ← hk9, ← hrd] at p2
          rw [← p2]
          simp)
        have HRT : Hid (Calls Tryd.prog 16 #[.slice (some ⟨b9, o9, none⟩) k c9] w1 fun e w' => e = .returned (.agg (dgA rd.1)) ∧ Below w1.heap.size w1 w') := Lib.hid (kRoot_any (L.take k) (by have := HNL.out; rw [List.length_take]; omega) _ (dgA rd.1) (by rw [hrd]) w1 (sT.on hbr) (hk.on hbr h1) (by omega))
        clear hrd
        have HSS := Lib.hid sD
        clear hk9
        have HKN : Hid (n - k = (L.drop k).length) := Lib.hid (by have := HNL.out; rw [List.length_drop]; omega)
        have y6 : IntKind.i64.wrap ((j : Int) - (k : Int)) = (j : Int) - (k : Int) := IntWalk.i64_in _ (by omega)
        have hlen : (B.length + 1) * 32 ≤ 140737488355328 := by have := HP.out.1; omega
        clear hL sT sD
        go_wp2_with fail
        refine HRT.out.mono ?_
        rintro e w3 ⟨rfl, hb3⟩
        have own3 := hown.below hb3 (Nat.le_refl _)
        have bw3 := hbr.trans (hb3.mono hzr)
        have hz3 := bw3.size
        clear HRT hb3 hown
        go_wp2_with (first
          | (refine wl_buildD rfl (.tmp 42) rfl (dgA rd.1) rfl (dgA_n rd) ?_)
          | (at_builtin; go_loud (refine wl_appD1 rfl (.tmp 38) (.tmp 43) rfl w.heap.size _ B rfl own3 rd _ rfl rfl rfl hlen hz3 ?_); intro v4 w4 hown4 hg4 ho4 hb4; have b4 := bw3.trans hb4))
        go_roundw
        case rel => exact ⟨L.drop k, B ++ [rd], n - k, j - k, c9 - k, b9, o9 + k * 32, rfl, by congr 1; omega, HKN, by omega, by omega, HSS.out, hown4, HP2, b4⟩
        case measure => simp only [sliceLenS]; omega
    · obtain ⟨W9, hW9⟩ : ∃ W9, W9 = wr := ⟨_, rfl⟩
      subst hW9
      have HPE : Hid (B.reverse = proofR jnD zD l i ∧ B.length ≤ 2000) := Lib.hid (by
        obtain ⟨p1, p2⟩ := HP.out
        rw [proofR_small jnD zD j (by have := HNL.out; omega), List.nil_append] at p2
        exact ⟨p2, by omega⟩)
      obtain ⟨m, hm⟩ : ∃ m, m = B.length := ⟨_, rfl⟩
      have hm2 : m ≤ 2000 := by rw [hm]; exact HPE.out.2
      have hsb := hown.sd
      obtain ⟨AB, cB, eB, hcB, hcB2⟩ := hsb.form
      rw [← hm] at eB hcB
      subst eB
      have hBel : ∀ k (hk : k < B.length), ∃ g, AB = some ⟨g, 0, none⟩ ∧ g < W9.heap.size ∧ W9.rangeAt g (k * 32) (bv (B[k]'hk).1) := fun k hk => by
        obtain ⟨g, cg, eg⟩ := hown.form0 (by omega)
        injection eg with eg1 _ _
        obtain ⟨b', o', c', e', h1, h2⟩ := hsb.at_ (by omega)
        injection e' with e1 _ _
        rw [eg1] at e1
        injection e1 with e1
        injection e1 with e3 e4
        subst e3; subst e4
        have h3 := h2 k hk
        rw [Nat.zero_add] at h3
        exact ⟨_, eg1, h1, h3⟩
      obtain ⟨M, hM, hth⟩ := mkD W9 m hm2
      have HBL := Lib.hid hBel
      have HMB := Lib.hid hm
      clear hBel hm hown hsb hL hcn HP HNL
      go_wp2_with fail
      generalize hW8 : W9.alloc _ = W8 at hth ⊢
      have b8 : Below W9.heap.size W9 W8 := by rw [← hW8]; exact balloc (bself W9) _
      obtain ⟨G, hG⟩ : ∃ G, G = W9.heap.size := ⟨_, rfl⟩
      have hGz : W9.heap.size ≤ G := by omega
      have hG8 : G < W8.heap.size := by rw [← hW8, hG]; simp
      rw [← hG] at hth ⊢
      clear hG hW8 hM
      go_loopw [56] (fun iv wy => ∃ q : Nat, iv = .int .i64 q ∧ q ≤ m ∧ Hid (∀ k (hk : k < q) x, B[k]? = some x → wy.rangeAt G ((m - 1 - k) * 32) (bv x.1)) ∧ wy.there G 0 (m * 32) ∧ G < wy.heap.size ∧ Below W9.heap.size W9 wy) (fun iv _ => m - (intOf iv).toNat)
      case atStart => exact ⟨0, rfl, Nat.zero_le _, Lib.hid (fun k hk => by omega), hth, hG8, b8⟩
      case round =>
        obtain ⟨q, rfl, hq, HRG, hthr, hGr, hb⟩ := hrel
        clear hth b8 hG8
        have hzb := hb.size
        by_cases hlt : q < m
        · have hqB : q < B.length := by have := HMB.out; omega
          obtain ⟨g, rfl, hg9, hrg⟩ := HBL.out q hqB
          have hrg2 := range_below hrg hb hg9
          obtain ⟨x, hx⟩ : ∃ x, B[q]? = some x := ⟨_, List.getElem?_eq_getElem hqB⟩
          have hx2 : B[q]'hqB = x := by rw [List.getElem?_eq_getElem hqB] at hx; injection hx
          rw [hx2] at hrg2
          have HX := Lib.hid hx
          clear hx hx2 hrg
          go_upto_region 15 with (first
            | (refine wl_loadM rfl (.tmp 59) rfl g (q * 32) rfl x hrg2 ?_)
            | (refine wl_storeD rfl (.tmp 10) (.tmp 60) rfl _ rfl _ (dgA x.1) rfl (heap_alloc_new wr _) (by kernel_rfl) (dgA_n x) (dgA_one _) ?_))
          generalize hw1 : World.setRow _ _ _ = w1
          have rD : w1.heap[wr.heap.size]? = some (rowO (dgA x.1)) := by rw [← hw1]; exact setRow_heap _ _ _ _ _ _ (heap_alloc_new wr _)
          have b1 : Below wr.heap.size wr w1 := by rw [← hw1]; exact below_setRow (balloc (bself wr) _) (Nat.le_refl _) _
          have z1 : wr.heap.size < w1.heap.size := by rw [← hw1]; simp
          clear hw1 hrg2
          have hrx : w1.rangeAt wr.heap.size 0 (bv x.1) := fun j v hv => by
            rw [Nat.zero_add, cell_of_row _ _ j _ _ _ rD]
            simpa using hv
          have hth1 : w1.there G 0 (m * 32) := fun j hj => by
            obtain ⟨h1, h2⟩ := hthr j hj
            have hbk := b1.block G hGr
            exact ⟨by rw [World.cell?_of_block (a := ⟨G, 0 + j, none⟩) hbk]; exact h1, by rw [World.frozen?_of_block (a := ⟨G, 0 + j, none⟩) hbk]; exact h2⟩
          obtain ⟨p, hp⟩ : ∃ p, p = m - 1 - q := ⟨_, rfl⟩
          have hpm : p < m := by omega
          have hthp : w1.there G (p * 32) (dgA x.1).size := fun j hj => by
            rw [dgA_n] at hj
            have h := hth1 (p * 32 + j) (by omega)
            rw [Nat.zero_add] at h
            exact h
          have HRN : Hid (∀ k (hk : k < q + 1) y, B[k]? = some y → (w1.setCells G (p * 32) (bv x.1)).rangeAt G ((m - 1 - k) * 32) (bv y.1)) := Lib.hid (fun k hk y hy => by
            by_cases hkq : k = q
            · subst hkq
              rw [HX.out] at hy
              injection hy with hy
              subst hy
              rw [← hp]
              exact World.rangeAt_setCells_same w1 G (p * 32) (bv x.1) (by rw [dbv_len]; rw [dgA_n] at hthp; exact hthp)
            · have h := range_below (HRG.out k (by omega) y hy) b1 hGr
              exact World.rangeAt_setCells_apart h G (p * 32) (bv x.1) (Or.inr (Or.inr (by rw [dbv_len]; omega))))
          have HTN : Hid ((w1.setCells G (p * 32) (bv x.1)).there G 0 (m * 32) ∧ G < (w1.setCells G (p * 32) (bv x.1)).heap.size ∧ Below W9.heap.size W9 (w1.setCells G (p * 32) (bv x.1))) := Lib.hid (by
            have hbb := below_setCells hGz (bv x.1) (p * 32) w1 (hb.trans (b1.mono hzb))
            refine ⟨World.there_setCells hth1 G (p * 32) (bv x.1), ?_, hbb⟩
            have h1 := (below_setCells (Nat.zero_le G) (bv x.1) (p * 32) w1 (Below.refl 0 w1)).size
            omega)
          have y1 : IntKind.i64.wrap ((m : Int) - 1) = (m : Int) - 1 := IntWalk.i64_in _ (by omega)
          have y2 : IntKind.i64.wrap ((m : Int) - 1 - (q : Int)) = (p : Int) := by rw [IntWalk.i64_in _ (by omega)]; omega
          have y3 : (p : Int) < (m : Int) := by omega
          have y4 : (m : Int) - 1 - (q : Int) = (p : Int) := by omega
          have HPQ := Lib.hid hp
          clear rD hthr hth1 hp
          go_wp2_with (first
            | (refine wl_loadM rfl (.tmp 10) rfl wr.heap.size 0 rfl x hrx ?_)
            | (refine wpList_store_mid rfl 31 (.tmp 68) (.tmp 67) rfl G (p * 32) (dgA x.1) rfl rfl hthp (by rw [dgA_n]; kernel_rfl) (Array.all_eq_true_iff_forall_mem.2 (fun v hv => dgA_one x.1 v (by simpa using hv))) ?_))
          go_roundw
          case rel => exact ⟨q + 1, by go_num, by omega, HRN, HTN.out.1, HTN.out.2.1, HTN.out.2.2⟩
          case measure => simp [intOf]; omega
        · have hqm : q = m := by omega
          subst hqm
          have HFIN : Hid (SD wr wr.heap.size (.slice (some ⟨G, 0, none⟩) q q) (proofR jnD zD l i)) := Lib.hid (by
            rw [← HPE.out.1]
            have hml := HMB.out
            unfold SD
            rw [List.length_reverse, ← hml]
            refine ⟨_, _, rfl, Nat.le_refl _, by simp only [maxLen]; omega, ?_⟩
            have h := Rd.of_elems (fun d : Dg => bv d.1) 32 dbv_len (w := wr) (B := wr.heap.size) (a := ⟨G, 0, none⟩) (l := B.reverse) (fun _ => ⟨rfl, hGr⟩) (fun k hk j u hu => by
              rw [List.length_reverse] at hk
              have hy : B[q - 1 - k]? = some (B.reverse[k]'(by rw [List.length_reverse]; exact hk)) := by
                rw [List.getElem_reverse, ← List.getElem?_eq_getElem, ← hml]
              have h2 := HRG.out (q - 1 - k) (by omega) _ hy
              rw [show q - 1 - (q - 1 - k) = k by omega] at h2
              have h3 := h2 j u hu
              rw [Nat.zero_add]
              exact h3)
            rw [List.length_reverse, ← hml] at h
            exact h)
          go_wp2_with fail
          exact bodyPost_ret (v := .tuple #[.slice (some ⟨G, 0, none⟩) q q, .int .i64 0]) (by simp [results, Tryd.results9, go_sem]) rfl ⟨_, rfl, HFIN.out, hbr.trans (hb.mono hbr.size)⟩
end Go.Proofs.YtjmlohfldkbbaaaDoor
