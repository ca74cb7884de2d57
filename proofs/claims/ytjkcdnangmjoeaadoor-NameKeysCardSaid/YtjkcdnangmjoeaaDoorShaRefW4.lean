/-
  What is proved here: what the reference's Sum comes to, at this seat's numbers. Conditions: the bytes' length; the table of constants.
-/
import Derived.Test.YtjkcdnangmjoeaaDoorShaRefW3
import Derived.Test.YtjkcdnangmjoeaaDoorShaSumW
namespace Go.Proofs.YtjkcdnangmjoeaaDoor
open Go.RowKit

theorem SB.sub {w : World} {B b o n c i : Nat} {l : List UInt8} (h : SB w B (.slice (some ⟨b, o, none⟩) n c) l) (hn : n = l.length) (hi : i + 64 ≤ n) : SB w B (.slice (some ⟨b, o + i, none⟩) 64 (c - i)) ((l.drop i).take 64) := by
  subst hn
  obtain ⟨A', c', e, h1, h2, hr⟩ := h
  injection e with e1 _ e3
  subst e1; subst e3
  obtain ⟨hr1, hr2, hr3⟩ := hr
  obtain ⟨hs, hb, hc⟩ := hr3 _ rfl (by omega)
  have hl : ((l.drop i).take 64).length = 64 := by rw [List.length_take, List.length_drop]; omega
  unfold SB
  rw [hl]
  refine ⟨_, _, rfl, by omega, by omega, ⟨by rw [bv_length, hl], ⟨fun e => (by cases e), fun ad e _ => ?_⟩⟩⟩
  injection e with e
  subst e
  refine ⟨rfl, hb, fun j u hu => ?_⟩
  have hj : j < 64 := by have := (List.getElem?_eq_some_iff.1 hu).1; rw [bv_length, hl] at this; exact this
  show w.cell? ⟨b, o + i + j, none⟩ = some u
  rw [Nat.add_assoc]
  refine hc (i + j) u ?_
  rw [← hu, bv_take, bv_drop, List.getElem?_take, if_pos hj, List.getElem?_drop]
theorem KTab.on0 {w w' : World} {base : Nat} (h : KTab w 0) (hb : Below base w w') (h1 : 0 < base) : KTab w' 0 := fun i hi => (hb.cell (p := ⟨0, i, none⟩) (show 0 < base by omega)).trans (h i hi)
theorem row4 {w : World} {D i : Nat} {d : List UInt8} (hd : d.length = 32) (hi : i < 8) (h : w.heap[D]? = some (rowO (dgA (dgUp d (4 * i))))) {b0 b1 b2 b3 : UInt8} (h0 : d[4 * i]? = some b0) (h1 : d[4 * i + 1]? = some b1) (h2 : d[4 * i + 2]? = some b2) (h3 : d[4 * i + 3]? = some b3) :
    ((((w.setCell ⟨D, 4 * i, none⟩ (u8v b0)).setCell ⟨D, 4 * i + 1, none⟩ (u8v b1)).setCell ⟨D, 4 * i + 2, none⟩ (u8v b2)).setCell ⟨D, 4 * i + 3, none⟩ (u8v b3)).heap[D]? = some (rowO (dgA (dgUp d (4 * (i + 1))))) := by
  have g0 := (dg_cell h (k := 4 * i) (by rw [dgUp_len hd (by omega)]; omega)).2.2 b0
  rw [dgUp_step hd (by omega) h0] at g0
  have g1 := (dg_cell g0 (k := 4 * i + 1) (by rw [dgUp_len hd (by omega)]; omega)).2.2 b1
  rw [dgUp_step hd (by omega) h1] at g1
  have g2 := (dg_cell g1 (k := 4 * i + 2) (by rw [dgUp_len hd (by omega)]; omega)).2.2 b2
  rw [dgUp_step hd (by omega) h2] at g2
  have g3 := (dg_cell g2 (k := 4 * i + 3) (by rw [dgUp_len hd (by omega)]; omega)).2.2 b3
  rw [dgUp_step hd (by omega) h3] at g3
  exact g3
theorem st0_row : (.cells #[.int .u32 1779033703, .int .u32 3144134277, .int .u32 1013904242, .int .u32 2773480762, .int .u32 1359893119, .int .u32 2600822924, .int .u32 528734635, .int .u32 1541459225] 77 (0, 0) : Obj) = arrO (blocksS st0 [] 0) := by kernel_rfl
set_option maxRecDepth 100000 in
set_option maxHeartbeats 2000000 in
theorem rSum_any (bs : List UInt8) (v : Value) (w : World) (hv : SB w w.heap.size v bs) (hl : bs.length ≤ 140737488355000) (hk : KTab w 0) (h0 : 0 < w.heap.size) :
    Calls Tryd.prog 33 #[v] w fun e w' => e = .returned (digV (shaOf bs)) ∧ Below w.heap.size w w' := by
  obtain ⟨Av, cv, rfl, _, _, _⟩ := id hv
  go_enter Tryd.func33, Tryd.ntmps33
  go_upto_region 1 with fail
  generalize hWA : w.alloc _ = wA
  have rR : wA.heap[w.heap.size]? = some (rowO (dgA (List.replicate 32 0))) := by rw [← hWA]; exact (heap_alloc_new w _).trans (by kernel_rfl)
  have bA : Below w.heap.size w wA := by rw [← hWA]; exact balloc (bself w) _
  have zA : wA.heap.size = w.heap.size + 1 := by rw [← hWA]; simp
  clear hWA
  have HP := Lib.hid (rPadded_any _ bs wA ((hv.below bA).more (by omega)) hl)
  clear hv
  go_wp2_with fail
  refine HP.out.mono ?_
  rintro e w1 ⟨u, rfl, hu, hb1⟩
  have z1 := hb1.size
  obtain ⟨p, hp⟩ : ∃ p, p = padded bs := ⟨_, rfl⟩
  have hpm : p.length % 64 = 0 := by rw [hp]; exact padded_mod bs
  have hpl : 64 ≤ p.length := by
    have : 9 ≤ p.length := by rw [hp]; unfold padded; rw [List.length_append, tail_length]; omega
    omega
  have hpu : p.length ≤ 140737488355200 := by rw [hp]; unfold padded; rw [List.length_append, tail_length]; unfold padN; omega
  have HPE : Hid (digB (blocksS st0 p (p.length / 64)) = shaOf bs) := Lib.hid (by rw [hp]; rfl)
  rw [← hp] at hu
  clear hp HP
  obtain ⟨A, c, rfl, hlc, hcm, hr⟩ := id hu.sb
  have hcm2 : c ≤ 9223372036854775807 := by unfold maxLen at hcm; omega
  obtain ⟨b, o, rfl, hbl, hc⟩ := hr.at_ (by omega)
  have HU := Lib.hid hu.sb
  clear hc hr hcm hu
  obtain ⟨N, hN⟩ : ∃ N, N = p.length / 64 := ⟨_, rfl⟩
  rw [← hN] at HPE
  have HNL : Hid (p.length = 64 * N) := Lib.hid (by omega)
  clear hpm hN
  go_upto_region 3 with fail
  generalize hW2 : w1.alloc _ = w2
  have rX : w2.heap[w1.heap.size]? = some (arrO (blocksS st0 p 0)) := by rw [← hW2]; exact (heap_alloc_new w1 _).trans (congrArg some st0_row)
  have b12 : Below w1.heap.size w1 w2 := by rw [← hW2]; exact balloc (bself w1) _
  have z2 : Hid (w2.heap.size = w1.heap.size + 1) := Lib.hid (by rw [← hW2]; simp)
  clear hW2
  go_wp2_with fail
  go_loopw [5] (fun iv wy => ∃ k m : Nat, iv = .int .i64 m ∧ m = 64 * k ∧ k ≤ N ∧ wy.heap[w1.heap.size]? = some (arrO (blocksS st0 p k)) ∧ Below w1.heap.size w1 wy) (fun iv _ => p.length - (intOf iv).toNat)
  case atStart => exact ⟨0, 0, rfl, rfl, Nat.zero_le _, rX, b12⟩
  case round =>
    obtain ⟨k, m, rfl, hm, hkN, hX, hb⟩ := hrel
    clear rX b12
    have hzr := hb.size
    by_cases hlt : m < p.length
    · have hkn : k < N := by have := HNL.out; omega
      have hsub : SB wr w1.heap.size (.slice (some ⟨b, o + m, none⟩) 64 (c - m)) ((p.drop m).take 64) := SB.below (SB.sub HU.out rfl (by have := HNL.out; omega)) hb
      have hk0 : KTab wr 0 := hk.on0 (bA.trans ((hb1.trans (hb.mono z1)).mono bA.size)) h0
      have HST : Hid (blocksS st0 p (k + 1) = blockS (blocksS st0 p k) (((p.drop m).take 64).take 64)) := Lib.hid (by
        rw [blocksS, List.take_take, Nat.min_self, ← hm])
      generalize blocksS st0 p k = X at hX HST
      have hsl : ((p.drop m).take 64).length = 64 := by have := HNL.out; rw [List.length_take, List.length_drop]; omega
      have HBLK : Hid (∀ w', Below wr.heap.size wr w' → Calls Tryd.prog 42 #[arrV X, .slice (some ⟨b, o + m, none⟩) 64 (c - m)] w' fun e w'' => e = .returned (arrV (blockS X (((p.drop m).take 64).take 64))) ∧ Below w'.heap.size w' w'') := Lib.hid (fun w' hw => rBlock_any X _ _ w' ((hsub.below (hw.mono hzr)).more (Nat.le_trans hzr hw.size)) (by omega) (by omega) (hk0.on0 hw (by omega)) (by have := hw.size; omega))
      have KS : Hid (∀ w', Below wr.heap.size wr w' → w'.heap[w1.heap.size]? = some (arrO X)) := Lib.hid (fun w' hw => (hw.block w1.heap.size (Array.getElem?_eq_some_iff.1 hX).1).trans hX)
      clear hsub hsl hk0
      have HM := Lib.hid (And.intro hm (And.intro hkn hlt))
      clear hm hkN hkn
      go_upto_region 6 with fail
      obtain ⟨hm, hkn, _⟩ := HM.out
      have hNl := HNL.out
      have y1 : (m : Int) + 64 ≤ (c : Int) := by omega
      have y2 : (m : Int) < 9223372036854775000 := by omega
      have y3 : IntKind.i64.wrap ((m : Int) + 64) = (m : Int) + 64 := IntWalk.i64_in _ (by omega)
      have y4 : max ((m : Int) + 64) 0 = (m : Int) + 64 := by omega
      have y5 : (m : Int) ≤ (m : Int) + 64 := by omega
      have y6 : ((m : Int) + 64).toNat = m + 64 := by omega
      have y7 : ¬ c = m := by omega
      have y8 : (0 : Int) ≤ (m : Int) + 64 := by omega
      clear hlt hm hkn hNl
      have HAR : Hid (∀ w5 (Y : St), Below wr.heap.size wr w5 → w5.heap[w1.heap.size]? = some (arrO X) ∧ _ ∧ _) := Lib.hid (fun w5 Y hw => ⟨KS.out w5 hw, arr_set8 (Y := Y) (KS.out w5 hw) (Nat.le_refl _) (hb.trans (hw.mono hzr))⟩)
      obtain ⟨Y, hY⟩ : ∃ Y, Y = blockS X (((p.drop m).take 64).take 64) := ⟨_, rfl⟩
      rw [← hY] at HST HBLK
      clear hY
      obtain ⟨p0, p1, p2, p3, p4, p5, p6, p7⟩ := arrCells hX
      go_region_with (go_at_call 42; refine (HBLK.out _ (by first | exact bself wr | exact bdrew (bself wr) | exact bdrewN (bself wr) _)).mono ?_; rintro e w5 ⟨rfl, hb5⟩; obtain ⟨hX5, hrow5, hbl5⟩ := HAR.out w5 Y (by exact Below.trans (by first | exact bself wr | exact bdrew (bself wr) | exact bdrewN (bself wr) _) hb5); have HROW := Lib.hid hrow5; have HBL5 := Lib.hid hbl5; clear hrow5 hbl5; obtain ⟨q0, q1, q2, q3, q4, q5, q6, q7⟩ := arrCells hX5; have f0 : w5.frozen? ⟨w1.heap.size, 0, none⟩ = false := (by simp [World.frozen?, hX5]); have f1 : w5.frozen? ⟨w1.heap.size, 1, none⟩ = false := (by simp [World.frozen?, hX5]); have f2 : w5.frozen? ⟨w1.heap.size, 2, none⟩ = false := (by simp [World.frozen?, hX5]); have f3 : w5.frozen? ⟨w1.heap.size, 3, none⟩ = false := (by simp [World.frozen?, hX5]); have f4 : w5.frozen? ⟨w1.heap.size, 4, none⟩ = false := (by simp [World.frozen?, hX5]); have f5 : w5.frozen? ⟨w1.heap.size, 5, none⟩ = false := (by simp [World.frozen?, hX5]); have f6 : w5.frozen? ⟨w1.heap.size, 6, none⟩ = false := (by simp [World.frozen?, hX5]); have f7 : w5.frozen? ⟨w1.heap.size, 7, none⟩ = false := (by simp [World.frozen?, hX5]))
      go_wp2_with fail
      go_roundw
      case rel =>
        have hm := HM.out
        exact ⟨k + 1, m + 64, by go_num, by omega, by omega, by rw [HST.out]; exact HROW.out, HBL5.out⟩
      case measure => have hm := HM.out; have hNl := HNL.out; simp [intOf]; omega
    · have hkn : k = N := by have := HNL.out; omega
      subst hkn
      obtain ⟨wq, hwq⟩ : ∃ wq, wq = wr := ⟨_, rfl⟩
      subst hwq
      have hdl : (digB (blocksS st0 p k)).length = 32 := digB_length _
      have hDB : Hid (∀ i, i < 32 → (digB (blocksS st0 p k))[i]? = some (byteW (blkC (blocksS st0 p k) (i / 4)) (24 - 8 * (i % 4)))) := Lib.hid (fun i hi => dig_byte _ i hi)
      have hXl : w1.heap.size < wq.heap.size := (Array.getElem?_eq_some_iff.1 hX).1
      have HX : Hid (∀ w', Below wq.heap.size wq w' → w'.heap[w1.heap.size]? = some (arrO (blocksS st0 p k))) := Lib.hid (fun w' hw => (hw.block w1.heap.size hXl).trans hX)
      obtain ⟨D, hD⟩ : ∃ D, D = digB (blocksS st0 p k) := ⟨_, rfl⟩
      rw [← hD] at HPE hdl hDB
      clear hD hX
      generalize blocksS st0 p k = X at HX hDB
      have HBW : Hid (Below w.heap.size w wq) := Lib.hid (bA.trans ((hb1.trans (hb.mono z1)).mono bA.size))
      have HRR : Hid (∀ w', Below wq.heap.size wq w' → w'.heap[w.heap.size]? = some (rowO (dgA (List.replicate 32 0)))) := Lib.hid (fun w' hw => by
        have h := (hb1.trans (hb.mono z1)).trans (hw.mono (by omega))
        exact (h.block w.heap.size (by omega)).trans rR)
      have hnlt : ¬ m < p.length := hlt
      clear hm hkN
      go_upto_region 8 with fail
      generalize hW7 : wq.alloc _ = w7
      have rD : w7.heap[wq.heap.size]? = some (rowO (dgA (dgUp D (4 * 0)))) := by rw [← hW7, dgUp_0]; exact (heap_alloc_new wq _).trans (by kernel_rfl)
      have b67 : Below wq.heap.size wq w7 := by rw [← hW7]; exact balloc (bself wq) _
      clear hW7
      go_wp2_with fail
      go_loopw [7] (fun iv wy => ∃ i : Nat, iv = .int .i64 i ∧ i ≤ 8 ∧ wy.heap[wq.heap.size]? = some (rowO (dgA (dgUp D (4 * i)))) ∧ Below wq.heap.size wq wy) (fun iv _ => 8 - (intOf iv).toNat)
      case atStart => exact ⟨0, rfl, by omega, rD, b67⟩
      case round =>
        obtain ⟨i, rfl, hi, hDi, hbi⟩ := hrel
        clear rD b67
        by_cases hlt : i < 8
        · have hXr := HX.out wr hbi
          have hc := arrS_cell hXr (k := i) hlt
          have s0 := hDB.out (4 * i) (by omega)
          have s1 := hDB.out (4 * i + 1) (by omega)
          have s2 := hDB.out (4 * i + 2) (by omega)
          have s3 := hDB.out (4 * i + 3) (by omega)
          rw [show 4 * i / 4 = i from by omega, show 24 - 8 * (4 * i % 4) = 24 from by omega] at s0
          rw [show (4 * i + 1) / 4 = i from by omega, show 24 - 8 * ((4 * i + 1) % 4) = 16 from by omega] at s1
          rw [show (4 * i + 2) / 4 = i from by omega, show 24 - 8 * ((4 * i + 2) % 4) = 8 from by omega] at s2
          rw [show (4 * i + 3) / 4 = i from by omega, show 24 - 8 * ((4 * i + 3) % 4) = 0 from by omega] at s3
          generalize blkC X i = xw at hc s0 s1 s2 s3
          have v0 : (xw.toNat : Int) / 16777216 % 256 = ((byteW xw 24).toNat : Int) := byteW_val xw 24 (by omega)
          have v1 : (xw.toNat : Int) / 65536 % 256 = ((byteW xw 16).toNat : Int) := byteW_val xw 16 (by omega)
          have v2 : (xw.toNat : Int) / 256 % 256 = ((byteW xw 8).toNat : Int) := byteW_val xw 8 (by omega)
          have v3 : (xw.toNat : Int) % 256 = ((byteW xw 0).toNat : Int) := by
            have := byteW_val xw 0 (by omega)
            simpa using this
          generalize byteW xw 24 = b0 at s0 v0
          generalize byteW xw 16 = b1 at s1 v1
          generalize byteW xw 8 = b2 at s2 v2
          generalize byteW xw 0 = b3 at s3 v3
          have HROW := Lib.hid (row4 hdl hlt hDi s0 s1 s2 s3)
          have hcell : ∀ j, j < 32 → ∃ q : UInt8, wr.cell? ⟨wq.heap.size, j, none⟩ = some (.int .u8 (q.toNat : Int)) := fun j hj => ⟨_, (dg_cell hDi (k := j) (by rw [dgUp_len hdl (by omega)]; exact hj)).1⟩
          obtain ⟨q0, d0⟩ := hcell (4 * i) (by omega)
          obtain ⟨q1, d1⟩ := hcell (4 * i + 1) (by omega)
          obtain ⟨q2, d2⟩ := hcell (4 * i + 2) (by omega)
          obtain ⟨q3, d3⟩ := hcell (4 * i + 3) (by omega)
          have hfz : ∀ j, wr.frozen? ⟨wq.heap.size, j, none⟩ = false := fun j => by simp [World.frozen?, hDi]
          have f0 := hfz (4 * i)
          have f1 := hfz (4 * i + 1)
          have f2 := hfz (4 * i + 2)
          have f3 := hfz (4 * i + 3)
          have HBB : Hid (Below wq.heap.size wq ((((wr.setCell ⟨wq.heap.size, 4 * i, none⟩ (u8v b0)).setCell ⟨wq.heap.size, 4 * i + 1, none⟩ (u8v b1)).setCell ⟨wq.heap.size, 4 * i + 2, none⟩ (u8v b2)).setCell ⟨wq.heap.size, 4 * i + 3, none⟩ (u8v b3))) := Lib.hid ((((hbi.setCell (Nat.le_refl _) _).setCell (Nat.le_refl _) _).setCell (Nat.le_refl _) _).setCell (Nat.le_refl _) _)
          have t0 : (4 * (i : Int)).toNat = 4 * i := by omega
          have t1 : (4 * (i : Int) + 1).toNat = 4 * i + 1 := by omega
          have t2 : (4 * (i : Int) + 2).toNat = 4 * i + 2 := by omega
          have t3 : (4 * (i : Int) + 3).toNat = 4 * i + 3 := by omega
          clear hfz hcell hXr hDi s0 s1 s2 s3
          go_wp2_with fail
          go_roundw
          case rel => exact ⟨i + 1, by go_num, by omega, HROW.out, HBB.out⟩
          case measure => simp [intOf]; omega
        · have hi8 : i = 8 := by omega
          subst hi8
          have hDi2 : wr.heap[wq.heap.size]? = some (rowO (dgA D)) := by
            have h := hDi
            rw [show 4 * 8 = 32 from rfl, dgUp_32 hdl] at h
            exact h
          obtain ⟨c9, hc9⟩ : ∃ c9, c9 = dgA D := ⟨_, rfl⟩
          have hDc : wr.heap[wq.heap.size]? = some (rowO c9) := by rw [hc9]; exact hDi2
          have hcn : c9.size = 32 := by rw [hc9, dgA_size, hdl]
          have hc1 : ∀ v ∈ c9.toList, v.oneCell' = true := by rw [hc9]; exact dgA_one D
          have hRR := HRR.out wr hbi
          have HR9 := Lib.hid (setRow_heap wr w.heap.size _ c9 _ _ hRR)
          have HDc := Lib.hid (And.intro hDc (And.intro hcn (And.intro hc1 (And.intro hRR (show (dgA (List.replicate 32 0)).size = 32 by rw [dgA_size]; rfl)))))
          have HB9 : Hid (Below w.heap.size w (wr.setRow w.heap.size c9)) := Lib.hid (below_setRow (HBW.out.trans (hbi.mono HBW.out.size)) (Nat.le_refl _) c9)
          have HE : Hid (c9 = dgA (shaOf bs)) := Lib.hid (by rw [hc9, HPE.out])
          clear hc9 hDi hDi2 hDc hc1 hRR hdl hcn
          go_wp2_with (first
            | (refine wl_loadD rfl (.tmp 6) rfl _ rfl c9 HDc.out.1 HDc.out.2.1 ?_)
            | (refine wl_storeD rfl (.tmp 2) (.tmp 62) rfl _ rfl _ c9 rfl HDc.out.2.2.2.1 HDc.out.2.2.2.2 HDc.out.2.1 HDc.out.2.2.1 ?_))
          exact bodyPost_ret (v := .agg c9) (res_dig Tryd.results33 _ _ _ c9 rfl HR9.out HDc.out.2.1) rfl ⟨by rw [HE.out], HB9.out⟩
end Go.Proofs.YtjkcdnangmjoeaaDoor
