/-
  What is proved here: what State.Sum of package sha comes to at a nil state; what sha.Sum comes to, at this seat's numbers. Conditions: the bytes' length; the table of constants.
-/
import Derived.Test.YtjkcdnangmjoeaaDoorShaSumW2
namespace Go.Proofs.YtjkcdnangmjoeaaDoor
open Go.RowKit

set_option maxRecDepth 100000 in
set_option maxHeartbeats 2000000 in
theorem kStSum_nil0 (bs : List UInt8) (w : World) (hbs : bs = []) (hk : KTab w 1) (h1 : 1 < w.heap.size) :
    Calls Tryd.prog 39 #[.pointer none] w fun e w' => e = .returned (digV (shaOf bs)) ∧ Below w.heap.size w w' := by
  have hl : bs.length ≤ 1152921504606846000 := by rw [hbs]; simp
  go_enter Tryd.func39, Tryd.ntmps39
  go_upto_region 1 with fail
  generalize hWA : w.alloc _ = wA
  have rR : wA.heap[w.heap.size]? = some (rowO (dgA (List.replicate 32 0))) := by rw [← hWA]; exact (heap_alloc_new w _).trans (by kernel_rfl)
  have bA : Below w.heap.size w wA := by rw [← hWA]; exact balloc (bself w) _
  have zA : wA.heap.size = w.heap.size + 1 := by rw [← hWA]; simp
  clear hWA
  go_wp2_with fail
  refine (kBegin_any _).mono ?_
  rintro e w1 ⟨rfl, hb1⟩
  have z1 := hb1.size
  go_upto_region 4 with fail
  generalize hW2 : w1.alloc _ = w4
  have rX : w4.heap[w1.heap.size]? = some beginO := by rw [← hW2]; exact heap_alloc_new w1 _
  have b12 : Below w1.heap.size w1 w4 := by rw [← hW2]; exact balloc (bself w1) _
  clear hW2
  have hst4 : StAt w4 wA.heap.size w1.heap.size bs := by rw [hbs]; exact St0.at rX z1
  have hbA4 : Below wA.heap.size wA w4 := hb1.trans (b12.mono z1)
  clear hbs rX b12
  obtain ⟨pv4, hX4, hown4, hne4, hbX4⟩ := id hst4
  have hXl : w1.heap.size < w4.heap.size := StAt.lt hst4
  have x9 := (stCells hX4).2.2.2.2.2.2.2.2.2
  obtain ⟨M, hmk, hmc, hmf, hmo⟩ := mk72 w4
  have HMO := Lib.hid hmo
  clear hmo hX4 hown4 hne4 hbX4
  have HST := Lib.hid hst4
  clear hst4
  have hbMA : Below w4.heap.size w4 (w4.alloc (.cells (M.setIfInBounds 0 (.int .u8 128)) 5)) := balloc (bself w4) _
  go_upto_region 7 with fail
  have hown5 := HMO.out
  generalize World.alloc _ _ = w5 at hown5 hbMA ⊢
  clear hmk hmc hmf x9 HMO
  have X9 : Hid (∀ w', Below w4.heap.size w4 w' → w'.cell? ⟨w1.heap.size, 9, none⟩ = some (.int .i64 (bs.length : Int))) := Lib.hid (fun w' hb => by
    obtain ⟨pv4, hX4, _⟩ := HST.out
    exact (hb.cell (p := ⟨w1.heap.size, 9, none⟩) hXl).trans (stCells hX4).2.2.2.2.2.2.2.2.2)
  go_wp2_with fail
  go_loopw [5] (fun ov wr => ∃ (z : Nat) (n : Nat) (A3 : Option Addr) (c3 : Nat), ov = .slice A3 n c3 ∧ n = 1 + z ∧ z ≤ padN bs.length ∧ OB wr w4.heap.size (.slice A3 n c3) (128 :: List.replicate z 0) ∧ Below w4.heap.size w4 wr) (fun ov _ => 1 + padN bs.length - sliceLenS ov)
  case atStart => exact ⟨0, _, _, _, rfl, rfl, Nat.zero_le _, hown5, hbMA⟩
  case round =>
    obtain ⟨z, n, A3, c3, rfl, hn, hz, hown, hbr⟩ := hrel
    clear hown5 hbMA
    have hzr := hbr.size
    have HZ := Lib.hid (And.intro hn hz)
    have x9 := X9.out wr hbr
    have hpad : padN bs.length < 64 := by unfold padN; omega
    by_cases hzz : z < padN bs.length
    · have hne : ¬ (bs.length + n) % 64 = 56 := by unfold padN at hzz; omega
      have hnl : n ≤ 64 := by omega
      have hL : (128 :: List.replicate z (0 : UInt8)).length + 1 ≤ 140737488355328 := by simp; omega
      have HAPP : Hid ((128 :: List.replicate z (0 : UInt8)) ++ [0] = 128 :: List.replicate (z + 1) 0) := Lib.hid (by rw [List.cons_append, ← List.replicate_succ'])
      obtain ⟨L, hLL⟩ : ∃ L, L = 128 :: List.replicate z (0 : UInt8) := ⟨_, rfl⟩
      have HLN : Hid (L.length = n) := Lib.hid (by rw [hLL, hn]; simp; omega)
      clear hn hz
      rw [← hLL] at hown hL HAPP
      clear hLL
      have hne2 : (((bs.length : Int) + (n : Int)) % 64 != 56) = true := by
        have h : ¬ ((bs.length : Int) + (n : Int)) % 64 = 56 := by omega
        simp [h]
      have HNE := Lib.hid hne
      clear hne
      go_wp2_with (at_builtin; go_loud (refine wl_app1 rfl (.tmp 41) (.tmp 42) rfl w4.heap.size _ L rfl hown _ 0 rfl rfl rfl hL hzr ?_); intro v5 w5 hown5 hg5 ho5 hb5; rw [HAPP.out] at hown5; have b5 := hbr.trans hb5)
      obtain ⟨A5, c5, e5, _, _, _⟩ := id hown5.sb
      have e6 : v5 = .slice A5 (1 + (z + 1)) c5 := by rw [e5]; congr 1; simp; omega
      subst e6
      go_roundw
      case rel => exact ⟨z + 1, _, A5, c5, rfl, rfl, by omega, hown5, b5⟩
      case measure => simp only [sliceLenS]; have := HZ.out.1; omega
    · have hne0 : (bs.length + n) % 64 = 56 := by unfold padN at hzz hz; omega
      have hne : (((bs.length : Int) + (n : Int)) % 64 != 56) = false := by
        have h : ((bs.length : Int) + (n : Int)) % 64 = 56 := by omega
        rw [h]; rfl
      have hn64 : n ≤ 64 := by omega
      have hze : z = padN bs.length := by omega
      subst hze
      clear hn hz hne0 hzz
      go_wp2_with fail
      have hbr0 : Below w4.heap.size w4 wr := hbr
      obtain ⟨T, hT⟩ : ∃ T, T = 128 :: List.replicate (padN bs.length) (0 : UInt8) := ⟨_, rfl⟩
      have HT := Lib.hid hT
      have HTL : Hid (T.length ≤ 65) := Lib.hid (by rw [hT]; simp; omega)
      rw [← hT] at hown
      clear hT
      go_loopw [5, 6] (fun ov iv wy => ∃ j : Nat, j ≤ 8 ∧ iv = .int .i64 (56 - 8 * (j : Int)) ∧ OB wy w4.heap.size ov (T ++ (be8 (bs.length * 8)).take j) ∧ Below w4.heap.size w4 wy) (fun _ iv _ => (intOf iv + 8).toNat)
      case atStart => exact ⟨0, by omega, rfl, by rw [List.take_zero, List.append_nil]; exact hown, hbr0⟩
      case round =>
        obtain ⟨j, hj, rfl, hown7, hb7⟩ := hrel
        clear hown hbr hbr0 x9 hne
        have hz7 := hb7.size
        by_cases hj8 : j < 8
        · have HB8 := Lib.hid (be8_take2 (bs.length * 8) j hj8)
          have HV8 := Lib.hid (be8_val2 bs.length j hj8)
          obtain ⟨L, hL⟩ : ∃ L, L = T ++ (be8 (bs.length * 8)).take j := ⟨_, rfl⟩
          have hLl : L.length + 1 ≤ 140737488355328 := by
            have := HTL.out
            rw [hL, List.length_append, List.length_take, be8_length]; omega
          have HAPP : Hid (L ++ [UInt8.ofNat (bs.length * 8 / 2 ^ (56 - 8 * j))] = T ++ (be8 (bs.length * 8)).take (j + 1)) := Lib.hid (by rw [HB8.out, hL, List.append_assoc])
          rw [← hL] at hown7
          clear hL
          go_wp2_with (at_builtin; go_loud (refine wl_app1 rfl (.tmp 48) (.tmp 53) rfl w4.heap.size _ L rfl hown7 _ _ HV8.out rfl rfl hLl hz7 ?_); intro v8 w8 hown8 hg8 ho8 hb8; rw [HAPP.out] at hown8; have b8 := hb7.trans hb8)
          go_roundw
          case rel =>
            first
              | exact ⟨j + 1, by omega, by first | rfl | (congr 1; omega), hown8, b8⟩
              | ((repeat apply Exists.intro); exact ⟨⟨j + 1, by omega, by first | rfl | (congr 1; omega), hown8, b8⟩, rfl⟩)
          case measure => simp [intOf]; omega
        · have hj88 : j = 8 := by omega
          subst hj88
          have hpd : T ++ (be8 (bs.length * 8)).take 8 = tailOf bs.length := by
            rw [List.take_of_length_le (by rw [be8_length]; exact Nat.le_refl _), HT.out]
            unfold tailOf
            simp
          rw [hpd] at hown7
          have hst7 : StAt wr wA.heap.size w1.heap.size bs := HST.out.below hb7
          have hrow7 := hst7.row
          have hvs7 : VS wr w1.heap.size _ (tailOf bs.length) := VS.gen hown7.sb (fun k hk => by
            have h1 := hown7.lt k hk
            refine ⟨by omega, fun e => ?_⟩
            have h2 : rowP w4 w1.heap.size = some k := by
              rw [← e]
              unfold rowP
              rw [hb7.cell (p := ⟨w1.heap.size, 8, none⟩) hXl]
            have h3 := HST.out.row k h2
            omega)
          have hlt7 : bs.length + (tailOf bs.length).length ≤ 1152921504606846976 := by rw [tail_length]; omega
          have bwr : Below w.heap.size w wr := bstep (bA.trans (hbA4.mono bA.size)) hb7
          have hk7 : KTab wr 1 := hk.on bwr h1
          have hz47 : wA.heap.size ≤ wr.heap.size := Nat.le_trans hbA4.size hz7
          have HPUT := Lib.hid (kPut_any wA.heap.size w1.heap.size bs (tailOf bs.length) _ wr hst7 hvs7 hlt7 hk7 (by omega) hz47)
          have RR : Hid (∀ w', Below wA.heap.size wr w' → w'.heap[w.heap.size]? = some (rowO (dgA (List.replicate 32 0)))) := Lib.hid (fun w' hb => ((hbA4.trans (hb7.mono hbA4.size)).trans hb).block w.heap.size (by omega) |>.trans rR)
          have hzA1 : w.heap.size < wA.heap.size := by omega
          have BW : Hid (Below w.heap.size w wr) := Lib.hid bwr
          clear hst7 hvs7 hlt7 hk7 hown7 hrow7 hb7 hpd HT HTL bwr
          go_wp2_with fail
          refine HPUT.out.mono ?_
          rintro e6 w6 ⟨rfl, hst6, _, _, hb6⟩
          have HBW6 : Hid (Below w.heap.size w w6) := Lib.hid (BW.out.trans (hb6.mono bA.size))
          have rR6 := RR.out w6 hb6
          have hX6 : ∃ pv n, w6.heap[w1.heap.size]? = some (stObj (wordsOf (padded bs)) pv n) := by
            obtain ⟨pv, h, _⟩ := hst6
            exact ⟨pv, _, h⟩
          have hX6l : w1.heap.size < w6.heap.size := hst6.lt
          obtain ⟨pv6, n6, hX6⟩ := hX6
          have HRR : Hid (∀ w', Below w6.heap.size w6 w' → w'.heap[w.heap.size]? = some (rowO (dgA (List.replicate 32 0)))) := Lib.hid (fun w' hb => (hb.block w.heap.size (Array.getElem?_eq_some_iff.1 rR6).1).trans rR6)
          have HX : Hid (∀ w', Below w6.heap.size w6 w' → w'.heap[w1.heap.size]? = some (stObj (wordsOf (padded bs)) pv6 n6)) := Lib.hid (fun w' hb => (hb.block w1.heap.size hX6l).trans hX6)
          clear hst6 rR6 hX6 RR HPUT HST X9 BW
          have hlen : (shaOf bs).length = 32 := shaOf_length bs
          have HSB : Hid (∀ i, i < 32 → (shaOf bs)[i]? = some (byteW (blkC (wordsOf (padded bs)) (i / 4)) (24 - 8 * (i % 4)))) := Lib.hid (fun i hi => dig_byte _ i hi)
          generalize wordsOf (padded bs) = X at HX HSB
          obtain ⟨D, hD⟩ : ∃ D, D = shaOf bs := ⟨_, rfl⟩
          rw [← hD] at hlen HSB
          have HD := Lib.hid hD
          clear hD
          go_upto_region 15 with fail
          generalize hW7 : w6.alloc _ = w7
          have rD : w7.heap[w6.heap.size]? = some (rowO (dgA (dgUp D 0))) := by rw [← hW7, dgUp_0]; exact (heap_alloc_new w6 _).trans (by kernel_rfl)
          have b67 : Below w6.heap.size w6 w7 := by rw [← hW7]; exact balloc (bself w6) _
          clear hW7
          go_wp2_with fail
          go_loopw [57] (fun iv wy => ∃ i : Nat, iv = .int .i64 i ∧ i ≤ 32 ∧ wy.heap[w6.heap.size]? = some (rowO (dgA (dgUp D i))) ∧ Below w6.heap.size w6 wy) (fun iv _ => 32 - (intOf iv).toNat)
          case atStart => exact ⟨0, rfl, by omega, rD, b67⟩
          case round =>
            obtain ⟨i, rfl, hi, hDi, hb⟩ := hrel
            clear rD b67
            by_cases hlt : i < 32
            · have hXr := HX.out wr hb
              obtain ⟨m, hm⟩ : ∃ m, m = i / 4 := ⟨_, rfl⟩
              obtain ⟨r, hr⟩ : ∃ r, r = i % 4 := ⟨_, rfl⟩
              have hSi := HSB.out i hlt
              rw [← hm, ← hr] at hSi
              have hc := stN_cell hXr (k := m) (by omega)
              obtain ⟨d1, d2, d3⟩ := dg_cell hDi (k := i) (by rw [dgUp_len hlen (by omega)]; exact hlt)
              obtain ⟨q, hq⟩ : ∃ q, q = (dgUp D i)[i]'(by rw [dgUp_len hlen (by omega)]; exact hlt) := ⟨_, rfl⟩
              rw [← hq] at d1
              clear hq
              obtain ⟨sh, hsh⟩ : ∃ sh, sh = 24 - 8 * r := ⟨_, rfl⟩
              rw [← hsh] at hSi
              generalize blkC X m = xw at hc hSi
              have hbv := byteW_val xw sh (by omega)
              obtain ⟨bb, hbb⟩ : ∃ bb, bb = byteW xw sh := ⟨_, rfl⟩
              rw [← hbb] at hbv hSi
              have hnx := d3 bb
              rw [dgUp_step hlen hlt hSi] at hnx
              have HNX := Lib.hid hnx
              have HBB : Hid (Below w6.heap.size w6 (wr.setCell ⟨w6.heap.size, i, none⟩ (u8v bb))) := Lib.hid (hb.setCell (Nat.le_refl _) _)
              have hbv2 : (xw.toNat : Int) / 2 ^ sh % 256 = (bb.toNat : Int) := by rw [← hbv]; norm_cast
              have e1 : (i : Int) / 4 = (m : Int) := by omega
              have e2 : (i : Int) % 4 = (r : Int) := by omega
              have e3 : Int.tdiv (i : Int) 4 = (m : Int) := by rw [Int.tdiv_eq_ediv_of_nonneg (by omega)]; exact e1
              have e4 : Int.tmod (i : Int) 4 = (r : Int) := by rw [Int.tmod_eq_emod_of_nonneg (by omega)]; exact e2
              have e5 : (24 : Int) - 8 * (r : Int) = (sh : Int) := by omega
              have hm8 : m < 8 := by omega
              have hr4 : r < 4 := by omega
              have hsh24 : sh ≤ 24 := by omega
              clear d3 hXr hDi hnx hSi hbv hbb hsh hm hr
              go_wp2_with fail
              go_roundw
              case rel => exact ⟨i + 1, by go_num, by omega, HNX.out, HBB.out⟩
              case measure => simp [intOf]; omega
            · have hi32 : i = 32 := by omega
              subst hi32
              rw [dgUp_32 hlen] at hDi
              obtain ⟨c, hc⟩ : ∃ c, c = dgA D := ⟨_, rfl⟩
              have hDc : wr.heap[w6.heap.size]? = some (rowO c) := by rw [hc]; exact hDi
              have hcn : c.size = 32 := by rw [hc, dgA_size, hlen]
              have hc1 : ∀ v ∈ c.toList, v.oneCell' = true := by rw [hc]; exact dgA_one D
              have hRR := HRR.out wr hb
              have hR9 : (wr.setRow w.heap.size c).heap[w.heap.size]? = some (rowO c) := setRow_heap _ _ _ _ _ _ hRR
              have HR9 := Lib.hid hR9
              have HDc := Lib.hid (And.intro hDc (And.intro hcn (And.intro hc1 (And.intro hRR (show (dgA (List.replicate 32 0)).size = 32 by rw [dgA_size]; rfl)))))
              have HB9 : Hid (Below w.heap.size w (wr.setRow w.heap.size c)) := Lib.hid (below_setRow (HBW6.out.trans (hb.mono HBW6.out.size)) (Nat.le_refl _) c)
              have HE : Hid (c = dgA (shaOf bs)) := Lib.hid (by rw [hc, HD.out])
              clear hc hDi hDc hc1 hRR hR9 hlen hcn
              go_wp2_with (first
                | (refine wl_loadD rfl (.tmp 7) rfl _ rfl c HDc.out.1 HDc.out.2.1 ?_)
                | (refine wl_storeD rfl (.tmp 2) (.tmp 74) rfl _ rfl _ c rfl HDc.out.2.2.2.1 HDc.out.2.2.2.2 HDc.out.2.1 HDc.out.2.2.1 ?_))
              exact bodyPost_ret (v := .agg c) (res_dig Tryd.results39 _ _ _ c rfl HR9.out HDc.out.2.1) rfl ⟨by rw [HE.out], HB9.out⟩
theorem kStSum_nil (w : World) (hk : KTab w 1) (h1 : 1 < w.heap.size) : Calls Tryd.prog 39 #[.pointer none] w fun e w' => e = .returned (digV (shaOf [])) ∧ Below w.heap.size w w' := kStSum_nil0 [] w rfl hk h1
end Go.Proofs.YtjkcdnangmjoeaaDoor
