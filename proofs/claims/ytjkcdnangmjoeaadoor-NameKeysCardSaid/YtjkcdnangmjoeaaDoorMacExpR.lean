/-
  What is proved here: what the reference's Expand comes to, at this seat's numbers. Conditions: the lengths; the table of constants.
-/
import Derived.Test.YtjkcdnangmjoeaaDoorMacExpW
namespace Go.Proofs.YtjkcdnangmjoeaaDoor
open Go.RowKit

theorem rExpand_bad (m : Int) (hm : m < 0 ∨ 8160 < m) (v u : Value) (w : World) : Calls Tryd.prog 28 #[v, u, .int .i64 m] w fun e w' => e = .returned (.tuple #[.slice none 0 0, .int .i64 4]) ∧ w' = w := by
  go_enter Tryd.func28, Tryd.ntmps28
  by_cases h0 : m < 0
  · go_wp2_with fail
    exact bodyPost_ret (v := .tuple #[.slice none 0 0, .int .i64 4]) (by simp [results, Tryd.results28, go_sem]) rfl ⟨rfl, rfl⟩
  · have h8 : 8160 < m := by omega
    go_wp2_with fail
    exact bodyPost_ret (v := .tuple #[.slice none 0 0, .int .i64 4]) (by simp [results, Tryd.results28, go_sem]) rfl ⟨rfl, rfl⟩
theorem expT_len_le (k u : List UInt8) (n : Nat) : (expT k u n).length ≤ 32 := by
  cases n with
  | zero => exact Nat.zero_le _
  | succ j => rw [expT_length]; exact Nat.le_refl _
set_option maxRecDepth 100000 in
set_option maxHeartbeats 2000000 in
theorem rExpand_any (key use : List UInt8) (n : Nat) (hn : n ≤ 8160) (v u : Value) (w : World) (hv : SB w w.heap.size v key) (hu : SB w w.heap.size u use) (hl : key.length ≤ 140737488354000) (hl2 : use.length ≤ 140737488353000) (hk : KTab w 0) (h0 : 0 < w.heap.size) :
    Calls Tryd.prog 28 #[v, u, .int .i64 (n : Int)] w fun e w' => ∃ A c, e = .returned (.tuple #[.slice A n c, .int .i64 0]) ∧ SB w' w'.heap.size (.slice A n c) (expand key use n) ∧ Below w.heap.size w w' := by
  have e0 : ¬ (n : Int) < 0 := by omega
  have e8 : ¬ 8160 < (n : Int) := by omega
  go_enter Tryd.func28, Tryd.ntmps28
  go_wp2_with fail
  go_loopw [8, 9, 10] (fun av lv iv wy => ∃ (j m c9 : Nat) (A9 : Option Addr) (kz : Int), iv = .int .i64 kz ∧ av = .slice A9 m c9 ∧ kz ≤ 256 ∧ 0 ≤ kz ∧ Hid (kz = (j : Int) + 1) ∧ Hid (m = 32 * j) ∧ j ≤ pieces n ∧ OB wy w.heap.size av (expAll key use j) ∧ OB wy w.heap.size lv (expT key use j) ∧ Hid (∀ k, lv.ownBlock = some k → av.ownBlock ≠ some k) ∧ Below w.heap.size w wy) (fun av _ _ _ => pieces n * 32 - sliceLenS av)
  case atStart => exact ⟨0, 0, 0, none, 1, rfl, rfl, by omega, by omega, Lib.hid rfl, Lib.hid rfl, Nat.zero_le _, OB.nil_ _ _, OB.nil_ _ _, Lib.hid (fun k hk => by cases hk), bself w⟩
  case round =>
    obtain ⟨j, m, c9, A9, kz, rfl, rfl, hkz1, hkz0, HKZ, HM, hj, hown, hlast, HNE, hbr⟩ := hrel
    have hzr := hbr.size
    by_cases hlt : m < n
    · have hj2 : j < pieces n := by have := HM.out; unfold pieces; omega
      have hp : pieces n ≤ 255 := by unfold pieces; omega
      have hkz2 : kz ≤ 255 := by have := HKZ.out; omega
      obtain ⟨q, hq⟩ : ∃ q, q = UInt8.ofNat (j + 1) := ⟨_, rfl⟩
      have HZ : Hid (Value.int .u8 kz = u8v q) := Lib.hid (by
        have h : kz = (q.toNat : Int) := by rw [HKZ.out, hq, UInt8.toNat_ofNat']; have := HKZ.out; omega
        rw [h])
      obtain ⟨d, hd⟩ : ∃ d, dgA (macOf key (expT key use j ++ use ++ [q])) = d := ⟨_, rfl⟩
      have hd2 : dgA (expT key use (j + 1)) = d := by rw [← hd, hq]; rfl
      have HN : Hid (d.size = 32 ∧ ∀ v ∈ d.toList, v.oneCell' = true) := Lib.hid (by rw [← hd2]; exact ⟨by rw [dgA_size, expT_length], dgA_one _⟩)
      have HD := Lib.hid (And.intro hd hd2)
      have HLN : Hid ((expAll key use j).length = 32 * j) := Lib.hid (expAll_length key use j)
      have HL1 : Hid ((expT key use j).length ≤ 32) := Lib.hid (expT_len_le key use j)
      have HL2 : Hid ((expT key use (j + 1)).length = 32) := Lib.hid (expT_length key use j)
      have own0 : OB (wr.alloc (.cells #[] 5)) wr.heap.size (.slice (some ⟨wr.heap.size, 0, none⟩) 0 0) [] := OB.lit0 wr (Nat.le_refl _)
      have src0 : SB (wr.alloc (.cells #[] 5)) wr.heap.size _ (expT key use j) := SB.alloc hlast.sb (Nat.le_refl _) _
      have len0 : ([] : List UInt8).length + (expT key use j).length ≤ 140737488355328 := by have := HL1.out; simp only [List.length_nil]; omega
      have hbz0 : wr.heap.size ≤ (wr.alloc (.cells #[] 5)).heap.size := by simp
      have bA := balloc (bself wr) (.cells #[] 5)
      clear hd hd2 hq
      go_upto_region 9 with (at_builtin; go_loud (refine wl_appB rfl (.tmp 25) (.tmp 26) rfl wr.heap.size _ [] rfl own0 wr.heap.size _ (expT key use j) rfl src0 len0 hbz0 ?_); intro v1 w1 hown1 hg1 ho1 hb1; rw [List.nil_append] at hown1)
      have b1 : Below wr.heap.size wr w1 := bA.trans hb1
      have z1 := b1.size
      have bw1 := hbr.trans (b1.mono hzr)
      have src1 : SB w1 w.heap.size u use := hu.below bw1
      have len1 : (expT key use j).length + use.length ≤ 140737488355328 := by have := HL1.out; omega
      clear own0 src0 len0 hbz0 bA hb1 hg1 ho1
      go_upto_region 10 with (at_builtin; go_loud (refine wl_appB rfl (.tmp 28) (.tmp 29) rfl wr.heap.size _ (expT key use j) rfl hown1 w.heap.size _ use rfl src1 len1 z1 ?_); intro v2 w2 hown2 hg2 ho2 hb2)
      have b2 : Below wr.heap.size wr w2 := b1.trans hb2
      have z2 := b2.size
      have len2 : (expT key use j ++ use).length + 1 ≤ 140737488355328 := by have := HL1.out; rw [List.length_append]; omega
      clear hown1 src1 len1 hb2 hg2 ho2 b1 bw1
      go_upto_region 11 with (at_builtin; go_loud (refine wl_app1 rfl (.tmp 31) (.tmp 34) rfl wr.heap.size _ (expT key use j ++ use) rfl hown2 _ q HZ.out rfl rfl len2 z2 ?_); intro v3 w3 hown3 hg3 ho3 hb3)
      have b3 : Below wr.heap.size wr w3 := b2.trans hb3
      have z3 := b3.size
      have bw3 := hbr.trans (b3.mono hzr)
      have zw3 := bw3.size
      have HS : Hid (Calls Tryd.prog 27 #[v, v3] w3 fun e w' => e = .returned (.agg d) ∧ Below w3.heap.size w3 w') := Lib.hid (rMac_any key _ d HD.out.1 v v3 w3 (hv.on bw3) hown3.sb hl (by have := HL1.out; rw [List.length_append, List.length_append]; simp only [List.length_cons, List.length_nil]; omega) (hk.on0 bw3 h0) (by omega))
      clear hown2 len2 hb3 hg3 ho3 b2 z2
      go_wp2_with fail
      refine HS.out.mono ?_
      rintro e w4 ⟨rfl, hb4⟩
      have z4 := hb4.size
      clear HS hown3
      go_upto_region 12 with (refine wl_storeD rfl (.tmp 12) (.tmp 38) rfl _ rfl _ d rfl (heap_alloc_new w4 _) (by kernel_rfl) HN.out.1 HN.out.2 ?_)
      generalize hw5 : World.setRow _ _ _ = w5
      have rD : w5.heap[w4.heap.size]? = some (rowO d) := by rw [← hw5]; exact setRow_heap _ _ _ _ _ _ (heap_alloc_new w4 _)
      have b45 : Below w4.heap.size w4 w5 := by rw [← hw5]; exact below_setRow (balloc (bself w4) _) (Nat.le_refl _) _
      have z5 : Hid (w5.heap.size = w4.heap.size + 1) := Lib.hid (by rw [← hw5]; simp)
      clear hw5
      have b5 : Below wr.heap.size wr w5 := b3.trans ((hb4.mono z3).trans (b45.mono (by omega)))
      have own5 : OB (w5.alloc (.cells #[] 5)) w5.heap.size (.slice (some ⟨w5.heap.size, 0, none⟩) 0 0) [] := OB.lit0 w5 (Nat.le_refl _)
      have src5 : SB (w5.alloc (.cells #[] 5)) w5.heap.size (.slice (some ⟨w4.heap.size, 0, none⟩) 32 32) (expT key use (j + 1)) := SB.alloc (SB.ofRow rD HD.out.2 HL2.out.symm (by have := z5.out; omega) (by rw [HL2.out]; simp [maxLen])) (Nat.le_refl _) _
      have len5 : ([] : List UInt8).length + (expT key use (j + 1)).length ≤ 140737488355328 := by have := HL2.out; simp only [List.length_nil]; omega
      have hbz5 : w5.heap.size ≤ (w5.alloc (.cells #[] 5)).heap.size := by simp
      have bA5 := balloc (bself w5) (.cells #[] 5)
      clear rD b45 hb4
      go_upto_region 13 with (at_builtin; go_loud (refine wl_appB rfl (.tmp 39) (.tmp 40) rfl w5.heap.size _ [] rfl own5 w5.heap.size _ (expT key use (j + 1)) rfl src5 len5 hbz5 ?_); intro v6 w6 hown6 hg6 ho6 hb6; rw [List.nil_append] at hown6)
      have b56 : Below w5.heap.size w5 w6 := bA5.trans hb6
      have z56 := b56.size
      have z5r := b5.size
      have b6 : Below wr.heap.size wr w6 := b5.trans (b56.mono z5r)
      have ownA := hown.below b6 (Nat.le_refl _)
      have bw6 := hbr.trans (b6.mono hzr)
      have zw6 := bw6.size
      have src6 := hown6.sb
      have len6 : (expAll key use j).length + (expT key use (j + 1)).length ≤ 140737488355328 := by rw [HLN.out, HL2.out]; omega
      have HOUT : Hid (∀ (v7 : Value) (w7 : World), w6.grownBy w7 (Value.slice A9 m c9).ownBlock → (v7.ownBlock = (Value.slice A9 m c9).ownBlock ∨ v7.ownBlock = some w6.heap.size) → OB w7 w.heap.size v6 (expT key use (j + 1)) ∧ (∀ k, v6.ownBlock = some k → v7.ownBlock ≠ some k)) := Lib.hid (fun v7 w7 hg ho => by
        have hlt6 := hown6.lt
        have hltA := hown.lt
        refine ⟨(hown6.grown hg (Or.inr (fun e => ?_))).rebase (by omega), fun k hk7 e => ?_⟩
        · obtain ⟨g6, c6, e6⟩ := hown6.form0 (by rw [HL2.out]; omega)
          have h6 := hlt6 g6 (by rw [e6]; rfl)
          have hA := hltA g6 (by rw [← e, e6]; rfl)
          omega
        · have h6 := hlt6 k hk7
          rcases ho with h | h
          · have hA := hltA k (by rw [← h]; exact e)
            omega
          · rw [h] at e
            injection e with e
            omega)
      clear own5 src5 len5 hbz5 bA5 hb6 hg6 ho6 b5 b3 b56 hown hlast HNE
      have HAPP : Hid (expAll key use j ++ expT key use (j + 1) = expAll key use (j + 1)) := Lib.hid rfl
      go_wp2_with (at_builtin; go_loud (refine wl_appB rfl (.tmp 42) (.tmp 43) rfl w.heap.size _ (expAll key use j) rfl ownA w6.heap.size _ (expT key use (j + 1)) rfl src6 len6 zw6 ?_); intro v7 w7 hown7 hg7 ho7 hb7; rw [HAPP.out] at hown7; have b7 := bw6.trans hb7; obtain ⟨hl7, hne7⟩ := HOUT.out v7 w7 hg7 ho7)
      obtain ⟨A7, c7, e7, _, _, _⟩ := id hown7.sb
      have e7 : v7 = .slice A7 (m + 32) c7 := by rw [e7, expAll_length]; congr 1; have := HM.out; omega
      subst e7
      go_roundw
      case rel => exact ⟨j + 1, _, _, _, _, rfl, rfl, by omega, by omega, Lib.hid (by have := HKZ.out; omega), Lib.hid (by have := HM.out; omega), by omega, hown7, hl7, Lib.hid hne7, b7⟩
      case measure => simp only [sliceLenS]; have := HM.out; omega
    · have hip : j = pieces n := by have := HM.out; unfold pieces at hj ⊢; omega
      obtain ⟨A', c', e, k1, k2, hr⟩ := hown.sb
      injection e with e2 e3 e4
      subst e2; subst e4
      have HR : Hid (SB wr wr.heap.size (.slice A9 n c9) (expand key use n)) := Lib.hid (by
        have h := hr.take (k := n) (by omega)
        unfold SB
        rw [expand_length]
        refine ⟨_, _, rfl, by omega, k2, ?_⟩
        unfold expand
        rw [bv_take, ← hip]
        rw [Nat.mul_one] at h
        exact h)
      have k2' : c9 ≤ 9223372036854775807 := by unfold maxLen at k2; omega
      have y4 : (n : Int) ≤ (c9 : Int) := by omega
      clear hr k1 k2 e3 hown hlast HNE
      go_wp2_with fail
      exact bodyPost_ret (v := .tuple #[.slice A9 n c9, .int .i64 0]) (by simp [results, Tryd.results28, go_sem]) rfl ⟨A9, c9, rfl, HR.out, hbr⟩
end Go.Proofs.YtjkcdnangmjoeaaDoor
