/-
  What is proved here: what ShaApart of tantaluslaw03 comes to, at this seat's numbers. Conditions: the bytes' lengths; the table of constants.
-/
import Derived.Test.YthhcoljhfokacaaDoorShaTwo
namespace Go.Proofs.YthhcoljhfokacaaDoor
open Go.RowKit

set_option maxRecDepth 100000 in
set_option maxHeartbeats 2000000 in
theorem shaApart_any (b m : List UInt8) (v u : Value) (W : World) (hv : SB W W.heap.size v b) (hu : SB W W.heap.size u m) (hl : b.length ≤ 140737488351232) (hlm : m.length ≤ 140737488351232) (hk1 : KTab W 1) (h1 : 1 < W.heap.size) :
    Calls Tryd.prog 7 #[v, u] W fun e W' => e = .returned (.bool true) ∧ Below W.heap.size W W' := by
  obtain ⟨A, c0, rfl, _, _, _⟩ := id hv
  obtain ⟨A2, c02, rfl, _, _, _⟩ := id hu
  obtain ⟨c, hc⟩ : ∃ c, dgA (shaOf b) = c := ⟨_, rfl⟩
  obtain ⟨c2, hc2⟩ : ∃ c2, dgA (shaOf (b ++ m)) = c2 := ⟨_, rfl⟩
  have hEq : ∀ w', (Op.equalIn 10000 25 (.agg c) (.agg c)).run Tryd.prog w' = .ok true w' := fun w' => run_eqC w' c _ (shaOf_length b) hc
  have hEq2 : ∀ w', (Op.equalIn 10000 25 (.agg c2) (.agg c2)).run Tryd.prog w' = .ok true w' := fun w' => run_eqC w' c2 _ (shaOf_length _) hc2
  have HN : Hid (c.size = 32 ∧ ∀ v ∈ c.toList, v.oneCell' = true) := Lib.hid (by rw [← hc]; exact ⟨by rw [dgA_size, shaOf_length], dgA_one _⟩)
  have HC := Lib.hid hc
  have HC2 := Lib.hid hc2
  clear hc hc2
  go_enter Tryd.func7, Tryd.ntmps7
  go_wp2_with fail
  refine (kNew_any _).mono ?_
  rintro e w1 ⟨P, rfl, hP1, hb1⟩
  have z1 := hb1.size
  go_wp2_with fail
  refine (kNew_any _).mono ?_
  rintro e w2 ⟨Q, rfl, hQ2, hb2⟩
  have b2 := bstep hb1 hb2
  have z2 := b2.size
  have T2 := Lib.hid (TwoAt.new hP1 hb2 hQ2 z1)
  clear hP1 hQ2
  have own0 : OB (w2.alloc (.cells #[] 5)) w2.heap.size (.slice (some ⟨w2.heap.size, 0, none⟩) 0 0) [] := OB.lit0 w2 (Nat.le_refl _)
  have hsrc : SB (w2.alloc (.cells #[] 5)) W.heap.size (.slice A b.length c0) b := SB.alloc (hv.below b2) z2 _
  have hlen : ([] : List UInt8).length + b.length ≤ 140737488355328 := by simp only [List.length_nil]; omega
  have hbz : w2.heap.size ≤ (w2.alloc (.cells #[] 5)).heap.size := by simp
  have HB : Hid (∀ v3 w3, OB w3 w2.heap.size v3 ([] ++ b) → (v3.ownBlock = (Value.slice (some ⟨w2.heap.size, 0, none⟩) 0 0).ownBlock ∨ v3.ownBlock = some (w2.alloc (.cells #[] 5)).heap.size) → Below w2.heap.size (w2.alloc (.cells #[] 5)) w3 →
      Below w2.heap.size w2 w3 ∧ ∃ g c3, v3 = .slice (some ⟨g, 0, none⟩) b.length c3 ∧ OB w3 w2.heap.size (.slice (some ⟨g, 0, none⟩) b.length c3) b ∧ w2.heap.size ≤ g ∧ g < w3.heap.size) := Lib.hid (fun v3 w3 ho hw hb => by
    rw [List.nil_append] at ho
    refine ⟨(balloc (bself w2) _).trans hb, ?_⟩
    obtain ⟨g, hg⟩ : ∃ g, v3.ownBlock = some g := by
      rcases hw with h | h
      · exact ⟨_, h⟩
      · exact ⟨_, h⟩
    obtain ⟨c3, rfl, h1, h2⟩ := ho.some hg
    exact ⟨g, c3, rfl, ho, h1, h2⟩)
  go_upto_region 5 with (at_builtin; go_loud (refine wl_appB rfl (.tmp 20) (.tmp 21) rfl w2.heap.size _ [] rfl own0 W.heap.size _ b rfl hsrc hlen hbz ?_); intro v3 w3 hown3 hg3 ho3 hb3; obtain ⟨b23, g, c3, hv3, hown, hg2, hgl⟩ := HB.out v3 w3 hown3 ho3 hb3; subst hv3)
  have b3 := bstep b2 b23
  have hgW : Hid (W.heap.size ≤ g) := Lib.hid (Nat.le_trans z2 hg2)
  have T3 := T2.out.below b23
  have O3 : Own w3 P Q g b.length := Own.new T2.out b23 hg2 hgl (Bb.own hown rfl)
  have hvs3 : VS w3 P (.slice (some ⟨g, 0, none⟩) b.length c3) b := VS.gen hown.sb (fun k hk => by
    injection hk with hk
    have hk' : g = k := hk
    subst hk'
    exact ⟨O3.2.2.2.1, O3.2.1⟩)
  have HW := Lib.hid (kWrite_any W.heap.size P [] b _ w3 T3.1 hvs3 (by simp only [List.length_nil]; omega) (hk1.on b3 h1) h1 T3.2.2.2.2.2.2)
  have HN4 : Hid (∀ w4, StAt w4 W.heap.size P ([] ++ b) → Off w3 w4 P → (rowP w4 P = rowP w3 P ∨ ∀ g, rowP w4 P = some g → w3.heap.size ≤ g) → Below W.heap.size w3 w4 → TwoAt w4 W.heap.size P Q b [] ∧ Own w4 P Q g b.length ∧ Below W.heap.size W w4) := Lib.hid (fun w4 q1 q2 q3 q4 =>
    ⟨T3.wrote (by rw [List.nil_append] at q1; exact q1) q2 q3 q4.size, (O3.wrote T3 q2 q3 q4.size).1, b3.trans q4⟩)
  clear own0 hsrc hlen hbz HB hown3 ho3 hb3 hg3 hown hg2 hgl T3 O3 hvs3
  go_wp2_with fail
  refine HW.out.mono ?_
  rintro e w4 ⟨rfl, q1, q2, q3, q4⟩
  obtain ⟨T4, O4, b4⟩ := HN4.out w4 q1 q2 q3 q4
  have T4s := T4.symm
  have hvs4 : VS w4 Q (.slice A b.length c0) b := VS.old (B := W.heap.size) (hv.below b4) b4.size (by obtain ⟨_, _, _, _, h5⟩ := T4.2.1; exact h5) (fun k hk => (T4.2.1.row k hk).1)
  have HW5 := Lib.hid (kWrite_any W.heap.size Q [] b _ w4 T4s.1 hvs4 (by simp only [List.length_nil]; omega) (hk1.on b4 h1) h1 T4s.2.2.2.2.2.2)
  have HN5 : Hid (∀ w5, StAt w5 W.heap.size Q ([] ++ b) → Off w4 w5 Q → (rowP w5 Q = rowP w4 Q ∨ ∀ g, rowP w5 Q = some g → w4.heap.size ≤ g) → Below W.heap.size w4 w5 → TwoAt w5 W.heap.size P Q b b ∧ Own w5 P Q g b.length ∧ Below W.heap.size W w5) := Lib.hid (fun w5 q1 q2 q3 q4 =>
    ⟨(T4s.wrote (by rw [List.nil_append] at q1; exact q1) q2 q3 q4.size).symm, (O4.symm.wrote T4s q2 q3 q4.size).1.symm, b4.trans q4⟩)
  clear q1 q2 q3 q4 T4 O4 T4s hvs4 HW HN4
  go_wp2_with fail
  refine HW5.out.mono ?_
  rintro e w5 ⟨rfl, q1, q2, q3, q4⟩
  obtain ⟨T5, O5, b5⟩ := HN5.out w5 q1 q2 q3 q4
  have B5 : Bb w5 g b.length := O5.1
  have HT5 := Lib.hid (And.intro T5 O5)
  clear q1 q2 q3 q4 T5 O5 HW5 HN5
  go_wp2_with fail
  go_loopw [31] (fun iv wy => ∃ i : Nat, iv = .int .i64 i ∧ i ≤ b.length ∧ w5.grownBy wy (some g) ∧ Bb wy g b.length) (fun iv _ => b.length - (intOf iv).toNat)
  case atStart => exact ⟨0, rfl, Nat.zero_le _, grown_self w5 _, B5⟩
  case round =>
    obtain ⟨i, rfl, hi, hgr, hB⟩ := hrel
    clear B5
    by_cases hlt : i < b.length
    · obtain ⟨⟨q, hq⟩, hf⟩ := hB i hlt
      have hx := x255_val q
      have HNX := Lib.hid (hB.set i (x255 q) hlt)
      have HGR := Lib.hid (hgr.trans (grown_set wr (g := g) (p := ⟨g, i, none⟩) rfl (.int .u8 ((x255 q).toNat : Int))))
      generalize x255 q = q2 at hx HNX HGR
      clear hB hgr
      go_wp2_with fail
      go_roundw
      case rel => exact ⟨i + 1, by go_num, by omega, HGR.out, HNX.out⟩
      case measure => simp [intOf]; omega
    · obtain ⟨w6, hw6⟩ : ∃ w6, w6 = wr := ⟨_, rfl⟩
      subst hw6
      obtain ⟨T5, O5⟩ := HT5.out
      have T6 := (T5.grown hgr O5.2.2.2.1 O5.2.2.2.2.1 O5.2.1 O5.2.2.1).1
      have b6 : Below W.heap.size W w6 := b5.grown hgr b5.size (fun k hk => by injection hk with hk; have := hgW.out; omega)
      have HS := Lib.hid (kStSumC W.heap.size P b c HC.out w6 T6.1 (by omega) (hk1.on b6 h1) (by have := b6.size; omega))
      have HT6 := Lib.hid T6
      clear hgr hB T5 O5 T6 HT5
      go_wp2_with fail
      refine HS.out.mono ?_
      rintro e w7 ⟨rfl, hb7⟩
      have T7 := Lib.hid (HT6.out.below hb7)
      have b7 := bstep b6 hb7
      clear HS HT6
      go_upto_region 13 with (refine wl_storeD rfl (.tmp 9) (.tmp 42) rfl _ rfl _ c rfl (heap_alloc_new w7 _) (by kernel_rfl) HN.out.1 HN.out.2 ?_)
      generalize hw8 : World.setRow _ _ _ = w8
      have rD : w8.heap[w7.heap.size]? = some (rowO c) := by rw [← hw8]; exact setRow_heap _ _ _ _ _ _ (heap_alloc_new w7 _)
      have b78 : Below w7.heap.size w7 w8 := by rw [← hw8]; exact below_setRow (balloc (bself w7) _) (Nat.le_refl _) _
      have z8 : Hid (w8.heap.size = w7.heap.size + 1) := Lib.hid (by rw [← hw8]; simp)
      clear hw8
      go_upto_region 14 with (first
        | (refine wl_loadD rfl (.tmp 9) rfl _ rfl c rD HN.out.1 ?_)
        | (refine wl_storeD rfl (.tmp 10) (.tmp 43) rfl _ rfl _ c rfl (heap_alloc_new w8 _) (by kernel_rfl) HN.out.1 HN.out.2 ?_))
      generalize hw9 : World.setRow _ _ _ = w9
      have rE : w9.heap[w8.heap.size]? = some (rowO c) := by rw [← hw9]; exact setRow_heap _ _ _ _ _ _ (heap_alloc_new w8 _)
      have b89 : Below w8.heap.size w8 w9 := by rw [← hw9]; exact below_setRow (balloc (bself w8) _) (Nat.le_refl _) _
      have z9 : Hid (w9.heap.size = w8.heap.size + 1) := Lib.hid (by rw [← hw9]; simp)
      clear hw9
      have b79 : Below w7.heap.size w7 w9 := bstep b78 b89
      have T9 := T7.out.below b79
      have b9 := bstep b7 b79
      have rD9 : w9.heap[w7.heap.size]? = some (rowO c) := (b89.block w7.heap.size (by have := z8.out; omega)).trans rD
      have OD : Own w9 P Q w7.heap.size 32 := Own.new T7.out b79 (Nat.le_refl _) (by have := z8.out; have := z9.out; omega) (by rw [← HC.out] at rD9; exact Bb.row rD9 (shaOf_length b))
      have OE : Own w9 P Q w8.heap.size 32 := Own.new T7.out b79 (by have := z8.out; omega) (by have := z9.out; omega) (by have h := rE; rw [← HC.out] at h; exact Bb.row h (shaOf_length b))
      have hvs9 : VS w9 P (.slice A2 m.length c02) m := VS.old (B := W.heap.size) (hu.below b9) b9.size (by obtain ⟨_, _, _, _, h5⟩ := T9.1; exact h5) (fun k hk => (T9.1.row k hk).1)
      have HW10 := Lib.hid (kWrite_any W.heap.size P b m _ w9 T9.1 hvs9 (by omega) (hk1.on b9 h1) h1 T9.2.2.2.2.2.2)
      have HN10 : Hid (∀ w10, StAt w10 W.heap.size P (b ++ m) → Off w9 w10 P → (rowP w10 P = rowP w9 P ∨ ∀ g, rowP w10 P = some g → w9.heap.size ≤ g) → Below W.heap.size w9 w10 → TwoAt w10 W.heap.size P Q (b ++ m) b ∧ Own w10 P Q w7.heap.size 32 ∧ Own w10 P Q w8.heap.size 32 ∧ w10.heap[w8.heap.size]? = some (rowO c) ∧ Below W.heap.size W w10) := Lib.hid (fun w10 q1 q2 q3 q4 =>
        ⟨T9.wrote q1 q2 q3 q4.size, (OD.wrote T9 q2 q3 q4.size).1, (OE.wrote T9 q2 q3 q4.size).1, (OE.wrote T9 q2 q3 q4.size).2.trans rE, b9.trans q4⟩)
      clear rD rE b78 b89 b79 T9 rD9 OD OE hvs9 T7
      go_wp2_with fail
      refine HW10.out.mono ?_
      rintro e w10 ⟨rfl, q1, q2, q3, q4⟩
      obtain ⟨T10, OD10, OE10, rE10, b10⟩ := HN10.out w10 q1 q2 q3 q4
      have B10 := OD10.1
      have HT10 := Lib.hid (And.intro T10 (And.intro OD10 (And.intro OE10 rE10)))
      clear q1 q2 q3 q4 T10 OD10 OE10 rE10 HW10 HN10
      have hDW : Hid (W.heap.size ≤ w7.heap.size) := Lib.hid b7.size
      go_wp2_with fail
      go_loopw [47] (fun iv wy => ∃ i : Nat, iv = .int .i64 i ∧ i ≤ 32 ∧ w10.grownBy wy (some w7.heap.size) ∧ Bb wy w7.heap.size 32) (fun iv _ => 32 - (intOf iv).toNat)
      case atStart => exact ⟨0, rfl, by omega, grown_self w10 _, B10⟩
      case round =>
        obtain ⟨i, rfl, hi, hgr, hB⟩ := hrel
        clear B10
        by_cases hlt : i < 32
        · obtain ⟨⟨q, hq⟩, hf⟩ := hB i hlt
          have hx := x255_val q
          have HNX := Lib.hid (hB.set i (x255 q) hlt)
          have HGR := Lib.hid (hgr.trans (grown_set wr (g := w7.heap.size) (p := ⟨w7.heap.size, i, none⟩) rfl (.int .u8 ((x255 q).toNat : Int))))
          generalize x255 q = q2 at hx HNX HGR
          clear hB hgr
          go_wp2_with fail
          go_roundw
          case rel => exact ⟨i + 1, by go_num, by omega, HGR.out, HNX.out⟩
          case measure => simp [intOf]; omega
        · obtain ⟨w11, hw11⟩ : ∃ w11, w11 = wr := ⟨_, rfl⟩
          subst hw11
          obtain ⟨T10, OD10, OE10, rE10⟩ := HT10.out
          have hTG := T10.grown hgr OD10.2.2.2.1 OD10.2.2.2.2.1 OD10.2.1 OD10.2.2.1
          have b11 : Below W.heap.size W w11 := b10.grown hgr b10.size (fun k hk => by injection hk with hk; have := hDW.out; omega)
          have rE11 : w11.heap[w8.heap.size]? = some (rowO c) := (hgr.block w8.heap.size OE10.2.2.2.2.2 (fun e => by injection e with e; have := z8.out; omega)).trans rE10
          have T11 := hTG.1.symm
          have hvs11 : VS w11 Q (.slice none 0 0) [] := VS.old (B := W.heap.size) (SB.nil_ _ _) b11.size (by obtain ⟨_, _, _, _, h5⟩ := T11.1; exact h5) (fun k hk => (T11.1.row k hk).1)
          have HW12 := Lib.hid (kWrite_any W.heap.size Q b [] _ w11 T11.1 hvs11 (by simp only [List.length_nil]; omega) (hk1.on b11 h1) h1 T11.2.2.2.2.2.2)
          have HN12 : Hid (∀ w12, StAt w12 W.heap.size Q (b ++ []) → Off w11 w12 Q → (rowP w12 Q = rowP w11 Q ∨ ∀ g, rowP w12 Q = some g → w11.heap.size ≤ g) → Below W.heap.size w11 w12 → TwoAt w12 W.heap.size P Q (b ++ m) b ∧ w12.heap[w8.heap.size]? = some (rowO c) ∧ Below W.heap.size W w12) := Lib.hid (fun w12 q1 q2 q3 q4 =>
            ⟨(T11.wrote (by rw [List.append_nil] at q1; exact q1) q2 q3 q4.size).symm, (q2 w8.heap.size (Array.getElem?_eq_some_iff.1 rE11).1 OE10.2.2.2.2.1 (by rw [hTG.2.2]; exact OE10.2.2.1)).trans rE11, b11.trans q4⟩)
          clear T10 OD10 OE10 rE10 hTG rE11 T11 hvs11 hgr hB HT10
          go_wp2_with fail
          refine HW12.out.mono ?_
          rintro e w12 ⟨rfl, q1, q2, q3, q4⟩
          obtain ⟨T12, rE12, b12⟩ := HN12.out w12 q1 q2 q3 q4
          clear q1 q2 q3 q4 HW12 HN12
          have l12 : W.heap.size ≤ w12.heap.size := b12.size
          have HSH : Hid (∀ w', Below w12.heap.size w12 w' → Calls Tryd.prog 8 #[] w' fun e w'' => e = .returned (.bool true) ∧ Below w'.heap.size w' w'') := Lib.hid (fun w' h => shown_any w' (hk1.on (bstep b12 h) h1) (by have := h.size; omega))
          have HSQ : Hid (∀ w', Below w12.heap.size w12 w' → Calls Tryd.prog 13 #[.pointer (some ⟨Q, 0, none⟩)] w' fun e w'' => e = .returned (.agg c) ∧ Below w'.heap.size w' w'') := Lib.hid (fun w' h => kStSumC W.heap.size Q b c HC.out w' (T12.2.1.below h) (by omega) (hk1.on (bstep b12 h) h1) (by have := h.size; omega))
          have HSP : Hid (∀ w', Below w12.heap.size w12 w' → Calls Tryd.prog 13 #[.pointer (some ⟨P, 0, none⟩)] w' fun e w'' => e = .returned (.agg c2) ∧ Below w'.heap.size w' w'') := Lib.hid (fun w' h => kStSumC W.heap.size P (b ++ m) c2 HC2.out w' (T12.1.below h) (by rw [List.length_append]; omega) (hk1.on (bstep b12 h) h1) (by have := h.size; omega))
          have HLQ : Hid (∀ w', Below w12.heap.size w12 w' → Calls Tryd.prog 12 #[.pointer (some ⟨Q, 0, none⟩)] w' fun e w'' => e = .returned (.int .i64 (b.length : Int)) ∧ w'' = w') := Lib.hid (fun w' h => kLen_any W.heap.size Q b w' (T12.2.1.below h))
          have HLL : Hid (∀ x g, Below w12.heap.size w12 x → g = x.heap.size → ∀ x', Below (x.alloc (.cells #[.slice A b.length c0, .slice A2 m.length c02] 22)).heap.size (x.alloc (.cells #[.slice A b.length c0, .slice A2 m.length c02] 22)) x' → Calls Tryd.prog 9 #[.slice (some ⟨g, 0, none⟩) 2 2] x' fun e w'' => e = .returned (.agg c2) ∧ Below x'.heap.size x' w'') := Lib.hid (fun x g hx hg x' hx' => by
            have hX := bstep b12 hx
            have h2 : LL (x.alloc (.cells #[.slice A b.length c0, .slice A2 m.length c02] 22)) _ (.slice (some ⟨g, 0, none⟩) 2 2) [b, m] := LL.new (w := x) [.slice A b.length c0, .slice A2 m.length c02] [b, m] 22 hg rfl rfl (by simp [maxLen]) (fun i u l h1 h2 => by
              rcases i with _ | _ | i
              · simp at h1 h2; subst h1; subst h2; exact (hv.below hX).more hX.size
              · simp at h1 h2; subst h1; subst h2; exact (hu.below hX).more hX.size
              · simp at h1)
            have h3 := bstep (balloc hX (.cells #[.slice A b.length c0, .slice A2 m.length c02] 22)) hx'
            exact kSumC [b, m] c2 (by rw [flat2]; exact HC2.out) _ x' (h2.on hx') (by rw [flat2, List.length_append]; omega) (hk1.on h3 h1) (by have := h3.size; omega))
          have KS : Hid (∀ w', Below w12.heap.size w12 w' → w'.heap[w8.heap.size]? = some (rowO c)) := Lib.hid (fun w' h => (h.block w8.heap.size (Array.getElem?_eq_some_iff.1 rE12).1).trans rE12)
          clear T12 rE12
          go_upto_region 21 with fail
          refine wp_region_noPanic ?_
          refine wp_region_held_drew (S := fun w' => w'.heap[w8.heap.size]? = some (rowO c)) (by kernel_rfl) (KS.out _ (bdrew (bself w12))) (fun hHeld => ?_)
          refine reg_one 0 (by rfl) (by kernel_rfl) (by rfl) (fun K hK => ?_)
          (go_simp; go_at_call 8; refine (HSH.out _ (bdrew (bself w12))).mono ?_; rintro e x1 ⟨rfl, hx1⟩; have B1 := bstep (bdrew (bself w12)) hx1; go_wp2_with fail)
          refine hK.out _ _ ?_ (fun hHeld => ?_)
          · exact KS.out _ B1
          clear hK K
          try simp only [Act.put, List.setIfInBounds_toArray, List.set_cons_zero, List.set_cons_succ]
          refine reg_take 1 (v := ?_) (by rfl) (by kernel_rfl) (by kernel_rfl) (by kernel_rfl) (fun _ _ _ h => h) (by rfl) ?_ (by assumption) ?_
          rotate_left
          · (intro wq hSq; (try dsimp only at hSq); go_split_ands; go_simp; (try with_reducible rfl))
          try simp only [Act.put, List.setIfInBounds_toArray, List.set_cons_zero, List.set_cons_succ]
          refine reg_take 2 (v := ?_) (by rfl) (by kernel_rfl) (by kernel_rfl) (by kernel_rfl) (fun _ _ _ h => h) (by rfl) ?_ (by assumption) ?_
          rotate_left
          · (intro wq hSq; (try dsimp only at hSq); go_split_ands; go_simp; (try with_reducible rfl))
          try simp only [Act.put, List.setIfInBounds_toArray, List.set_cons_zero, List.set_cons_succ]
          refine reg_take 4 (v := .agg c) (by rfl) (by kernel_rfl) (by kernel_rfl) (by kernel_rfl) (fun _ _ _ h => h) (by rfl) ?_ (by assumption) ?_
          · (intro wq hSq; exact exec_loadD (.tmp 10) rfl _ rfl c hSq HN.out.1)
          try simp only [Act.put, List.setIfInBounds_toArray, List.set_cons_zero, List.set_cons_succ]
          refine reg_one 3 (by rfl) (by kernel_rfl) (by rfl) (fun K hK => ?_)
          (go_simp; go_at_call 13; refine (HSQ.out _ B1).mono ?_; rintro e x2 ⟨rfl, hx2⟩; have B2 := bstep B1 hx2; go_wp2_with fail)
          refine hK.out _ _ ?_ (fun hHeld => ?_)
          · exact KS.out _ B2
          clear hK K
          try simp only [Act.put, List.setIfInBounds_toArray, List.set_cons_zero, List.set_cons_succ]
          refine reg_take 5 (v := ?_) (by rfl) (by kernel_rfl) (by kernel_rfl) (by kernel_rfl) (fun _ _ _ h => h) (by rfl) ?_ (by assumption) ?_
          rotate_left
          · (intro wq hSq; (try dsimp only at hSq); go_split_ands; go_simp; (try with_reducible rfl))
          try simp only [Act.put, List.setIfInBounds_toArray, List.set_cons_zero, List.set_cons_succ]
          refine reg_take 6 (v := ?_) (by rfl) (by kernel_rfl) (by kernel_rfl) (by kernel_rfl) (fun _ _ _ h => h) (by rfl) ?_ (by assumption) ?_
          rotate_left
          · (intro wq hSq; (try dsimp only at hSq); go_split_ands; go_simp; (try with_reducible rfl))
          try simp only [Act.put, List.setIfInBounds_toArray, List.set_cons_zero, List.set_cons_succ]
          refine reg_take 7 (v := ?_) (by rfl) (by kernel_rfl) (by kernel_rfl) (by kernel_rfl) (fun _ _ _ h => h) (by rfl) ?_ (by assumption) ?_
          rotate_left
          · (intro wq hSq; (try dsimp only at hSq); go_split_ands; go_simp; (try with_reducible rfl))
          try simp only [Act.put, List.setIfInBounds_toArray, List.set_cons_zero, List.set_cons_succ]
          refine reg_take 8 (v := ?_) (by rfl) (by kernel_rfl) (by kernel_rfl) (by kernel_rfl) (fun _ _ _ h => h) (by rfl) ?_ (by assumption) ?_
          rotate_left
          · (intro wq hSq; (try dsimp only at hSq); go_split_ands; go_simp; (try with_reducible rfl))
          try simp only [Act.put, List.setIfInBounds_toArray, List.set_cons_zero, List.set_cons_succ]
          refine reg_take 10 (v := ?_) (by rfl) (by kernel_rfl) (by kernel_rfl) (by kernel_rfl) (fun _ _ _ h => h) (by rfl) ?_ (by assumption) ?_
          rotate_left
          · (intro wq hSq; (try dsimp only at hSq); go_split_ands; go_simp; (try with_reducible rfl))
          try simp only [Act.put, List.setIfInBounds_toArray, List.set_cons_zero, List.set_cons_succ]
          refine reg_take 11 (v := ?_) (by rfl) (by kernel_rfl) (by kernel_rfl) (by kernel_rfl) (fun _ _ _ h => h) (by rfl) ?_ (by assumption) ?_
          rotate_left
          · (intro wq hSq; (try dsimp only at hSq); go_split_ands; go_simp; (try with_reducible rfl))
          try simp only [Act.put, List.setIfInBounds_toArray, List.set_cons_zero, List.set_cons_succ]
          refine reg_one 9 (by rfl) (by kernel_rfl) (by rfl) (fun K hK => ?_)
          (go_simp; go_at_call 12; refine (HLQ.out _ B2).mono ?_; rintro e x3 ⟨rfl, rfl⟩; go_wp2_with fail)
          refine hK.out _ _ ?_ (fun hHeld => ?_)
          · exact KS.out _ B2
          clear hK K
          try simp only [Act.put, List.setIfInBounds_toArray, List.set_cons_zero, List.set_cons_succ]
          refine reg_take 12 (v := ?_) (by rfl) (by kernel_rfl) (by kernel_rfl) (by kernel_rfl) (fun _ _ _ h => h) (by rfl) ?_ (by assumption) ?_
          rotate_left
          · (intro wq hSq; (try dsimp only at hSq); go_split_ands; go_simp; (try with_reducible rfl))
          try simp only [Act.put, List.setIfInBounds_toArray, List.set_cons_zero, List.set_cons_succ]
          refine reg_take 13 (v := ?_) (by rfl) (by kernel_rfl) (by kernel_rfl) (by kernel_rfl) (fun _ _ _ h => h) (by rfl) ?_ (by assumption) ?_
          rotate_left
          · (intro wq hSq; (try dsimp only at hSq); go_split_ands; go_simp; (try with_reducible rfl))
          try simp only [Act.put, List.setIfInBounds_toArray, List.set_cons_zero, List.set_cons_succ]
          refine reg_take 14 (v := ?_) (by rfl) (by kernel_rfl) (by kernel_rfl) (by kernel_rfl) (fun _ _ _ h => h) (by rfl) ?_ (by assumption) ?_
          rotate_left
          · (intro wq hSq; (try dsimp only at hSq); go_split_ands; go_simp; (try with_reducible rfl))
          try simp only [Act.put, List.setIfInBounds_toArray, List.set_cons_zero, List.set_cons_succ]
          refine reg_take 15 (v := ?_) (by rfl) (by kernel_rfl) (by kernel_rfl) (by kernel_rfl) (fun _ _ _ h => h) (by rfl) ?_ (by assumption) ?_
          rotate_left
          · (intro wq hSq; (try dsimp only at hSq); go_split_ands; go_simp; (try with_reducible rfl))
          try simp only [Act.put, List.setIfInBounds_toArray, List.set_cons_zero, List.set_cons_succ]
          refine reg_take 17 (v := ?_) (by rfl) (by kernel_rfl) (by kernel_rfl) (by kernel_rfl) (fun _ _ _ h => h) (by rfl) ?_ (by assumption) ?_
          rotate_left
          · (intro wq hSq; (try dsimp only at hSq); go_split_ands; go_simp; (try with_reducible rfl))
          try simp only [Act.put, List.setIfInBounds_toArray, List.set_cons_zero, List.set_cons_succ]
          refine reg_take 18 (v := ?_) (by rfl) (by kernel_rfl) (by kernel_rfl) (by kernel_rfl) (fun _ _ _ h => h) (by rfl) ?_ (by assumption) ?_
          rotate_left
          · (intro wq hSq; (try dsimp only at hSq); go_split_ands; go_simp; (try with_reducible rfl))
          try simp only [Act.put, List.setIfInBounds_toArray, List.set_cons_zero, List.set_cons_succ]
          refine reg_two 16 19 (by rfl) (by rfl) (by kernel_rfl) (by rfl) (by rfl) (fun K hK => ?_) (fun K hK => ?_)
          · (go_simp; go_at_call 13; refine (HSP.out _ B2).mono ?_; rintro e x4 ⟨rfl, hx4⟩; have B4 := bstep B2 hx4; go_wp2_with fail)
            refine hK.out _ _ ?_ (fun hHeld => ?_)
            · exact KS.out _ B4
            clear hK K
            try simp only [Act.put, List.setIfInBounds_toArray, List.set_cons_zero, List.set_cons_succ]
            refine reg_one 19 (by rfl) (by kernel_rfl) (by rfl) (fun K hK => ?_)
            (go_simp)
            refine hK.out _ _ ?_ (fun hHeld => ?_)
            · exact KS.out _ (balloc B4 _)
            clear hK K
            try simp only [Act.put, List.setIfInBounds_toArray, List.set_cons_zero, List.set_cons_succ]
            refine reg_one 20 (by rfl) (by kernel_rfl) (by rfl) (fun K hK => ?_)
            (go_simp; go_at_call 9; refine (HLL.out _ _ B4 rfl _ (bself _)).mono ?_; rintro e x5 ⟨rfl, hx5⟩; have B5 := bstep (balloc B4 _) hx5; go_wp2_with fail)
            refine hK.out _ _ ?_ (fun hHeld => ?_)
            · exact KS.out _ B5
            clear hK K
            try simp only [Act.put, List.setIfInBounds_toArray, List.set_cons_zero, List.set_cons_succ]
            refine reg_take 21 (v := ?_) (by rfl) (by kernel_rfl) (by kernel_rfl) (by kernel_rfl) (fun _ _ _ h => h) (by rfl) ?_ (by assumption) ?_
            rotate_left
            · (intro wq hSq; (try dsimp only at hSq); go_split_ands; go_simp; (try with_reducible rfl))
            try simp only [Act.put, List.setIfInBounds_toArray, List.set_cons_zero, List.set_cons_succ]
            refine reg_take 22 (v := ?_) (by rfl) (by kernel_rfl) (by kernel_rfl) (by kernel_rfl) (fun _ _ _ h => h) (by rfl) ?_ (by assumption) ?_
            rotate_left
            · (intro wq hSq; (try dsimp only at hSq); go_split_ands; go_simp; (try with_reducible rfl))
            try simp only [Act.put, List.setIfInBounds_toArray, List.set_cons_zero, List.set_cons_succ]
            refine reg_take 23 (v := ?_) (by rfl) (by kernel_rfl) (by kernel_rfl) (by kernel_rfl) (fun _ _ _ h => h) (by rfl) ?_ (by assumption) ?_
            rotate_left
            · (intro wq hSq; (try dsimp only at hSq); go_split_ands; go_simp; (try with_reducible rfl))
            try simp only [Act.put, List.setIfInBounds_toArray, List.set_cons_zero, List.set_cons_succ]
            refine wpAnyH_done (by kernel_rfl) (noPanic_mk ?_) _
            go_wp2_with fail
            go_ret
            exact ⟨rfl, bstep b12 B5⟩
          · (go_simp)
            refine hK.out _ _ ?_ (fun hHeld => ?_)
            · exact KS.out _ (balloc B2 _)
            clear hK K
            try simp only [Act.put, List.setIfInBounds_toArray, List.set_cons_zero, List.set_cons_succ]
            refine reg_one 16 (by rfl) (by kernel_rfl) (by rfl) (fun K hK => ?_)
            (go_simp; go_at_call 13; refine (HSP.out _ (balloc B2 _)).mono ?_; rintro e x4 ⟨rfl, hx4⟩; have B4 := bstep (balloc B2 _) hx4; go_wp2_with fail)
            refine hK.out _ _ ?_ (fun hHeld => ?_)
            · exact KS.out _ B4
            clear hK K
            try simp only [Act.put, List.setIfInBounds_toArray, List.set_cons_zero, List.set_cons_succ]
            refine reg_one 20 (by rfl) (by kernel_rfl) (by rfl) (fun K hK => ?_)
            (go_simp; go_at_call 9; refine (HLL.out _ _ B2 rfl _ hx4).mono ?_; rintro e x5 ⟨rfl, hx5⟩; have B5 := bstep B4 hx5; go_wp2_with fail)
            refine hK.out _ _ ?_ (fun hHeld => ?_)
            · exact KS.out _ B5
            clear hK K
            try simp only [Act.put, List.setIfInBounds_toArray, List.set_cons_zero, List.set_cons_succ]
            refine reg_take 21 (v := ?_) (by rfl) (by kernel_rfl) (by kernel_rfl) (by kernel_rfl) (fun _ _ _ h => h) (by rfl) ?_ (by assumption) ?_
            rotate_left
            · (intro wq hSq; (try dsimp only at hSq); go_split_ands; go_simp; (try with_reducible rfl))
            try simp only [Act.put, List.setIfInBounds_toArray, List.set_cons_zero, List.set_cons_succ]
            refine reg_take 22 (v := ?_) (by rfl) (by kernel_rfl) (by kernel_rfl) (by kernel_rfl) (fun _ _ _ h => h) (by rfl) ?_ (by assumption) ?_
            rotate_left
            · (intro wq hSq; (try dsimp only at hSq); go_split_ands; go_simp; (try with_reducible rfl))
            try simp only [Act.put, List.setIfInBounds_toArray, List.set_cons_zero, List.set_cons_succ]
            refine reg_take 23 (v := ?_) (by rfl) (by kernel_rfl) (by kernel_rfl) (by kernel_rfl) (fun _ _ _ h => h) (by rfl) ?_ (by assumption) ?_
            rotate_left
            · (intro wq hSq; (try dsimp only at hSq); go_split_ands; go_simp; (try with_reducible rfl))
            try simp only [Act.put, List.setIfInBounds_toArray, List.set_cons_zero, List.set_cons_succ]
            refine wpAnyH_done (by kernel_rfl) (noPanic_mk ?_) _
            go_wp2_with fail
            go_ret
            exact ⟨rfl, bstep b12 B5⟩
end Go.Proofs.YthhcoljhfokacaaDoor
