/-
  What is proved here: the call of the statement CodecLays returns true and turns nothing that was there. Conditions: the lengths.
-/
import Derived.Test.YtaefhnmdombadaaShown01
import Derived.Test.YtaefhnmdombadaaRefCodecW
import Derived.Test.YtaefhnmdombadaaRegion
namespace Go.Proofs.Ytaefhnmdombadaa
open Go.RowKit

set_option maxHeartbeats 1000000 in
theorem codecLays_any (v : Value) (b : List UInt8) (n : Nat) (s : ByteArray) (many : Int) (w : World) (hv : SB w w.heap.size v b) (hb : b.length ≤ 1048576) (hn : n < 18446744073709551616) (hs : s.size ≤ 1048576) (h1 : -9223372036854775808 ≤ many) (h2 : many ≤ 9223372036854775807) :
    Calls Try.prog 3 #[v, .int .u64 n, .string s, .int .i64 many] w fun e w' => e = .returned (.bool true) ∧ Below w.heap.size w w' := by
  go_enter Try.func3, Try.ntmps3
  go_wp2_with fail
  refine (shown_any w).mono ?_
  rintro e w1 ⟨rfl, hb1⟩
  have hv1 := hv.on hb1
  go_wp2_with (refine wl_b2s (o := ⟨some 18, _, _, _, _, _⟩) rfl (.tmp 17) rfl v rfl _ _ hv1 ?_)
  refine (cNum_any v b n w1 hv1 (by omega) hn).mono ?_
  rintro e w2 ⟨x, rfl, hx2, hb2⟩
  have hv2 := hv1.on hb2
  have hb2' := bstep hb1 hb2
  go_wp2_with fail
  refine (cStr_any v b s w2 hv2 (by omega)).mono ?_
  rintro e w3 ⟨y, rfl, hy3, hb3⟩
  have hv3 := hv2.on hb3
  have hb3' := bstep hb2' hb3
  go_wp2_with fail
  refine (cFix_any v b n many w3 hv3 (by omega) hn h1 h2).mono ?_
  rintro e w4 ⟨z, rfl, hz4, hb4⟩
  have hb4' := bstep hb3' hb4
  have hx4 := (hx2.sb.on hb3).on hb4
  have hy4 := hy3.sb.on hb4
  have hz4' := hz4.sb
  have hbs := hb4'.size
  have hnl := num_length n
  have hsl := num_length s.size
  have hfl := fix_length (fixN many) n
  have hfn := fixN_le many
  have hss : s.data.toList.length = s.size := by rw [Array.length_toList]; rfl
  have q1 := bytes_add b (num n)
  have q2 := bytes_add b (num s.size ++ s.data.toList)
  have q3 := bytes_add b (fix n (fixN many))
  rw [List.append_assoc] at hy4
  have keepS : ∀ W, Below w4.heap.size w4 W → ((convert 22 9 x).run Try.prog W = .ok (.string ⟨(b ++ num n).toArray⟩) W ∧ (convert 22 9 y).run Try.prog W = .ok (.string ⟨(b ++ (num s.size ++ s.data.toList)).toArray⟩) W ∧ (convert 22 9 z).run Try.prog W = .ok (.string ⟨(b ++ fix n (fixN many)).toArray⟩) W ∧ Below w4.heap.size w4 W) := fun W hW =>
    ⟨run_b2s W x _ _ (hx4.below hW), run_b2s W y _ _ (hy4.below hW), run_b2s W z _ _ (hz4'.below hW), hW⟩
  have KS := Lib.hid keepS
  clear keepS
  have f1 : ¬ 9223372036854775807 < b.length + (num n).length := by omega
  have f2 : ¬ 9223372036854775807 < b.length + ((num s.size).length + s.size) := by omega
  have f3 : ¬ 9223372036854775807 < b.length + (fix n (fixN many)).length := by omega
  have f4 : ¬ 9223372036854775807 < b.length + fixN many := by omega
  go_wp2_with fail
  refine wp_region_noPanic ?_
  refine wp_region_held_drew (S := fun w' => (convert 22 9 x).run Try.prog w' = .ok (.string ⟨(b ++ num n).toArray⟩) w' ∧ (convert 22 9 y).run Try.prog w' = .ok (.string ⟨(b ++ (num s.size ++ s.data.toList)).toArray⟩) w' ∧ (convert 22 9 z).run Try.prog w' = .ok (.string ⟨(b ++ fix n (fixN many)).toArray⟩) w' ∧ Below w4.heap.size w4 w') (by kernel_rfl) (KS.out _ (Below.refl _ _).drew) (fun hHeld => ?_)
  refine reg_take 0 (v := ?_) (by rfl) (by kernel_rfl) (by kernel_rfl) (by kernel_rfl) (fun _ _ _ h => h) (by rfl) ?_ (by assumption) ?_
  rotate_left
  · (intro wq hSq; (try dsimp only at hSq); go_split_ands; go_simp; (try with_reducible rfl))
  try simp only [Act.put, List.setIfInBounds_toArray, List.set_cons_zero, List.set_cons_succ]
  refine reg_take 1 (v := ?_) (by rfl) (by kernel_rfl) (by kernel_rfl) (by kernel_rfl) (fun _ _ _ h => h) (by rfl) ?_ (by assumption) ?_
  rotate_left
  · (intro wq hSq; (try dsimp only at hSq); go_split_ands; go_simp; (try with_reducible rfl))
  try simp only [Act.put, List.setIfInBounds_toArray, List.set_cons_zero, List.set_cons_succ]
  refine reg_take 2 (v := ?_) (by rfl) (by kernel_rfl) (by kernel_rfl) (by kernel_rfl) (fun _ _ _ h => h) (by rfl) ?_ (by assumption) ?_
  rotate_left
  · (intro wq hSq; (try dsimp only at hSq); go_split_ands; go_simp; (try with_reducible rfl))
  try simp only [Act.put, List.setIfInBounds_toArray, List.set_cons_zero, List.set_cons_succ]
  refine reg_take 3 (v := ?_) (by rfl) (by kernel_rfl) (by kernel_rfl) (by kernel_rfl) (fun _ _ _ h => h) (by rfl) ?_ (by assumption) ?_
  rotate_left
  · (intro wq hSq; (try dsimp only at hSq); go_split_ands; go_simp; (try with_reducible rfl))
  try simp only [Act.put, List.setIfInBounds_toArray, List.set_cons_zero, List.set_cons_succ]
  refine reg_one 4 (by rfl) (by kernel_rfl) (by rfl) (fun K hK => ?_)
  (go_simp; go_at_call 13; refine (rNum_any n _ hn).mono ?_; rintro e w5 ⟨r5, rfl, hr5, hb5⟩; go_wp2_with fail)
  refine hK.out _ _ ?_ (fun hHeld => ?_)
  · exact KS.out _ (bstep (bdrew (bself w4)) hb5)
  clear hK K
  try simp only [Act.put, List.setIfInBounds_toArray, List.set_cons_zero, List.set_cons_succ]
  refine reg_add (fun w' => (convert 22 9 r5).run Try.prog w' = .ok (.string ⟨(num n).toArray⟩) w') (by assumption) (run_b2s w5 r5 _ _ hr5.sb) (fun hHeld => ?_)
  refine reg_take 5 (v := ?_) (by rfl) (by kernel_rfl) (by kernel_rfl) (by kernel_rfl) (fun _ _ _ h => h) (by rfl) ?_ (by assumption) ?_
  rotate_left
  · (intro wq hSq; (try dsimp only at hSq); go_split_ands; go_simp; (try with_reducible rfl))
  try simp only [Act.put, List.setIfInBounds_toArray, List.set_cons_zero, List.set_cons_succ]
  refine reg_take 6 (v := ?_) (by rfl) (by kernel_rfl) (by kernel_rfl) (by kernel_rfl) (fun _ _ _ h => h) (by rfl) ?_ (by assumption) ?_
  rotate_left
  · (intro wq hSq; (try dsimp only at hSq); go_split_ands; go_simp; (try with_reducible rfl))
  try simp only [Act.put, List.setIfInBounds_toArray, List.set_cons_zero, List.set_cons_succ]
  refine reg_take 7 (v := ?_) (by rfl) (by kernel_rfl) (by kernel_rfl) (by kernel_rfl) (fun _ _ _ h => h) (by rfl) ?_ (by assumption) ?_
  rotate_left
  · (intro wq hSq; (try dsimp only at hSq); go_split_ands; go_simp; (try with_reducible rfl))
  try simp only [Act.put, List.setIfInBounds_toArray, List.set_cons_zero, List.set_cons_succ]
  refine reg_take 8 (v := ?_) (by rfl) (by kernel_rfl) (by kernel_rfl) (by kernel_rfl) (fun _ _ _ h => h) (by rfl) ?_ (by assumption) ?_
  rotate_left
  · (intro wq hSq; (try dsimp only at hSq); go_split_ands; go_simp; (try with_reducible rfl))
  try simp only [Act.put, List.setIfInBounds_toArray, List.set_cons_zero, List.set_cons_succ]
  refine reg_take 9 (v := ?_) (by rfl) (by kernel_rfl) (by kernel_rfl) (by kernel_rfl) (fun _ _ _ h => h) (by rfl) ?_ (by assumption) ?_
  rotate_left
  · (intro wq hSq; (try dsimp only at hSq); go_split_ands; go_simp; (try with_reducible rfl))
  try simp only [Act.put, List.setIfInBounds_toArray, List.set_cons_zero, List.set_cons_succ]
  refine reg_take 10 (v := ?_) (by rfl) (by kernel_rfl) (by kernel_rfl) (by kernel_rfl) (fun _ _ _ h => h) (by rfl) ?_ (by assumption) ?_
  rotate_left
  · (intro wq hSq; (try dsimp only at hSq); go_split_ands; go_simp; (try with_reducible rfl))
  try simp only [Act.put, List.setIfInBounds_toArray, List.set_cons_zero, List.set_cons_succ]
  refine reg_take 11 (v := ?_) (by rfl) (by kernel_rfl) (by kernel_rfl) (by kernel_rfl) (fun _ _ _ h => h) (by rfl) ?_ (by assumption) ?_
  rotate_left
  · (intro wq hSq; (try dsimp only at hSq); go_split_ands; go_simp; (try with_reducible rfl))
  try simp only [Act.put, List.setIfInBounds_toArray, List.set_cons_zero, List.set_cons_succ]
  refine reg_take 12 (v := ?_) (by rfl) (by kernel_rfl) (by kernel_rfl) (by kernel_rfl) (fun _ _ _ h => h) (by rfl) ?_ (by assumption) ?_
  rotate_left
  · (intro wq hSq; (try dsimp only at hSq); go_split_ands; go_simp; (try with_reducible rfl))
  try simp only [Act.put, List.setIfInBounds_toArray, List.set_cons_zero, List.set_cons_succ]
  refine reg_one 13 (by rfl) (by kernel_rfl) (by rfl) (fun K hK => ?_)
  (go_simp; go_at_call 14; refine (rStr_any s _ (by omega)).mono ?_; rintro e w6 ⟨r6, rfl, hr6, hb6⟩; go_wp2_with fail)
  refine hK.out _ _ ?_ (fun hHeld => ?_)
  · exact ⟨run_b2s w6 r5 _ _ (hr5.sb.below hb6), KS.out _ (bstep (bstep (bdrew (bself w4)) hb5) hb6)⟩
  clear hK K
  try simp only [Act.put, List.setIfInBounds_toArray, List.set_cons_zero, List.set_cons_succ]
  refine reg_add (fun w' => (convert 22 9 r6).run Try.prog w' = .ok (.string ⟨(num s.size ++ s.data.toList).toArray⟩) w') (by assumption) (run_b2s w6 r6 _ _ hr6.sb) (fun hHeld => ?_)
  refine reg_take 14 (v := ?_) (by rfl) (by kernel_rfl) (by kernel_rfl) (by kernel_rfl) (fun _ _ _ h => h) (by rfl) ?_ (by assumption) ?_
  rotate_left
  · (intro wq hSq; (try dsimp only at hSq); go_split_ands; go_simp; (try with_reducible rfl))
  try simp only [Act.put, List.setIfInBounds_toArray, List.set_cons_zero, List.set_cons_succ]
  refine reg_take 15 (v := ?_) (by rfl) (by kernel_rfl) (by kernel_rfl) (by kernel_rfl) (fun _ _ _ h => h) (by rfl) ?_ (by assumption) ?_
  rotate_left
  · (intro wq hSq; (try dsimp only at hSq); go_split_ands; go_simp; (try with_reducible rfl))
  try simp only [Act.put, List.setIfInBounds_toArray, List.set_cons_zero, List.set_cons_succ]
  refine reg_take 16 (v := ?_) (by rfl) (by kernel_rfl) (by kernel_rfl) (by kernel_rfl) (fun _ _ _ h => h) (by rfl) ?_ (by assumption) ?_
  rotate_left
  · (intro wq hSq; (try dsimp only at hSq); go_split_ands; go_simp; (try with_reducible rfl))
  try simp only [Act.put, List.setIfInBounds_toArray, List.set_cons_zero, List.set_cons_succ]
  refine reg_take 17 (v := ?_) (by rfl) (by kernel_rfl) (by kernel_rfl) (by kernel_rfl) (fun _ _ _ h => h) (by rfl) ?_ (by assumption) ?_
  rotate_left
  · (intro wq hSq; (try dsimp only at hSq); go_split_ands; go_simp; (try with_reducible rfl))
  try simp only [Act.put, List.setIfInBounds_toArray, List.set_cons_zero, List.set_cons_succ]
  refine reg_take 18 (v := ?_) (by rfl) (by kernel_rfl) (by kernel_rfl) (by kernel_rfl) (fun _ _ _ h => h) (by rfl) ?_ (by assumption) ?_
  rotate_left
  · (intro wq hSq; (try dsimp only at hSq); go_split_ands; go_simp; (try with_reducible rfl))
  try simp only [Act.put, List.setIfInBounds_toArray, List.set_cons_zero, List.set_cons_succ]
  refine reg_take 19 (v := ?_) (by rfl) (by kernel_rfl) (by kernel_rfl) (by kernel_rfl) (fun _ _ _ h => h) (by rfl) ?_ (by assumption) ?_
  rotate_left
  · (intro wq hSq; (try dsimp only at hSq); go_split_ands; go_simp; (try with_reducible rfl))
  try simp only [Act.put, List.setIfInBounds_toArray, List.set_cons_zero, List.set_cons_succ]
  refine reg_take 20 (v := ?_) (by rfl) (by kernel_rfl) (by kernel_rfl) (by kernel_rfl) (fun _ _ _ h => h) (by rfl) ?_ (by assumption) ?_
  rotate_left
  · (intro wq hSq; (try dsimp only at hSq); go_split_ands; go_simp; (try with_reducible rfl))
  try simp only [Act.put, List.setIfInBounds_toArray, List.set_cons_zero, List.set_cons_succ]
  refine reg_take 21 (v := ?_) (by rfl) (by kernel_rfl) (by kernel_rfl) (by kernel_rfl) (fun _ _ _ h => h) (by rfl) ?_ (by assumption) ?_
  rotate_left
  · (intro wq hSq; (try dsimp only at hSq); go_split_ands; go_simp; (try with_reducible rfl))
  try simp only [Act.put, List.setIfInBounds_toArray, List.set_cons_zero, List.set_cons_succ]
  refine reg_take 22 (v := ?_) (by rfl) (by kernel_rfl) (by kernel_rfl) (by kernel_rfl) (fun _ _ _ h => h) (by rfl) ?_ (by assumption) ?_
  rotate_left
  · (intro wq hSq; (try dsimp only at hSq); go_split_ands; go_simp; (try with_reducible rfl))
  try simp only [Act.put, List.setIfInBounds_toArray, List.set_cons_zero, List.set_cons_succ]
  refine reg_take 23 (v := ?_) (by rfl) (by kernel_rfl) (by kernel_rfl) (by kernel_rfl) (fun _ _ _ h => h) (by rfl) ?_ (by assumption) ?_
  rotate_left
  · (intro wq hSq; (try dsimp only at hSq); go_split_ands; go_simp; (try with_reducible rfl))
  try simp only [Act.put, List.setIfInBounds_toArray, List.set_cons_zero, List.set_cons_succ]
  refine reg_one 24 (by rfl) (by kernel_rfl) (by rfl) (fun K hK => ?_)
  (go_simp; go_at_call 15; refine (rFix_any n many _ hn h1 h2).mono ?_; rintro e w7 ⟨r7, rfl, hr7, hb7⟩; go_wp2_with fail)
  refine hK.out _ _ ?_ (fun hHeld => ?_)
  · exact ⟨run_b2s w7 r6 _ _ (hr6.sb.below hb7), run_b2s w7 r5 _ _ ((hr5.sb.below hb6).below (hb7.mono hb6.size)), KS.out _ (bstep (bstep (bstep (bdrew (bself w4)) hb5) hb6) hb7)⟩
  clear hK K
  try simp only [Act.put, List.setIfInBounds_toArray, List.set_cons_zero, List.set_cons_succ]
  refine reg_add (fun w' => (convert 22 9 r7).run Try.prog w' = .ok (.string ⟨(fix n (fixN many)).toArray⟩) w') (by assumption) (run_b2s w7 r7 _ _ hr7.sb) (fun hHeld => ?_)
  refine reg_take 25 (v := ?_) (by rfl) (by kernel_rfl) (by kernel_rfl) (by kernel_rfl) (fun _ _ _ h => h) (by rfl) ?_ (by assumption) ?_
  rotate_left
  · (intro wq hSq; (try dsimp only at hSq); go_split_ands; go_simp; (try with_reducible rfl))
  try simp only [Act.put, List.setIfInBounds_toArray, List.set_cons_zero, List.set_cons_succ]
  refine reg_take 26 (v := ?_) (by rfl) (by kernel_rfl) (by kernel_rfl) (by kernel_rfl) (fun _ _ _ h => h) (by rfl) ?_ (by assumption) ?_
  rotate_left
  · (intro wq hSq; (try dsimp only at hSq); go_split_ands; go_simp; (try with_reducible rfl))
  try simp only [Act.put, List.setIfInBounds_toArray, List.set_cons_zero, List.set_cons_succ]
  refine reg_take 27 (v := ?_) (by rfl) (by kernel_rfl) (by kernel_rfl) (by kernel_rfl) (fun _ _ _ h => h) (by rfl) ?_ (by assumption) ?_
  rotate_left
  · (intro wq hSq; (try dsimp only at hSq); go_split_ands; go_simp; (try with_reducible rfl))
  try simp only [Act.put, List.setIfInBounds_toArray, List.set_cons_zero, List.set_cons_succ]
  refine reg_take 28 (v := ?_) (by rfl) (by kernel_rfl) (by kernel_rfl) (by kernel_rfl) (fun _ _ _ h => h) (by rfl) ?_ (by assumption) ?_
  rotate_left
  · (intro wq hSq; (try dsimp only at hSq); go_split_ands; go_simp; (try with_reducible rfl))
  try simp only [Act.put, List.setIfInBounds_toArray, List.set_cons_zero, List.set_cons_succ]
  refine reg_take 29 (v := ?_) (by rfl) (by kernel_rfl) (by kernel_rfl) (by kernel_rfl) (fun _ _ _ h => h) (by rfl) ?_ (by assumption) ?_
  rotate_left
  · (intro wq hSq; (try dsimp only at hSq); go_split_ands; go_simp; (try with_reducible rfl))
  try simp only [Act.put, List.setIfInBounds_toArray, List.set_cons_zero, List.set_cons_succ]
  refine wpAnyH_done (by kernel_rfl) (noPanic_mk ?_) _
  have hb47 : Below w4.heap.size w4 w7 := bstep (bstep (bstep (bdrew (bself w4)) hb5) hb6) hb7
  have hlt2 := hx2.lt
  have hlt3 := hy3.lt
  have hx7 : OB w7 w1.heap.size x (b ++ num n) := ((hx2.below hb3 (Nat.le_refl _)).below hb4 (Nat.le_refl _)).below hb47 (Nat.le_refl _)
  have hy7 : OB w7 w2.heap.size y (b ++ (num s.size ++ s.data.toList)) := by
    have := (hy3.below hb4 (Nat.le_refl _)).below hb47 (Nat.le_refl _)
    rw [List.append_assoc] at this
    exact this
  have hb7' : Below w.heap.size w w7 := bstep hb4' hb47
  have hv7 : SB w7 w1.heap.size v b := (((hv1.below hb2).below (hb3.mono hb2.size)).below (hb4.mono (by have := hb2.size; have := hb3.size; omega))).below (hb47.mono (by have := hb2.size; have := hb3.size; have := hb4.size; omega))
  obtain ⟨n1, hn1⟩ : ∃ m, m = (b ++ num n).length := ⟨_, rfl⟩
  obtain ⟨A4, c4, hx4e, _, hcm4, _⟩ := id hx7.sb
  rw [← hn1] at hx4e
  subst hx4e
  have hnb : n1 ≤ 2000000 := by rw [hn1]; simp; omega
  have hownx : w7.ownsRow w1.heap.size 5 1 (.slice A4 n1 c4) n1 (bv (b ++ num n)) := by
    have h := hx7
    unfold OB at h
    rw [← hn1] at h
    exact h
  have HN := Lib.hid hn1
  clear hn1 hx7 hx4 KS
  go_wp2_with fail
  go_loopw [60] (fun i wr => ∃ (k : Nat) (xs : List Value), i = .int .i64 k ∧ k ≤ n1 ∧ wr.ownsRow w1.heap.size 5 1 (.slice A4 n1 c4) n1 xs ∧ w7.grownBy wr (Value.slice A4 n1 c4).ownBlock) (fun i _ => n1 - (intOf i).toNat)
  case atStart => exact ⟨0, _, rfl, Nat.zero_le _, hownx, World.grownBy.refl _ _⟩
  case round =>
    obtain ⟨k, xs, rfl, hk, hown, hgr⟩ := hrel
    by_cases hlt : k < n1
    · obtain ⟨g, cap, hv4, _, _⟩ := hown.form (by omega)
      injection hv4 with e1 _ e3
      subst e1; subst e3
      have hxl : xs.length = n1 * 1 := hown.1
      have d0 := hown.cellAt k (by omega)
      rw [List.getElem?_eq_getElem (by omega)] at d0
      have f0 := hown.frozenAt k
      have hst := hown.stored k (.int .u8 7)
      have HST := Lib.hid hst
      obtain ⟨y0, hy0⟩ : ∃ y, xs[k]'(by omega) = y := ⟨_, rfl⟩
      rw [hy0] at d0
      clear hy0 hst hown hxl
      go_wp2
      go_roundw
      case rel => exact ⟨k + 1, _, by go_num, by omega, HST.out.1, hgr.trans HST.out.2⟩
      case measure => simp [intOf]; omega
    · have hwr := hgr.size
      have hbr : Below w1.heap.size w7 wr := below_grown (Below.refl _ _) hgr (by have := hb47.size; have := hb2.size; have := hb3.size; have := hb4.size; omega) (fun g hg => (hlt2 g hg).1)
      have hbr' : Below w.heap.size w wr := hb7'.trans (hbr.mono hb1.size)
      have hyr : OB wr w2.heap.size y (b ++ (num s.size ++ s.data.toList)) := hy7.grown hgr (by
        rcases hyb : y.ownBlock with _ | gy
        · exact .inl rfl
        · right
          intro e
          have h1 := (hlt3 gy hyb).1
          have h2 := (hlt2 gy e.symm).2
          omega)
      have hvr : SB wr w1.heap.size v b := hv7.below hbr
      have hcv := run_b2s wr v _ _ hvr
      have keepS : ∀ W, Below wr.heap.size wr W → ((convert 22 9 y).run Try.prog W = .ok (.string ⟨(b ++ (num s.size ++ s.data.toList)).toArray⟩) W ∧ (convert 22 9 v).run Try.prog W = .ok (.string ⟨b.toArray⟩) W ∧ Below wr.heap.size wr W) := fun W hW =>
        ⟨run_b2s W y _ _ (hyr.sb.below hW), run_b2s W v _ _ (hvr.below (hW.mono (by have := hbr.size; have := hb47.size; have := hb2.size; have := hb3.size; have := hb4.size; omega))), hW⟩
      have KS := Lib.hid keepS
      clear keepS hcv
      go_wp2
      refine wp_region_noPanic ?_
      refine wp_region_held_drew (S := fun w' => (convert 22 9 y).run Try.prog w' = .ok (.string ⟨(b ++ (num s.size ++ s.data.toList)).toArray⟩) w' ∧ (convert 22 9 v).run Try.prog w' = .ok (.string ⟨b.toArray⟩) w' ∧ Below wr.heap.size wr w') (by kernel_rfl) (KS.out _ (Below.refl _ _).drew) (fun hHeld => ?_)
      refine reg_take 0 (v := ?_) (by rfl) (by kernel_rfl) (by kernel_rfl) (by kernel_rfl) (fun _ _ _ h => h) (by rfl) ?_ (by assumption) ?_
      rotate_left
      · (intro wq hSq; (try dsimp only at hSq); go_split_ands; go_simp; (try with_reducible rfl))
      try simp only [Act.put, List.setIfInBounds_toArray, List.set_cons_zero, List.set_cons_succ]
      refine reg_take 1 (v := ?_) (by rfl) (by kernel_rfl) (by kernel_rfl) (by kernel_rfl) (fun _ _ _ h => h) (by rfl) ?_ (by assumption) ?_
      rotate_left
      · (intro wq hSq; (try dsimp only at hSq); go_split_ands; go_simp; (try with_reducible rfl))
      try simp only [Act.put, List.setIfInBounds_toArray, List.set_cons_zero, List.set_cons_succ]
      refine reg_take 2 (v := ?_) (by rfl) (by kernel_rfl) (by kernel_rfl) (by kernel_rfl) (fun _ _ _ h => h) (by rfl) ?_ (by assumption) ?_
      rotate_left
      · (intro wq hSq; (try dsimp only at hSq); go_split_ands; go_simp; (try with_reducible rfl))
      try simp only [Act.put, List.setIfInBounds_toArray, List.set_cons_zero, List.set_cons_succ]
      refine reg_take 3 (v := ?_) (by rfl) (by kernel_rfl) (by kernel_rfl) (by kernel_rfl) (fun _ _ _ h => h) (by rfl) ?_ (by assumption) ?_
      rotate_left
      · (intro wq hSq; (try dsimp only at hSq); go_split_ands; go_simp; (try with_reducible rfl))
      try simp only [Act.put, List.setIfInBounds_toArray, List.set_cons_zero, List.set_cons_succ]
      refine reg_take 4 (v := ?_) (by rfl) (by kernel_rfl) (by kernel_rfl) (by kernel_rfl) (fun _ _ _ h => h) (by rfl) ?_ (by assumption) ?_
      rotate_left
      · (intro wq hSq; (try dsimp only at hSq); go_split_ands; go_simp; (try with_reducible rfl))
      try simp only [Act.put, List.setIfInBounds_toArray, List.set_cons_zero, List.set_cons_succ]
      refine reg_take 5 (v := ?_) (by rfl) (by kernel_rfl) (by kernel_rfl) (by kernel_rfl) (fun _ _ _ h => h) (by rfl) ?_ (by assumption) ?_
      rotate_left
      · (intro wq hSq; (try dsimp only at hSq); go_split_ands; go_simp; (try with_reducible rfl))
      try simp only [Act.put, List.setIfInBounds_toArray, List.set_cons_zero, List.set_cons_succ]
      refine reg_take 6 (v := ?_) (by rfl) (by kernel_rfl) (by kernel_rfl) (by kernel_rfl) (fun _ _ _ h => h) (by rfl) ?_ (by assumption) ?_
      rotate_left
      · (intro wq hSq; (try dsimp only at hSq); go_split_ands; go_simp; (try with_reducible rfl))
      try simp only [Act.put, List.setIfInBounds_toArray, List.set_cons_zero, List.set_cons_succ]
      refine reg_take 7 (v := ?_) (by rfl) (by kernel_rfl) (by kernel_rfl) (by kernel_rfl) (fun _ _ _ h => h) (by rfl) ?_ (by assumption) ?_
      rotate_left
      · (intro wq hSq; (try dsimp only at hSq); go_split_ands; go_simp; (try with_reducible rfl))
      try simp only [Act.put, List.setIfInBounds_toArray, List.set_cons_zero, List.set_cons_succ]
      refine reg_take 8 (v := ?_) (by rfl) (by kernel_rfl) (by kernel_rfl) (by kernel_rfl) (fun _ _ _ h => h) (by rfl) ?_ (by assumption) ?_
      rotate_left
      · (intro wq hSq; (try dsimp only at hSq); go_split_ands; go_simp; (try with_reducible rfl))
      try simp only [Act.put, List.setIfInBounds_toArray, List.set_cons_zero, List.set_cons_succ]
      refine reg_take 9 (v := ?_) (by rfl) (by kernel_rfl) (by kernel_rfl) (by kernel_rfl) (fun _ _ _ h => h) (by rfl) ?_ (by assumption) ?_
      rotate_left
      · (intro wq hSq; (try dsimp only at hSq); go_split_ands; go_simp; (try with_reducible rfl))
      try simp only [Act.put, List.setIfInBounds_toArray, List.set_cons_zero, List.set_cons_succ]
      refine reg_take 10 (v := ?_) (by rfl) (by kernel_rfl) (by kernel_rfl) (by kernel_rfl) (fun _ _ _ h => h) (by rfl) ?_ (by assumption) ?_
      rotate_left
      · (intro wq hSq; (try dsimp only at hSq); go_split_ands; go_simp; (try with_reducible rfl))
      try simp only [Act.put, List.setIfInBounds_toArray, List.set_cons_zero, List.set_cons_succ]
      refine reg_take 11 (v := ?_) (by rfl) (by kernel_rfl) (by kernel_rfl) (by kernel_rfl) (fun _ _ _ h => h) (by rfl) ?_ (by assumption) ?_
      rotate_left
      · (intro wq hSq; (try dsimp only at hSq); go_split_ands; go_simp; (try with_reducible rfl))
      try simp only [Act.put, List.setIfInBounds_toArray, List.set_cons_zero, List.set_cons_succ]
      refine reg_take 12 (v := ?_) (by rfl) (by kernel_rfl) (by kernel_rfl) (by kernel_rfl) (fun _ _ _ h => h) (by rfl) ?_ (by assumption) ?_
      rotate_left
      · (intro wq hSq; (try dsimp only at hSq); go_split_ands; go_simp; (try with_reducible rfl))
      try simp only [Act.put, List.setIfInBounds_toArray, List.set_cons_zero, List.set_cons_succ]
      refine reg_take 13 (v := ?_) (by rfl) (by kernel_rfl) (by kernel_rfl) (by kernel_rfl) (fun _ _ _ h => h) (by rfl) ?_ (by assumption) ?_
      rotate_left
      · (intro wq hSq; (try dsimp only at hSq); go_split_ands; go_simp; (try with_reducible rfl))
      try simp only [Act.put, List.setIfInBounds_toArray, List.set_cons_zero, List.set_cons_succ]
      refine reg_take 14 (v := ?_) (by rfl) (by kernel_rfl) (by kernel_rfl) (by kernel_rfl) (fun _ _ _ h => h) (by rfl) ?_ (by assumption) ?_
      rotate_left
      · (intro wq hSq; (try dsimp only at hSq); go_split_ands; go_simp; (try with_reducible rfl))
      try simp only [Act.put, List.setIfInBounds_toArray, List.set_cons_zero, List.set_cons_succ]
      refine reg_one 15 (by rfl) (by kernel_rfl) (by rfl) (fun K hK => ?_)
      (go_simp; go_at_call 14; refine (rStr_any s _ (by omega)).mono ?_; rintro e w8 ⟨r8, rfl, hr8, hb8⟩; go_wp2_with fail)
      refine hK.out _ _ ?_ (fun hHeld => ?_)
      · exact KS.out _ (bstep (bdrew (bself wr)) hb8)
      clear hK K
      try simp only [Act.put, List.setIfInBounds_toArray, List.set_cons_zero, List.set_cons_succ]
      refine reg_add (fun w' => (convert 22 9 r8).run Try.prog w' = .ok (.string ⟨(num s.size ++ s.data.toList).toArray⟩) w') (by assumption) (run_b2s w8 r8 _ _ hr8.sb) (fun hHeld => ?_)
      refine reg_take 16 (v := ?_) (by rfl) (by kernel_rfl) (by kernel_rfl) (by kernel_rfl) (fun _ _ _ h => h) (by rfl) ?_ (by assumption) ?_
      rotate_left
      · (intro wq hSq; (try dsimp only at hSq); go_split_ands; go_simp; (try with_reducible rfl))
      try simp only [Act.put, List.setIfInBounds_toArray, List.set_cons_zero, List.set_cons_succ]
      refine reg_take 17 (v := ?_) (by rfl) (by kernel_rfl) (by kernel_rfl) (by kernel_rfl) (fun _ _ _ h => h) (by rfl) ?_ (by assumption) ?_
      rotate_left
      · (intro wq hSq; (try dsimp only at hSq); go_split_ands; go_simp; (try with_reducible rfl))
      try simp only [Act.put, List.setIfInBounds_toArray, List.set_cons_zero, List.set_cons_succ]
      refine reg_take 18 (v := ?_) (by rfl) (by kernel_rfl) (by kernel_rfl) (by kernel_rfl) (fun _ _ _ h => h) (by rfl) ?_ (by assumption) ?_
      rotate_left
      · (intro wq hSq; (try dsimp only at hSq); go_split_ands; go_simp; (try with_reducible rfl))
      try simp only [Act.put, List.setIfInBounds_toArray, List.set_cons_zero, List.set_cons_succ]
      refine reg_take 19 (v := ?_) (by rfl) (by kernel_rfl) (by kernel_rfl) (by kernel_rfl) (fun _ _ _ h => h) (by rfl) ?_ (by assumption) ?_
      rotate_left
      · (intro wq hSq; (try dsimp only at hSq); go_split_ands; go_simp; (try with_reducible rfl))
      try simp only [Act.put, List.setIfInBounds_toArray, List.set_cons_zero, List.set_cons_succ]
      refine reg_take 20 (v := ?_) (by rfl) (by kernel_rfl) (by kernel_rfl) (by kernel_rfl) (fun _ _ _ h => h) (by rfl) ?_ (by assumption) ?_
      rotate_left
      · (intro wq hSq; (try dsimp only at hSq); go_split_ands; go_simp; (try with_reducible rfl))
      try simp only [Act.put, List.setIfInBounds_toArray, List.set_cons_zero, List.set_cons_succ]
      refine wpAnyH_done (by kernel_rfl) (noPanic_mk ?_) _
      have hb18 : Below wr.heap.size wr w8 := bstep (bdrew (bself wr)) hb8
      go_wp2
      go_ret
      exact ⟨rfl, hbr'.trans (hb18.mono hbr'.size)⟩
end Go.Proofs.Ytaefhnmdombadaa
