/-
  What is proved here: what mac.Sum comes to, at this seat's numbers. Conditions: the key's and the bytes' length; the table of constants.
-/
import Derived.Test.YtjkcdnangmjoeaaDoorMacW2
namespace Go.Proofs.YtjkcdnangmjoeaaDoor
open Go.RowKit

theorem flatTwo (a b : List UInt8) : [a, b].flatten = a ++ b := by simp
theorem kPadsC (k : List UInt8) (cx cy : Array Value) (hx : dgA (xorL 54 (padK k)) = cx) (hy : dgA (xorL 92 (padK k)) = cy) (v : Value) (w : World) (hv : SB w w.heap.size v k) (hl : k.length ≤ 1152921504606846000) (hk : KTab w 1) (h1 : 1 < w.heap.size) :
    Calls Tryd.prog 36 #[v] w fun e w' => e = .returned (.tuple #[.agg cx, .agg cy]) ∧ Below w.heap.size w w' := by subst hx; subst hy; exact kPads_any k v w hv hl hk h1
set_option maxRecDepth 100000 in
set_option maxHeartbeats 2000000 in
theorem kMac_any (key : List UInt8) (ls : List (List UInt8)) (v u : Value) (w : World) (hv : SB w w.heap.size v key) (hu : LL w w.heap.size u ls) (hl : key.length ≤ 1152921504606846000) (hl2 : ls.flatten.length ≤ 1152921504606845000) (hk : KTab w 1) (h1 : 1 < w.heap.size) :
    Calls Tryd.prog 31 #[v, u] w fun e w' => e = .returned (digV (macOf key ls.flatten)) ∧ Below w.heap.size w w' := by
  obtain ⟨vs, ⟨A, c, rfl, hlc, hcm, hr⟩, hvl, hvs⟩ := hu
  have hcm2 : c ≤ 9223372036854775807 := by unfold maxLen at hcm; omega
  clear hcm
  have HV := Lib.hid hvs
  obtain ⟨Ak, ck, rfl, _, _, _⟩ := id hv
  clear hvs
  obtain ⟨X, hX⟩ : ∃ X, X = xorL 54 (padK key) := ⟨_, rfl⟩
  obtain ⟨Y, hY⟩ : ∃ Y, Y = xorL 92 (padK key) := ⟨_, rfl⟩
  have lX : X.length = 64 := by rw [hX, xorL_length, padK_length]
  have lY : Y.length = 64 := by rw [hY, xorL_length, padK_length]
  obtain ⟨cx, hcx⟩ : ∃ cx, dgA X = cx := ⟨_, rfl⟩
  obtain ⟨cy, hcy⟩ : ∃ cy, dgA Y = cy := ⟨_, rfl⟩
  have HNX : Hid (cx.size = 64 ∧ ∀ v ∈ cx.toList, v.oneCell' = true) := Lib.hid (by rw [← hcx]; exact ⟨by rw [dgA_size, lX], dgA_one _⟩)
  have HNY : Hid (cy.size = 64 ∧ ∀ v ∈ cy.toList, v.oneCell' = true) := Lib.hid (by rw [← hcy]; exact ⟨by rw [dgA_size, lY], dgA_one _⟩)
  have HPD : Hid (dgA (xorL 54 (padK key)) = cx ∧ dgA (xorL 92 (padK key)) = cy) := Lib.hid ⟨by rw [← hX]; exact hcx, by rw [← hY]; exact hcy⟩
  have HCX := Lib.hid hcx
  have HCY := Lib.hid hcy
  obtain ⟨d1, hd1⟩ : ∃ d1, dgA (shaOf (X ++ ls.flatten)) = d1 := ⟨_, rfl⟩
  obtain ⟨d2, hd2⟩ : ∃ d2, dgA (shaOf (Y ++ shaOf (X ++ ls.flatten))) = d2 := ⟨_, rfl⟩
  have HN1 : Hid (d1.size = 32 ∧ ∀ v ∈ d1.toList, v.oneCell' = true) := Lib.hid (by rw [← hd1]; exact ⟨by rw [dgA_size, shaOf_length], dgA_one _⟩)
  have HN2 : Hid (d2.size = 32 ∧ ∀ v ∈ d2.toList, v.oneCell' = true) := Lib.hid (by rw [← hd2]; exact ⟨by rw [dgA_size, shaOf_length], dgA_one _⟩)
  have HD1 := Lib.hid hd1
  have HD2 := Lib.hid hd2
  have HE : Hid (digV (macOf key ls.flatten) = .agg d2) := Lib.hid (by rw [← hd2, hX, hY]; rfl)
  clear hcx hcy hd1 hd2 hX hY
  rw [HE.out]
  go_enter Tryd.func31, Tryd.ntmps31
  go_upto_region 1 with fail
  generalize hWA : w.alloc _ = wA
  have rR : wA.heap[w.heap.size]? = some (rowO (dgA (List.replicate 32 0))) := by rw [← hWA]; exact (heap_alloc_new w _).trans (by kernel_rfl)
  have bA : Below w.heap.size w wA := by rw [← hWA]; exact balloc (bself w) _
  have zA : w.heap.size < wA.heap.size := by rw [← hWA]; simp
  clear hWA
  have HP := Lib.hid (kPadsC key cx cy HPD.out.1 HPD.out.2 _ wA ((hv.below bA).more (by omega)) hl (hk.on bA h1) (by omega))
  clear hv
  go_wp2_with fail
  refine HP.out.mono ?_
  rintro e w1 ⟨rfl, hb1⟩
  have z1 := hb1.size
  go_upto_region 2 with (first
    | (refine wl_storeT 67 size64 rfl (.tmp 5) (.tmp 14) rfl _ rfl _ cx rfl (heap_alloc2_old w1 _ _) (by kernel_rfl) HNX.out.1 HNX.out.2 ?_)
    | (refine wl_storeT 67 size64 rfl (.tmp 6) (.tmp 15) rfl _ rfl _ cy rfl ((setRow_other _ _ _ _ (by omega)).trans (heap_alloc2_new w1 _ _)) (by kernel_rfl) HNY.out.1 HNY.out.2 ?_))
  generalize hw2 : World.setRow _ _ _ = w2
  have rI : w2.heap[w1.heap.size]? = some (rowT 67 cx) := by rw [← hw2]; exact (setRow_other _ _ _ _ (by omega)).trans (setRow_heap _ _ _ _ _ _ (heap_alloc2_old w1 _ _))
  have rO : w2.heap[w1.heap.size + 1]? = some (rowT 67 cy) := by rw [← hw2]; exact setRow_heap _ _ _ _ _ _ ((setRow_other _ _ _ _ (by omega)).trans (heap_alloc2_new w1 _ _))
  have b12 : Below w1.heap.size w1 w2 := by rw [← hw2]; exact below_setRow (below_setRow (balloc (balloc (bself w1) _) _) (Nat.le_refl _) _) (by omega) _
  have z2 : Hid (w2.heap.size = w1.heap.size + 2) := Lib.hid (by rw [← hw2]; simp)
  clear hw2
  have bA2 : Below wA.heap.size wA w2 := bstep hb1 b12
  go_wp2_with fail
  refine (kNew_any _).mono ?_
  rintro e w3 ⟨P, rfl, hst3, hb3⟩
  have z3 := hb3.size
  have bA3 := bstep bA2 hb3
  have bw3 : Below w.heap.size w w3 := bA.trans (bA3.mono bA.size)
  have hin : SB w3 w2.heap.size (.slice (some ⟨w1.heap.size, 0, none⟩) 64 64) X := SB.ofRow ((hb3.block w1.heap.size (by have := z2.out; omega)).trans rI) HCX.out lX.symm (by have := z2.out; omega) (by rw [lX]; simp [maxLen])
  have hvs3 : VS w3 P (.slice (some ⟨w1.heap.size, 0, none⟩) 64 64) X := VS.old (B := w2.heap.size) hin z3 (by obtain ⟨_, _, _, _, h5⟩ := hst3; exact h5) (fun k hk => (hst3.row k hk).1)
  have HW := Lib.hid (kWrite_any w2.heap.size P [] X _ w3 hst3 hvs3 (by rw [lX]; simp only [List.length_nil]; omega) (hk.on bw3 h1) (by have := z2.out; omega) z3)
  have HO3 : Hid (∀ w', Below w2.heap.size w3 w' → w'.heap[w1.heap.size + 1]? = some (rowT 67 cy) ∧ w'.heap[w.heap.size]? = some (rowO (dgA (List.replicate 32 0))) ∧ Below w.heap.size w w') := Lib.hid (fun w' h => by
    have h2 : Below w2.heap.size w2 w' := hb3.trans h
    have h3 : Below wA.heap.size wA w' := bA2.trans (h2.mono bA2.size)
    exact ⟨(h2.block (w1.heap.size + 1) (by have := z2.out; omega)).trans rO, (h3.block w.heap.size (by omega)).trans rR, bA.trans (h3.mono bA.size)⟩)
  clear hst3 hin hvs3 rI rO b12 bA2 bA3 rR
  go_wp2_with fail
  refine HW.out.mono ?_
  rintro e w4 ⟨rfl, hst4, _, _, hb4⟩
  rw [List.nil_append] at hst4
  have hz4 := hb4.size
  go_wp2_with fail
  go_loopw [22] (fun iv wy => ∃ i : Nat, iv = .int .i64 i ∧ i ≤ ls.length ∧ StAt wy w2.heap.size P (X ++ (ls.take i).flatten) ∧ Below w2.heap.size w3 wy) (fun iv _ => ls.length - (intOf iv).toNat)
  case atStart => exact ⟨0, rfl, Nat.zero_le _, by rw [List.take_zero, List.flatten_nil, List.append_nil]; exact hst4, hb4⟩
  case round =>
    obtain ⟨i, rfl, hi, hst, hb⟩ := hrel
    clear hst4 hb4
    have bw : Below w.heap.size w wr := (HO3.out wr hb).2.2
    have hzw := bw.size
    have hz3 := hb.size
    by_cases hlt : i < ls.length
    · obtain ⟨b, o, rfl, hbl, hc⟩ := hr.at_ (by omega)
      obtain ⟨x, hx⟩ : ∃ x, vs[i]? = some x := ⟨_, List.getElem?_eq_getElem (by omega)⟩
      obtain ⟨l, hL⟩ : ∃ l, ls[i]? = some l := ⟨_, List.getElem?_eq_getElem hlt⟩
      have hsb := HV.out i x l hx hL
      have cU := (bw.cell (p := ⟨b, o + i, none⟩) hbl).trans (hc i x hx)
      have hFT := flat_take ls i l hL
      have hFL := flat_le ls (i + 1)
      rw [hFT, List.length_append] at hFL
      have hP2 : w2.heap.size ≤ P := by obtain ⟨_, _, _, _, h5⟩ := hst; exact h5
      have hvsU : VS wr P x l := VS.old (B := w.heap.size) (hsb.below bw) hzw (by have := z2.out; omega) (fun k hk => by have h2 := (hst.row k hk).1; have := z2.out; omega)
      have HPW := Lib.hid (kWrite_any w2.heap.size P (X ++ (ls.take i).flatten) l x wr hst hvsU (by rw [List.length_append, lX]; omega) (hk.on bw h1) (by have := z2.out; omega) (by omega))
      have HFT : Hid (X ++ (ls.take i).flatten ++ l = X ++ (ls.take (i + 1)).flatten) := Lib.hid (by rw [hFT, List.append_assoc])
      obtain ⟨Au, cu, rfl, _, _, _⟩ := hsb
      clear hst hvsU hFT hFL hc hx hL
      go_wp2_with fail
      refine HPW.out.mono ?_
      rintro e2 w5 ⟨rfl, hst5, _, _, hb5⟩
      rw [HFT.out] at hst5
      have hb6 := hb.trans hb5
      go_wp2_with fail
      go_roundw
      case rel => exact ⟨i + 1, by go_num, by omega, hst5, hb6⟩
      case measure => simp [intOf]; omega
    · have hil : i = ls.length := by omega
      subst hil
      rw [List.take_length] at hst
      have HS := Lib.hid (kStSumC w2.heap.size P (X ++ ls.flatten) d1 HD1.out wr hst (by rw [List.length_append, lX]; omega) (hk.on bw h1) (by omega))
      clear hst
      go_wp2_with fail
      refine HS.out.mono ?_
      rintro e w9 ⟨rfl, hb9⟩
      have hb39 : Below w2.heap.size w3 w9 := hb.trans (hb9.mono (by omega))
      have z9 := hb39.size
      go_upto_region 10 with (refine wl_storeD rfl (.tmp 10) (.tmp 31) rfl _ rfl _ d1 rfl (heap_alloc_new w9 _) (by kernel_rfl) HN1.out.1 HN1.out.2 ?_)
      generalize hw10 : World.setRow _ _ _ = w10
      have rD : w10.heap[w9.heap.size]? = some (rowO d1) := by rw [← hw10]; exact setRow_heap _ _ _ _ _ _ (heap_alloc_new w9 _)
      have b910 : Below w9.heap.size w9 w10 := by rw [← hw10]; exact below_setRow (balloc (bself w9) _) (Nat.le_refl _) _
      have z10 : Hid (w10.heap.size = w9.heap.size + 1) := Lib.hid (by rw [← hw10]; simp)
      clear hw10
      obtain ⟨rY, rR10, bw10⟩ := HO3.out w10 (hb39.trans (b910.mono (by omega)))
      have hl11 : w1.heap.size + 1 < w9.heap.size := by have := z2.out; omega
      have hl12 : w.heap.size < w10.heap.size := by have := z10.out; omega
      have sY : SB w10 w10.heap.size (.slice (some ⟨w1.heap.size + 1, 0, none⟩) 64 64) Y := SB.ofRow rY HCY.out lY.symm (by have := z10.out; omega) (by rw [lY]; simp [maxLen])
      have sD : SB w10 w10.heap.size (.slice (some ⟨w9.heap.size, 0, none⟩) 32 32) (shaOf (X ++ ls.flatten)) := SB.ofRow rD HD1.out (shaOf_length _).symm (by have := z10.out; omega) (by rw [shaOf_length]; simp [maxLen])
      have hL : LL ((w10.alloc (.cells #[.slice (some ⟨w1.heap.size + 1, 0, none⟩) 64 64, .slice (some ⟨w9.heap.size, 0, none⟩) 32 32] 40)).drew) ((w10.alloc (.cells #[.slice (some ⟨w1.heap.size + 1, 0, none⟩) 64 64, .slice (some ⟨w9.heap.size, 0, none⟩) 32 32] 40)).drew).heap.size (.slice (some ⟨w10.heap.size, 0, none⟩) 2 2) [Y, shaOf (X ++ ls.flatten)] := LL.drew (LL.new (w := w10) [.slice (some ⟨w1.heap.size + 1, 0, none⟩) 64 64, .slice (some ⟨w9.heap.size, 0, none⟩) 32 32] [Y, shaOf (X ++ ls.flatten)] 40 rfl rfl rfl (by simp [maxLen]) (fun i u l h1 h2 => by
        rcases i with _ | _ | i
        · simp at h1 h2; subst h1; subst h2; exact sY
        · simp at h1 h2; subst h1; subst h2; exact sD
        · simp at h1))
      have bL : Below w.heap.size w ((w10.alloc (.cells #[.slice (some ⟨w1.heap.size + 1, 0, none⟩) 64 64, .slice (some ⟨w9.heap.size, 0, none⟩) 32 32] 40)).drew) := bdrew (balloc bw10 _)
      have HCALL := Lib.hid (kSumC [Y, shaOf (X ++ ls.flatten)] d2 (by rw [flatTwo]; exact HD2.out) _ _ hL (by rw [flatTwo, List.length_append, lY, shaOf_length]; omega) (hk.on bL h1) (by have := bL.size; omega))
      have HRL : Hid (∀ w', Below ((w10.alloc (.cells #[.slice (some ⟨w1.heap.size + 1, 0, none⟩) 64 64, .slice (some ⟨w9.heap.size, 0, none⟩) 32 32] 40)).drew).heap.size ((w10.alloc (.cells #[.slice (some ⟨w1.heap.size + 1, 0, none⟩) 64 64, .slice (some ⟨w9.heap.size, 0, none⟩) 32 32] 40)).drew) w' → w'.heap[w.heap.size]? = some (rowO (dgA (List.replicate 32 0))) ∧ Below w.heap.size w w') := Lib.hid (fun w' h => ⟨(h.block w.heap.size (by show w.heap.size < (w10.alloc (.cells #[.slice (some ⟨w1.heap.size + 1, 0, none⟩) 64 64, .slice (some ⟨w9.heap.size, 0, none⟩) 32 32] 40)).heap.size; rw [World.size_alloc]; omega)).trans ((Below.heap_alloc w10 _ _ hl12).trans rR10), bstep bL h⟩)
      clear rD rY rR10 sY sD hL bL b910 hb39 hb hb9
      refine wp_region_noPanic ?_
      refine wp_region_held_drew (S := fun _ => True) (by kernel_rfl) trivial (fun hHeld => ?_)
      refine reg_take 0 (v := ?_) (by rfl) (by kernel_rfl) (by kernel_rfl) (by kernel_rfl) (fun _ _ _ h => h) (by rfl) ?_ (by assumption) ?_
      rotate_left
      · (intro wq hSq; (try dsimp only at hSq); go_split_ands; go_simp; (try with_reducible rfl))
      try simp only [Act.put, List.setIfInBounds_toArray, List.set_cons_zero, List.set_cons_succ]
      refine reg_take 1 (v := ?_) (by rfl) (by kernel_rfl) (by kernel_rfl) (by kernel_rfl) (fun _ _ _ h => h) (by rfl) ?_ (by assumption) ?_
      rotate_left
      · (intro wq hSq; (try dsimp only at hSq); go_split_ands; go_simp; (try with_reducible rfl))
      try simp only [Act.put, List.setIfInBounds_toArray, List.set_cons_zero, List.set_cons_succ]
      refine reg_one 2 (by rfl) (by kernel_rfl) (by rfl) (fun K hK => ?_)
      (go_simp)
      refine hK.out _ _ ?_ (fun hHeld => ?_)
      · trivial
      clear hK K
      try simp only [Act.put, List.setIfInBounds_toArray, List.set_cons_zero, List.set_cons_succ]
      refine reg_one 3 (by rfl) (by kernel_rfl) (by rfl) (fun K hK => ?_)
      (go_simp; go_at_call 40; refine HCALL.out.mono ?_; rintro e w11 ⟨rfl, hb11⟩; obtain ⟨r11, b11⟩ := HRL.out w11 hb11; go_wp2_with fail)
      refine hK.out _ _ ?_ (fun hHeld => ?_)
      · trivial
      clear hK K
      try simp only [Act.put, List.setIfInBounds_toArray, List.set_cons_zero, List.set_cons_succ]
      refine reg_one 4 (by rfl) (by kernel_rfl) (by rfl) (fun K hK => ?_)
      (refine wp_storeR 23 (.tmp 4) (.tmp 35) rfl _ rfl _ d2 rfl r11 (by rw [HN2.out.1]; kernel_rfl) (by rw [HN2.out.1, dgA_size]; rfl) (Array.all_eq_true_iff_forall_mem.2 (fun v hv => HN2.out.2 v (by simpa using hv))) ?_)
      refine hK.out _ _ ?_ (fun hHeld => ?_)
      · trivial
      clear hK K
      try simp only [Act.put, List.setIfInBounds_toArray, List.set_cons_zero, List.set_cons_succ]
      refine wpAnyH_done (by kernel_rfl) (noPanic_mk ?_) _
      go_wp2_with fail
      exact bodyPost_ret (v := .agg d2) (res_dig Tryd.results31 _ _ _ d2 rfl (setRow_heap _ _ _ _ _ _ r11) HN2.out.1) rfl ⟨rfl, below_setRow b11 (Nat.le_refl _) _⟩
end Go.Proofs.YtjkcdnangmjoeaaDoor
