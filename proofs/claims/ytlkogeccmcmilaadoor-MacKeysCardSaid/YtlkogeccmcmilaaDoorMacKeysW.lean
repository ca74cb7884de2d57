/-
  What is proved here: what MacKeys of tantaluslaw04 comes to, at this seat's numbers. Conditions: the bytes' lengths; the table of constants.
-/
import Derived.Test.YtlkogeccmcmilaaDoorMacShown
namespace Go.Proofs.YtlkogeccmcmilaaDoor
open Go.RowKit

theorem LL.onn {w w' : World} {v : Value} {ls : List (List UInt8)} (h : LL w w.heap.size v ls) (hb : Below w.heap.size w w') : LL w' w'.heap.size v ls := by
  obtain ⟨vs, h1, h2, h3⟩ := h
  exact ⟨vs, (h1.below hb).more hb.size, h2, fun i u l hu hl => (h3 i u l hu hl).on hb⟩
set_option maxRecDepth 100000 in
set_option maxHeartbeats 2000000 in
theorem macKeys_any (a b : List UInt8) (v u : Value) (W : World) (hv : SB W W.heap.size v a) (hu : SB W W.heap.size u b) (hl : a.length ≤ 140737488351232) (hl2 : b.length ≤ 140737488351232) (hk : KTab W 0) (h1 : 0 < W.heap.size) :
    Calls Tryd.prog 6 #[v, u] W fun e W' => e = .returned (.bool true) ∧ Below W.heap.size W W' := by
  obtain ⟨A, c0, rfl, _, _, _⟩ := id hv
  obtain ⟨A2, c2, rfl, _, _, _⟩ := id hu
  obtain ⟨d, hd⟩ : ∃ d, dgA (macOf a b) = d := ⟨_, rfl⟩
  have hEq : ∀ w', (Op.equalIn 10000 33 (.agg d) (.agg d)).run Tryd.prog w' = .ok true w' := fun w' => run_eqC w' d _ (macOf_length a b) hd
  have HD := Lib.hid hd
  clear hd
  go_enter Tryd.func6, Tryd.ntmps6
  by_cases hlong : 64 < a.length
  · obtain ⟨cc, hcc⟩ : ∃ cc, dgA (shaOf a) = cc := ⟨_, rfl⟩
    have HN : Hid (cc.size = 32 ∧ ∀ v ∈ cc.toList, v.oneCell' = true) := Lib.hid (by rw [← hcc]; exact ⟨by rw [dgA_size, shaOf_length], dgA_one _⟩)
    have HC := Lib.hid hcc
    clear hcc
    have hL : LL (W.alloc (.cells #[.slice A a.length c0] 22)) _ (.slice (some ⟨W.heap.size, 0, none⟩) 1 1) [a] := LL.one 22 rfl hv
    have bB : Below W.heap.size W (W.alloc (.cells #[.slice A a.length c0] 22)) := balloc (bself W) _
    have HS := Lib.hid (kSumC [a] cc (by rw [flat1]; exact HC.out) _ _ hL (by rw [flat1]; omega) (hk.on bB h1) (by have := bB.size; omega))
    have HBB := Lib.hid bB
    clear hL bB
    go_wp2_with fail
    refine HS.out.mono ?_
    rintro e w1 ⟨rfl, hb1⟩
    have b1 := bstep HBB.out hb1
    clear HS HBB hb1
    go_upto_region 3 with (refine wl_storeD rfl (.tmp 5) (.tmp 12) rfl _ rfl _ cc rfl (heap_alloc_new w1 _) (by kernel_rfl) HN.out.1 HN.out.2 ?_)
    generalize hw9 : World.setRow _ _ _ = w9
    have rD : w9.heap[w1.heap.size]? = some (rowO cc) := by rw [← hw9]; exact setRow_heap _ _ _ _ _ _ (heap_alloc_new w1 _)
    have b19 : Below w1.heap.size w1 w9 := by rw [← hw9]; exact below_setRow (balloc (bself w1) _) (Nat.le_refl _) _
    have z9 : w1.heap.size < w9.heap.size := by rw [← hw9]; simp
    clear hw9
    have b9 := bstep b1 b19
    have sD : SB w9 w9.heap.size (.slice (some ⟨w1.heap.size, 0, none⟩) 32 32) (shaOf a) := SB.ofRow rD HC.out (shaOf_length a).symm z9 (by rw [shaOf_length]; simp [maxLen])
    have HSH : Hid (∀ w', Below w9.heap.size w9 w' → Calls Tryd.prog 12 #[] w' fun e w'' => e = .returned (.bool true) ∧ Below w'.heap.size w' w'') := Lib.hid (fun w' h => shown4_any w' (hk.on (bstep b9 h) h1) (by have := (bstep b9 h).size; omega))
    have HM1 : Hid (∀ x g, Below w9.heap.size w9 x → g = x.heap.size → ∀ x', Below (x.alloc (.cells #[.slice A2 b.length c2] 22)).heap.size (x.alloc (.cells #[.slice A2 b.length c2] 22)) x' → Calls Tryd.prog 16 #[.slice A a.length c0, .slice (some ⟨g, 0, none⟩) 1 1] x' fun e w'' => e = .returned (.agg d) ∧ Below x'.heap.size x' w'') := Lib.hid (fun x g hx hg x' hx' => by
      have hX := bstep b9 hx
      have h3 := bstep (balloc hX (.cells #[.slice A2 b.length c2] 22)) hx'
      exact kMacC a [b] d (by rw [flat1]; exact HD.out) _ _ x' (hv.on h3) ((LL.one 22 hg (hu.on hX)).onn hx') (by omega) (by rw [flat1]; omega) (hk.on h3 h1) (by have := h3.size; omega))
    have HM2 : Hid (∀ x g, Below w9.heap.size w9 x → g = x.heap.size → ∀ x', Below (x.alloc (.cells #[.slice A2 b.length c2] 22)).heap.size (x.alloc (.cells #[.slice A2 b.length c2] 22)) x' → Calls Tryd.prog 16 #[.slice (some ⟨w1.heap.size, 0, none⟩) 32 32, .slice (some ⟨g, 0, none⟩) 1 1] x' fun e w'' => e = .returned (.agg d) ∧ Below x'.heap.size x' w'') := Lib.hid (fun x g hx hg x' hx' => by
      have hX := bstep b9 hx
      have h3 := bstep (balloc hX (.cells #[.slice A2 b.length c2] 22)) hx'
      have h9 : Below w9.heap.size w9 x' := bstep (balloc hx (.cells #[.slice A2 b.length c2] 22)) hx'
      exact kMacC (shaOf a) [b] d (by rw [flat1, macOf_long a b hlong]; exact HD.out) _ _ x' (sD.on h9) ((LL.one 22 hg (hu.on hX)).onn hx') (by rw [shaOf_length]; omega) (by rw [flat1]; omega) (hk.on h3 h1) (by have := h3.size; omega))
    clear rD sD b19
    refine wp_region_noPanic ?_
    refine wp_region_held_drew (S := fun _ => True) (by kernel_rfl) trivial (fun hHeld => ?_)
    refine reg_one 0 (by rfl) (by kernel_rfl) (by rfl) (fun K hK => ?_)
    (go_simp; go_at_call 12; refine (HSH.out _ (bdrew (bself w9))).mono ?_; rintro e x1 ⟨rfl, hx1⟩; have B1 := bstep (bdrew (bself w9)) hx1; go_wp2_with fail)
    refine hK.out _ _ ?_ (fun hHeld => ?_)
    · trivial
    clear hK K
    try simp only [Act.put, List.setIfInBounds_toArray, List.set_cons_zero, List.set_cons_succ]
    refine reg_take 1 (v := ?_) (by rfl) (by kernel_rfl) (by kernel_rfl) (by kernel_rfl) (fun _ _ _ h => h) (by rfl) ?_ (by assumption) ?_
    rotate_left
    · (intro wq hSq; (try dsimp only at hSq); go_split_ands; go_simp; (try with_reducible rfl))
    try simp only [Act.put, List.setIfInBounds_toArray, List.set_cons_zero, List.set_cons_succ]
    refine reg_take 2 (v := ?_) (by rfl) (by kernel_rfl) (by kernel_rfl) (by kernel_rfl) (fun _ _ _ h => h) (by rfl) ?_ (by assumption) ?_
    rotate_left
    · (intro wq hSq; (try dsimp only at hSq); go_split_ands; go_simp; (try with_reducible rfl))
    try simp only [Act.put, List.setIfInBounds_toArray, List.set_cons_zero, List.set_cons_succ]
    refine reg_take 3 (v := ?_) (by rfl) (by kernel_rfl) (by kernel_rfl) (by kernel_rfl) (fun _ _ _ h => h) (by rfl) ?_ (by assumption) ?_
    rotate_left
    · (intro wq hSq; (try dsimp only at hSq); go_split_ands; go_simp; (try with_reducible rfl))
    try simp only [Act.put, List.setIfInBounds_toArray, List.set_cons_zero, List.set_cons_succ]
    refine reg_take 6 (v := ?_) (by rfl) (by kernel_rfl) (by kernel_rfl) (by kernel_rfl) (fun _ _ _ h => h) (by rfl) ?_ (by assumption) ?_
    rotate_left
    · (intro wq hSq; (try dsimp only at hSq); go_split_ands; go_simp; (try with_reducible rfl))
    try simp only [Act.put, List.setIfInBounds_toArray, List.set_cons_zero, List.set_cons_succ]
    refine reg_take 7 (v := ?_) (by rfl) (by kernel_rfl) (by kernel_rfl) (by kernel_rfl) (fun _ _ _ h => h) (by rfl) ?_ (by assumption) ?_
    rotate_left
    · (intro wq hSq; (try dsimp only at hSq); go_split_ands; go_simp; (try with_reducible rfl))
    try simp only [Act.put, List.setIfInBounds_toArray, List.set_cons_zero, List.set_cons_succ]
    refine reg_both 4 8 (by rfl) (by rfl) (by kernel_rfl) (by rfl) (by rfl) (fun K hK => ?_) (fun K hK => ?_)
    · (go_simp)
      refine hK.out _ _ ?_ (fun hHeld => ?_)
      · trivial
      clear hK K
      try simp only [Act.put, List.setIfInBounds_toArray, List.set_cons_zero, List.set_cons_succ]
      refine reg_both 5 8 (by rfl) (by rfl) (by kernel_rfl) (by rfl) (by rfl) (fun K hK => ?_) (fun K hK => ?_)
      · (go_simp; go_at_call 16; refine (HM1.out _ _ B1 (by first | rfl | simp) _ (bself _)).mono ?_; rintro e x2 ⟨rfl, hx2⟩; have B2 := bstep (balloc B1 _) hx2; go_wp2_with fail)
        refine hK.out _ _ ?_ (fun hHeld => ?_)
        · trivial
        clear hK K
        try simp only [Act.put, List.setIfInBounds_toArray, List.set_cons_zero, List.set_cons_succ]
        refine reg_one 8 (by rfl) (by kernel_rfl) (by rfl) (fun K hK => ?_)
        (go_simp)
        refine hK.out _ _ ?_ (fun hHeld => ?_)
        · trivial
        clear hK K
        try simp only [Act.put, List.setIfInBounds_toArray, List.set_cons_zero, List.set_cons_succ]
        refine reg_one 9 (by rfl) (by kernel_rfl) (by rfl) (fun K hK => ?_)
        (go_simp; go_at_call 16; refine (HM2.out _ _ B2 (by first | rfl | simp) _ (bself _)).mono ?_; rintro e x3 ⟨rfl, hx3⟩; have B3 := bstep (balloc B2 _) hx3; go_wp2_with fail)
        refine hK.out _ _ ?_ (fun hHeld => ?_)
        · trivial
        clear hK K
        try simp only [Act.put, List.setIfInBounds_toArray, List.set_cons_zero, List.set_cons_succ]
        refine reg_take 10 (v := ?_) (by rfl) (by kernel_rfl) (by kernel_rfl) (by kernel_rfl) (fun _ _ _ h => h) (by rfl) ?_ (by assumption) ?_
        rotate_left
        · (intro wq hSq; (try dsimp only at hSq); go_split_ands; go_simp; (try with_reducible rfl))
        try simp only [Act.put, List.setIfInBounds_toArray, List.set_cons_zero, List.set_cons_succ]
        refine reg_take 11 (v := ?_) (by rfl) (by kernel_rfl) (by kernel_rfl) (by kernel_rfl) (fun _ _ _ h => h) (by rfl) ?_ (by assumption) ?_
        rotate_left
        · (intro wq hSq; (try dsimp only at hSq); go_split_ands; go_simp; (try with_reducible rfl))
        try simp only [Act.put, List.setIfInBounds_toArray, List.set_cons_zero, List.set_cons_succ]
        refine reg_take 12 (v := ?_) (by rfl) (by kernel_rfl) (by kernel_rfl) (by kernel_rfl) (fun _ _ _ h => h) (by rfl) ?_ (by assumption) ?_
        rotate_left
        · (intro wq hSq; (try dsimp only at hSq); go_split_ands; go_simp; (try with_reducible rfl))
        try simp only [Act.put, List.setIfInBounds_toArray, List.set_cons_zero, List.set_cons_succ]
        refine wpAnyH_done (by kernel_rfl) (noPanic_mk ?_) _
        go_wp2_with fail
        go_ret
        exact ⟨rfl, bstep b9 B3⟩
      · (go_simp)
        refine hK.out _ _ ?_ (fun hHeld => ?_)
        · trivial
        clear hK K
        try simp only [Act.put, List.setIfInBounds_toArray, List.set_cons_zero, List.set_cons_succ]
        refine reg_one 5 (by rfl) (by kernel_rfl) (by rfl) (fun K hK => ?_)
        (go_simp; go_at_call 16; refine (HM1.out _ _ B1 (by first | rfl | simp) _ (balloc (bself _) _)).mono ?_; rintro e x2 ⟨rfl, hx2⟩; have B2 := bstep (balloc (balloc B1 _) _) hx2; go_wp2_with fail)
        refine hK.out _ _ ?_ (fun hHeld => ?_)
        · trivial
        clear hK K
        try simp only [Act.put, List.setIfInBounds_toArray, List.set_cons_zero, List.set_cons_succ]
        refine reg_one 9 (by rfl) (by kernel_rfl) (by rfl) (fun K hK => ?_)
        (go_simp; go_at_call 16; refine (HM2.out _ _ (balloc B1 _) (by first | rfl | simp) _ (bstep (bself _) hx2)).mono ?_; rintro e x3 ⟨rfl, hx3⟩; have B3 := bstep B2 hx3; go_wp2_with fail)
        refine hK.out _ _ ?_ (fun hHeld => ?_)
        · trivial
        clear hK K
        try simp only [Act.put, List.setIfInBounds_toArray, List.set_cons_zero, List.set_cons_succ]
        refine reg_take 10 (v := ?_) (by rfl) (by kernel_rfl) (by kernel_rfl) (by kernel_rfl) (fun _ _ _ h => h) (by rfl) ?_ (by assumption) ?_
        rotate_left
        · (intro wq hSq; (try dsimp only at hSq); go_split_ands; go_simp; (try with_reducible rfl))
        try simp only [Act.put, List.setIfInBounds_toArray, List.set_cons_zero, List.set_cons_succ]
        refine reg_take 11 (v := ?_) (by rfl) (by kernel_rfl) (by kernel_rfl) (by kernel_rfl) (fun _ _ _ h => h) (by rfl) ?_ (by assumption) ?_
        rotate_left
        · (intro wq hSq; (try dsimp only at hSq); go_split_ands; go_simp; (try with_reducible rfl))
        try simp only [Act.put, List.setIfInBounds_toArray, List.set_cons_zero, List.set_cons_succ]
        refine reg_take 12 (v := ?_) (by rfl) (by kernel_rfl) (by kernel_rfl) (by kernel_rfl) (fun _ _ _ h => h) (by rfl) ?_ (by assumption) ?_
        rotate_left
        · (intro wq hSq; (try dsimp only at hSq); go_split_ands; go_simp; (try with_reducible rfl))
        try simp only [Act.put, List.setIfInBounds_toArray, List.set_cons_zero, List.set_cons_succ]
        refine wpAnyH_done (by kernel_rfl) (noPanic_mk ?_) _
        go_wp2_with fail
        go_ret
        exact ⟨rfl, bstep b9 B3⟩
    · (go_simp)
      refine hK.out _ _ ?_ (fun hHeld => ?_)
      · trivial
      clear hK K
      try simp only [Act.put, List.setIfInBounds_toArray, List.set_cons_zero, List.set_cons_succ]
      refine reg_one 4 (by rfl) (by kernel_rfl) (by rfl) (fun K hK => ?_)
      (go_simp)
      refine hK.out _ _ ?_ (fun hHeld => ?_)
      · trivial
      clear hK K
      try simp only [Act.put, List.setIfInBounds_toArray, List.set_cons_zero, List.set_cons_succ]
      refine reg_one 5 (by rfl) (by kernel_rfl) (by rfl) (fun K hK => ?_)
      (go_simp; go_at_call 16; refine (HM1.out _ _ (balloc B1 _) (by first | rfl | simp) _ (bself _)).mono ?_; rintro e x2 ⟨rfl, hx2⟩; have B2 := bstep (balloc (balloc B1 _) _) hx2; go_wp2_with fail)
      refine hK.out _ _ ?_ (fun hHeld => ?_)
      · trivial
      clear hK K
      try simp only [Act.put, List.setIfInBounds_toArray, List.set_cons_zero, List.set_cons_succ]
      refine reg_one 9 (by rfl) (by kernel_rfl) (by rfl) (fun K hK => ?_)
      (go_simp; go_at_call 16; refine (HM2.out _ _ B1 (by first | rfl | simp) _ (bstep (balloc (bself _) _) hx2)).mono ?_; rintro e x3 ⟨rfl, hx3⟩; have B3 := bstep B2 hx3; go_wp2_with fail)
      refine hK.out _ _ ?_ (fun hHeld => ?_)
      · trivial
      clear hK K
      try simp only [Act.put, List.setIfInBounds_toArray, List.set_cons_zero, List.set_cons_succ]
      refine reg_take 10 (v := ?_) (by rfl) (by kernel_rfl) (by kernel_rfl) (by kernel_rfl) (fun _ _ _ h => h) (by rfl) ?_ (by assumption) ?_
      rotate_left
      · (intro wq hSq; (try dsimp only at hSq); go_split_ands; go_simp; (try with_reducible rfl))
      try simp only [Act.put, List.setIfInBounds_toArray, List.set_cons_zero, List.set_cons_succ]
      refine reg_take 11 (v := ?_) (by rfl) (by kernel_rfl) (by kernel_rfl) (by kernel_rfl) (fun _ _ _ h => h) (by rfl) ?_ (by assumption) ?_
      rotate_left
      · (intro wq hSq; (try dsimp only at hSq); go_split_ands; go_simp; (try with_reducible rfl))
      try simp only [Act.put, List.setIfInBounds_toArray, List.set_cons_zero, List.set_cons_succ]
      refine reg_take 12 (v := ?_) (by rfl) (by kernel_rfl) (by kernel_rfl) (by kernel_rfl) (fun _ _ _ h => h) (by rfl) ?_ (by assumption) ?_
      rotate_left
      · (intro wq hSq; (try dsimp only at hSq); go_split_ands; go_simp; (try with_reducible rfl))
      try simp only [Act.put, List.setIfInBounds_toArray, List.set_cons_zero, List.set_cons_succ]
      refine wpAnyH_done (by kernel_rfl) (noPanic_mk ?_) _
      go_wp2_with fail
      go_ret
      exact ⟨rfl, bstep b9 B3⟩
  · have own0 : OB (W.alloc (.cells #[] 5)) W.heap.size (.slice (some ⟨W.heap.size, 0, none⟩) 0 0) [] := OB.lit0 W (Nat.le_refl _)
    have hsrc : SB (W.alloc (.cells #[] 5)) W.heap.size (.slice A a.length c0) a := SB.alloc hv (Nat.le_refl _) _
    have hlen : ([] : List UInt8).length + a.length ≤ 140737488355328 := by simp only [List.length_nil]; omega
    have hbz : W.heap.size ≤ (W.alloc (.cells #[] 5)).heap.size := by simp
    have HB : Hid (∀ w3, Below W.heap.size (W.alloc (.cells #[] 5)) w3 → Below W.heap.size W w3) := Lib.hid (fun w3 h => (balloc (bself W) _).trans h)
    go_upto_region 5 with (at_builtin; go_loud (refine wl_appB rfl (.tmp 25) (.tmp 26) rfl W.heap.size _ [] rfl own0 W.heap.size _ a rfl hsrc hlen hbz ?_); intro v3 w3 hown3 hg3 ho3 hb3; rw [List.nil_append] at hown3; have b3 := HB.out w3 hb3)
    have z3 := b3.size
    clear own0 hsrc hlen hbz HB hb3 ho3 hg3
    go_wp2_with fail
    go_loopw [6] (fun ov wr => ∃ (z n : Nat) (A3 : Option Addr) (c3 : Nat), ov = .slice A3 n c3 ∧ n ≤ 64 ∧ Hid (n = a.length + z) ∧ OB wr W.heap.size (.slice A3 n c3) (a ++ List.replicate z 0) ∧ Below W.heap.size W wr) (fun ov _ => 64 - sliceLenS ov)
    case atStart =>
      obtain ⟨A4, c4, e4, _, _, _⟩ := id hown3.sb
      subst e4
      exact ⟨0, _, A4, c4, rfl, by omega, Lib.hid rfl, by rw [List.replicate_zero, List.append_nil]; exact hown3, b3⟩
    case round =>
      obtain ⟨z, n, A3, c3, rfl, hn, HNZ, hown, hbr⟩ := hrel
      clear hown3 b3 z3
      have hzr := hbr.size
      by_cases hlt : n < 64
      · have hL : (a ++ List.replicate z (0 : UInt8)).length + 1 ≤ 140737488355328 := by have := HNZ.out; rw [List.length_append, List.length_replicate]; omega
        have HAPP : Hid (a ++ List.replicate z (0 : UInt8) ++ [0] = a ++ List.replicate (z + 1) 0) := Lib.hid (by rw [List.append_assoc, ← List.replicate_succ'])
        obtain ⟨L, hLL⟩ : ∃ L, L = a ++ List.replicate z (0 : UInt8) := ⟨_, rfl⟩
        have HLN : Hid (L.length = n) := Lib.hid (by rw [hLL, List.length_append, List.length_replicate]; exact HNZ.out.symm)
        rw [← hLL] at hown hL HAPP
        clear hLL
        go_wp2_with (at_builtin; go_loud (refine wl_app1 rfl (.tmp 31) (.tmp 32) rfl W.heap.size _ L rfl hown _ 0 rfl rfl rfl hL hzr ?_); intro v5 w5 hown5 hg5 ho5 hb5; rw [HAPP.out] at hown5; have b5 := hbr.trans hb5)
        obtain ⟨A5, c5, e5, _, _, _⟩ := id hown5.sb
        have e6 : v5 = .slice A5 (n + 1) c5 := by rw [e5]; congr 1; have := HNZ.out; rw [List.length_append, List.length_replicate]; omega
        subst e6
        go_roundw
        case rel => exact ⟨z + 1, _, A5, c5, rfl, by omega, Lib.hid (by have := HNZ.out; omega), hown5, b5⟩
        case measure => simp only [sliceLenS]; omega
      · have hn64 : n = 64 := by omega
        subst hn64
        have hz : z = 64 - a.length := by have := HNZ.out; omega
        have HM := Lib.hid hown.sb
        obtain ⟨Z, hZ⟩ : ∃ Z, Z = a ++ List.replicate z (0 : UInt8) := ⟨_, rfl⟩
        have HZ : Hid (macOf Z b = macOf a b ∧ Z.length = 64) := Lib.hid ⟨by rw [hZ, hz]; exact macOf_zeros a b (by omega), by rw [hZ, List.length_append, List.length_replicate]; exact HNZ.out.symm⟩
        rw [← hZ] at HM
        clear hZ hz hown
        go_wp2_with fail
        refine (shown4_any _ (hk.on hbr h1) (by omega)).mono ?_
        rintro e w4 ⟨rfl, hb4⟩
        have b4 := bstep hbr hb4
        have b5 := balloc b4 (.cells #[.slice A2 b.length c2] 22)
        have HC1 := Lib.hid (kMacC a [b] d (by rw [flat1]; exact HD.out) _ _ _ (hv.on b5) (LL.one (w := w4) 22 rfl (hu.on b4)) (by omega) (by rw [flat1]; omega) (hk.on b5 h1) (by have := b5.size; omega))
        have HB5 := Lib.hid b5
        clear b5
        go_wp2_with fail
        refine HC1.out.mono ?_
        rintro e w6 ⟨rfl, hb6⟩
        have b6 := bstep HB5.out hb6
        have bm6 : Below wr.heap.size wr w6 := bstep (balloc hb4 _) hb6
        have b7 := balloc b6 (.cells #[.slice A2 b.length c2] 22)
        have HC2 := Lib.hid (kMacC Z [b] d (by rw [flat1, HZ.out.1]; exact HD.out) _ _ _ (HM.out.on (balloc bm6 (.cells #[.slice A2 b.length c2] 22))) (LL.one (w := w6) 22 rfl (hu.on b6)) (by rw [HZ.out.2]; omega) (by rw [flat1]; omega) (hk.on b7 h1) (by have := b7.size; omega))
        have HB7 := Lib.hid b7
        clear b7 HC1 HB5 hb6
        go_wp2_with fail
        refine HC2.out.mono ?_
        rintro e w8 ⟨rfl, hb8⟩
        have b8 := bstep HB7.out hb8
        go_wp2_with fail
        go_ret
        exact ⟨rfl, b8⟩
end Go.Proofs.YtlkogeccmcmilaaDoor
