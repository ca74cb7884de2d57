/-
  What is proved here: what MerklePlaces of tantaluslaw11 comes to, at this seat's numbers. Condition: the table of constants.
-/
import Derived.Test.YtjmlohfldkbbaaaDoorMerkApartW
namespace Go.Proofs.YtjmlohfldkbbaaaDoor
open Go.RowKit

section
variable {ops : Array Oper} {rest : List Oper} {o : Oper} {a : Act} {Q : Exit → Act → World → Prop} {w : World}
theorem wl_appD (hgd : Region.wanted o (yielded ops a.tmps) = true) (s x : Operand)
    (ho : o.op = .call { callee := .builtin .append, args := #[s, x], argTypes := #[22, 22] })
    (base : Nat) (v : Value) (l : List Dg) (hs : a.eval s = v) (hown : OD w base v l)
    (B : Nat) (u : Value) (m : List Dg) (hx : a.eval x = u) (hr : SD w B u m) (hlen : (l.length + m.length) * 32 ≤ 140737488355328) (hbase : base ≤ w.heap.size)
    (h : ∀ v' w', OD w' base v' (l ++ m) → w.grownBy w' v.ownBlock → (v'.ownBlock = v.ownBlock ∨ v'.ownBlock = some w.heap.size) → Below base w w' → wpList Tryd.prog ops Q rest (a.put o.dst v') w') : wpList Tryd.prog ops Q (o :: rest) a w :=
  wl_of hgd fun _ hK => wp_appD s x ho base v l hs hown B u m hx hr hlen hbase fun v' w' a b c d => hK _ _ (h v' w' a b c d)
end
theorem OD.lit0 (w : World) {base : Nat} (hb : base ≤ w.heap.size) : OD (w.alloc (.cells #[] 31)) base (.slice (some ⟨w.heap.size, 0, none⟩) 0 0) [] := by
  have := World.ownsRow_lit (base := base) (e := 31) (size := 32) w #[] 0 hb (Nat.zero_le _) (by simp)
  unfold OD
  simpa [dcs] using this
/-- one digest written over -/
theorem OD.put {w : World} {base g n c k : Nat} {l : List Dg} (h : OD w base (.slice (some ⟨g, 0, none⟩) n c) l) (hk : k < l.length) (d : Dg) :
    w.there g (k * 32) (dgA d.1).size ∧ SD (w.setCells g (k * 32) (bv d.1)) (w.setCells g (k * 32) (bv d.1)).heap.size (.slice (some ⟨g, 0, none⟩) n c) (l.set k d) ∧ base ≤ g ∧ Below base w (w.setCells g (k * 32) (bv d.1)) := by
  have hg := h.lt g rfl
  have hs := h.sd
  obtain ⟨A, c', e, h1, h2, hr⟩ := hs
  obtain ⟨hl, hc⟩ := h
  rcases hc with ⟨e2, _⟩ | ⟨g', cap, cur, e1, e2, e3, e4, e5, e6, e7⟩
  · cases e2
  · injection e1 with e11 e12 e13
    injection e11 with e11
    injection e11 with e11
    subst e11
    injection e with f1 f2 f3
    subst f1
    have hth : w.there g (k * 32) 32 := fun j hj => by
      refine ⟨?_, by simp only [World.frozen?, e3]; simp⟩
      rw [cell_of_row _ _ _ _ _ _ e3]
      have hcs : k * 32 + j < cur.size := by rw [e6]; have : (k + 1) * 32 ≤ cap * 32 := Nat.mul_le_mul_right _ (by omega); omega
      rw [Array.getElem?_eq_getElem hcs]
      rfl
    have hb : Below base w (w.setCells g (k * 32) (bv d.1)) := below_setCells e2 (bv d.1) (k * 32) w (Below.refl base w)
    refine ⟨by rw [dgA_n]; exact hth, ?_, e2, hb⟩
    unfold SD
    rw [List.length_set]
    refine ⟨_, _, by rw [f2], by rw [f3]; exact h1, by rw [f3]; exact h2, ?_⟩
    have hel : ∀ j (hj : j < l.length), w.rangeAt g (j * 32) (bv (l[j]'hj).1) := fun j hj i u hu => by
      obtain ⟨b', o', e', _, hcell⟩ := Rd.elem (f := fun x : Dg => bv x.1) hr dbv_len rfl hj
      injection e' with e'
      injection e' with g1 g2
      subst g1; subst g2
      have hi := (List.getElem?_eq_some_iff.1 hu).1
      rw [dbv_len] at hi
      have := hcell i u hi hu
      rw [Nat.zero_add] at this
      exact this
    have hq := Rd.of_elems (fun x : Dg => bv x.1) 32 dbv_len (w := w.setCells g (k * 32) (bv d.1)) (B := (w.setCells g (k * 32) (bv d.1)).heap.size) (a := ⟨g, 0, none⟩) (l := l.set k d) (fun _ => ⟨rfl, Nat.lt_of_lt_of_le hg.2 (below_setCells (Nat.zero_le g) (bv d.1) (k * 32) w (Below.refl 0 w)).size⟩) (fun j hj i u hu => by
      rw [List.length_set] at hj
      rw [Nat.zero_add]
      by_cases hjk : j = k
      · subst hjk
        rw [List.getElem_set_self] at hu
        exact World.rangeAt_setCells_same w g (j * 32) (bv d.1) (by rw [dbv_len]; exact hth) i u hu
      · rw [List.getElem_set_ne (Ne.symm hjk)] at hu
        have h5 := World.rangeAt_setCells_apart (hel j hj) g (k * 32) (bv d.1) (Or.inr (by rw [dbv_len, dbv_len]; omega))
        exact h5 i u hu)
    rw [List.length_set] at hq
    exact hq
set_option maxRecDepth 100000 in
set_option maxHeartbeats 1000000 in
theorem merklePlaces_any (l : List Dg) (pl : UInt64) (other : Dg) (v : Value) (W : World) (hv : SD W W.heap.size v l) (hk : KTab W 1) (h1 : 1 < W.heap.size) :
    Calls Tryd.prog 7 #[v, .int .u64 (pl.toNat : Int), .agg (dgA other.1)] W fun e W' => e = .returned (.bool true) ∧ Below W.heap.size W W' := by
  obtain ⟨A, c0, rfl, hlc, hcm⟩ := hv.form
  have no := dgA_n other
  obtain ⟨n, hn⟩ : ∃ n : Nat, min (l.length : Int) 200 = (n : Int) := ⟨(min (l.length : Int) 200).toNat, by omega⟩
  have hn1 : n ≤ l.length := by omega
  have hn3 : n ≤ 200 := by omega
  have s1 : SD W W.heap.size (.slice A n c0) (l.take n) := hv.take hn1 rfl
  have l1 : (l.take n).length = n := by rw [List.length_take]; omega
  obtain ⟨x, hx⟩ : ∃ x, x = l.take n := ⟨_, rfl⟩
  rw [← hx] at s1 l1
  have z1 : (n : Int) ≤ (c0 : Int) := by omega
  clear hx hv
  go_enter Tryd.func7, Tryd.ntmps7
  go_upto_region 1 with fail
  generalize hw0 : World.alloc _ _ = w0
  have rO : w0.heap[W.heap.size]? = some (rowO (dgA other.1)) := by rw [← hw0]; exact heap_alloc_new W _
  have b0 : Below W.heap.size W w0 := by rw [← hw0]; exact balloc (bself W) _
  have z0 : W.heap.size < w0.heap.size := by rw [← hw0]; simp
  clear hw0
  go_wp2_with fail
  refine (shown11_any _ (hk.on b0 h1) (by omega)).mono ?_
  rintro e w1 ⟨rfl, hb1⟩
  have b1 := bstep b0 hb1
  have zw1 := b1.size
  have hxl := l1
  have HXL := Lib.hid l1
  have own0 : OD (w1.alloc (.cells #[] 31)) w1.heap.size (.slice (some ⟨w1.heap.size, 0, none⟩) 0 0) [] := OD.lit0 w1 (Nat.le_refl _)
  have src0 : SD (w1.alloc (.cells #[] 31)) W.heap.size (.slice A n c0) x := (s1.below b1).alloc (by omega) _
  have len0 : (([] : List Dg).length + x.length) * 32 ≤ 140737488355328 := by rw [l1]; simp only [List.length_nil]; omega
  have hbz0 : w1.heap.size ≤ (w1.alloc (.cells #[] 31)).heap.size := by simp
  have bA1 := balloc (bself w1) (.cells #[] 31)
  clear l1 hxl
  go_upto_region 3 with (at_builtin; go_loud (refine wl_appD rfl (.tmp 16) (.tmp 21) rfl w1.heap.size _ [] rfl own0 W.heap.size _ x rfl src0 len0 hbz0 ?_); intro v2 w2 ho2 hg2 hv2 hb2; rw [List.nil_append] at ho2)
  have b12 : Below w1.heap.size w1 w2 := bA1.trans hb2
  have b2 := bstep b1 b12
  have zw2 := b2.size
  clear own0 src0 len0 hbz0 bA1 hb2 hv2 hg2 s1
  obtain ⟨A2, c2, e2, hlc2, hcm2⟩ := ho2.sd.form
  rw [HXL.out] at e2 hlc2
  subst e2
  by_cases h0 : n = 0
  · have h2 : ((n : Int) == 0) = true := by rw [h0]; rfl
    clear h0
    go_wp2_with fail
    go_ret
    exact ⟨rfl, b2⟩
  · have h2 : ((n : Int) == 0) = false := by rw [beq_eq_false_iff_ne]; omega
    obtain ⟨k, hk0⟩ : ∃ k, k = pl.toNat % n := ⟨_, rfl⟩
    have hkl : k < n := by rw [hk0]; exact Nat.mod_lt _ (by omega)
    have e1 : (pl.toNat : Int) % (n : Int) = (k : Int) := by rw [hk0]; norm_cast
    have hpl := pl.toNat_lt
    clear hk0
    have sx := ho2.sd
    have HSX : Hid (∀ w', Below w2.heap.size w2 w' → SD w' w'.heap.size (.slice A2 n c2) x) := Lib.hid (fun w' h => sx.on h)
    have HKT : Hid (∀ w', Below w2.heap.size w2 w' → KTab w' 1 ∧ 1 < w'.heap.size) := Lib.hid (fun w' h => ⟨hk.on (bstep b2 h) h1, by have := (bstep b2 h).size; omega⟩)
    have zW1 : W.heap.size < w1.heap.size := by have := hb1.size; omega
    have zW2 : W.heap.size < w2.heap.size := by have := b12.size; omega
    have HO : Hid (∀ w', Below w2.heap.size w2 w' → w'.heap[W.heap.size]? = some (rowO (dgA other.1))) := Lib.hid (fun w' h => (h.block _ zW2).trans ((b12.block _ zW1).trans ((hb1.block _ z0).trans rO)))
    obtain ⟨P, hP⟩ : ∃ P, P = proofR jnD zD x k := ⟨_, rfl⟩
    obtain ⟨R, hR⟩ : ∃ R, R = rootR jnD zD x := ⟨_, rfl⟩
    have HPR : Hid (Calls Tryd.prog 9 #[.slice A2 n c2, .int .i64 (k : Int)] w2 fun e w' => ∃ u, e = .returned (.tuple #[u, .int .i64 0]) ∧ SD w' w'.heap.size u P ∧ Below w2.heap.size w2 w') := Lib.hid (by rw [hP]; exact kProof_any x (by have := HXL.out; omega) k (by rw [HXL.out]; exact hkl) _ w2 sx (HKT.out w2 (bself w2)).1 (HKT.out w2 (bself w2)).2)
    obtain ⟨y, hy⟩ : ∃ y, y = x.set k other := ⟨_, rfl⟩
    have hyl : y.length = n := by rw [hy, List.length_set, HXL.out]
    obtain ⟨RY, hRY⟩ : ∃ RY, RY = rootR jnD zD y := ⟨_, rfl⟩
    have HCK : Hid (checkD R (n : Int) (k : Int) other P ↔ RY = R) := Lib.hid (by
      have h := climb_proof jnD zD x k (by rw [HXL.out]; exact hkl) other
      rw [← hy, ← hRY, ← hP, HXL.out] at h
      have hlen : (dirs n k).length = P.length := by rw [hP, proofR_length, HXL.out]
      unfold checkD
      rw [Int.toNat_natCast, Int.toNat_natCast, h]
      exact ⟨fun q => q.2.2.2, fun q => ⟨by omega, by omega, hlen, q⟩⟩)
    have HAP : Hid (RY = R → ¬ x = y → clashR jnD zD x y) := Lib.hid (fun h hne => (root_apart jnD zD x y (by rw [hyl, HXL.out]) (by rw [← hR, ← hRY, h])).resolve_left hne)
    have HYE := Lib.hid hy
    have HRE := Lib.hid (And.intro hR hRY)
    have HYL := Lib.hid hyl
    have nR := dgA_n R
    clear hP hR hy hRY hyl sx rO
    go_wp2_with fail
    refine HPR.out.mono ?_
    rintro e w3 ⟨u3, rfl, hs3, hb3⟩
    have HR1 := Lib.hid (kRoot_any x (by have := HXL.out; omega) (.slice A2 n c2) (dgA R.1) (by rw [HRE.out.1]) w3 (HSX.out w3 hb3) (HKT.out w3 hb3).1 (HKT.out w3 hb3).2)
    clear HPR
    go_wp2_with fail
    refine HR1.out.mono ?_
    rintro e w4 ⟨rfl, hb4⟩
    have b24 := bstep hb3 hb4
    clear HR1
    go_upto_region 10 with (refine wl_storeD rfl (.tmp 12) (.tmp 42) rfl _ rfl _ (dgA R.1) rfl (heap_alloc_new w4 _) (by kernel_rfl) nR (dgA_one _) ?_)
    generalize hw5 : World.setRow _ _ _ = w5
    have rR5 : w5.heap[w4.heap.size]? = some (rowO (dgA R.1)) := by rw [← hw5]; exact setRow_heap _ _ _ _ _ _ (heap_alloc_new w4 _)
    have b45 : Below w4.heap.size w4 w5 := by rw [← hw5]; exact below_setRow (balloc (bself w4) _) (Nat.le_refl _) _
    have z45 : w4.heap.size < w5.heap.size := by rw [← hw5]; simp
    clear hw5
    have b25 := bstep b24 b45
    have s35 : SD w5 w5.heap.size u3 P := hs3.on (hb4.trans (b45.mono hb4.size))
    have rO5 := HO.out w5 b25
    have HCHK := Lib.hid (kCheck_any R other (n : Int) (k : Int) P u3 w5 (by omega) s35 (HKT.out w5 b25).1 (HKT.out w5 b25).2)
    clear hs3 s35
    go_wp2_with (first
      | (refine wl_loadD rfl (.tmp 12) rfl _ rfl (dgA R.1) rR5 nR ?_)
      | (refine wl_loadD rfl (.tmp 5) rfl _ rfl (dgA other.1) rO5 no ?_))
    refine HCHK.out.mono ?_
    rintro e w6 ⟨he, hb6⟩
    obtain ⟨hd, hhd⟩ : ∃ hd, hd = decide (checkD R (n : Int) (k : Int) other P) := ⟨_, rfl⟩
    rw [← hhd] at he
    have HHD : Hid (hd = true ↔ RY = R) := Lib.hid (by rw [hhd, decide_eq_true_iff, HCK.out])
    subst he
    clear hhd HCHK
    have b56 := hb6
    have b26 := bstep b25 hb6
    have zw6 := b26.size
    have own6 : OD (w6.alloc (.cells #[] 31)) w6.heap.size (.slice (some ⟨w6.heap.size, 0, none⟩) 0 0) [] := OD.lit0 w6 (Nat.le_refl _)
    have src6 : SD (w6.alloc (.cells #[] 31)) w6.heap.size (.slice A2 n c2) x := (HSX.out w6 b26).alloc (Nat.le_refl _) _
    have len6 : (([] : List Dg).length + x.length) * 32 ≤ 140737488355328 := by rw [HXL.out]; simp only [List.length_nil]; omega
    have hbz6 : w6.heap.size ≤ (w6.alloc (.cells #[] 31)).heap.size := by simp
    have bA6 := balloc (bself w6) (.cells #[] 31)
    go_upto_region 12 with (at_builtin; go_loud (refine wl_appD rfl (.tmp 50) (.tmp 51) rfl w6.heap.size _ [] rfl own6 w6.heap.size _ x rfl src6 len6 hbz6 ?_); intro v7 w7 ho7 hg7 hv7 hb7; rw [List.nil_append] at ho7)
    have b67 : Below w6.heap.size w6 w7 := bA6.trans hb7
    have b27 := bstep b26 b67
    obtain ⟨g7, c7, e7⟩ := ho7.form0 (by rw [HXL.out]; omega)
    rw [HXL.out] at e7
    subst e7
    obtain ⟨hth7, hsy, hg7l, hbS⟩ := ho7.put (k := k) (by rw [HXL.out]; exact hkl) other
    have rO7 := HO.out w7 b27
    have rR7 : w7.heap[w4.heap.size]? = some (rowO (dgA R.1)) := (b67.block _ (by have := hb6.size; omega)).trans ((hb6.block _ z45).trans rR5)
    rw [← HYE.out] at hsy
    clear own6 src6 len6 hbz6 bA6 hb7 hg7 hv7 ho7 rR5 rO5
    go_upto_region 13 with (first
      | (refine wl_loadD rfl (.tmp 5) rfl _ rfl (dgA other.1) rO7 no ?_)
      | (refine wpList_store_mid rfl 31 (.tmp 56) (.tmp 55) rfl g7 (k * 32) (dgA other.1) rfl rfl hth7 (by rw [no]; kernel_rfl) (Array.all_eq_true_iff_forall_mem.2 (fun v hv => dgA_one other.1 v (by simpa using hv))) ?_))
    generalize hw8 : World.setCells _ _ _ _ = w8
    have hw8' : w7.setCells g7 (k * 32) (bv other.1) = w8 := by rw [← hw8]
    rw [hw8'] at hsy hbS
    clear hw8 hw8' rO7 hth7
    have b68 : Below w6.heap.size w6 w8 := b67.trans hbS
    have b28 := bstep b26 b68
    have z46 : w4.heap.size < w6.heap.size := by have := hb6.size; omega
    have rR8 : w8.heap[w4.heap.size]? = some (rowO (dgA R.1)) := (hbS.block _ z46).trans rR7
    have z68 := b68.size
    have KS : Hid (∀ w', Below w8.heap.size w8 w' → w'.heap[w4.heap.size]? = some (rowO (dgA R.1))) := Lib.hid (fun w' h => (h.block _ (by omega)).trans rR8)
    have HRY : Hid (∀ w', Below w8.heap.size w8 w' → Calls Tryd.prog 16 #[.slice (some ⟨g7, 0, none⟩) n c7] w' fun e w'' => e = .returned (.agg (dgA RY.1)) ∧ Below w'.heap.size w' w'') := Lib.hid (fun w' h => kRoot_any y (by have := HYL.out; omega) _ _ (by rw [HRE.out.2]) w' (hsy.on h) (HKT.out w' (bstep b28 h)).1 (HKT.out w' (bstep b28 h)).2)
    have HSXY : Hid (∀ w', Below w8.heap.size w8 w' → SD w' w'.heap.size (.slice A2 n c2) x ∧ SD w' w'.heap.size (.slice (some ⟨g7, 0, none⟩) n c7) y) := Lib.hid (fun w' h => ⟨HSX.out w' (bstep b28 h), hsy.on h⟩)
    have HCLA : Hid (∀ w', Below w8.heap.size w8 w' → Calls Tryd.prog 17 #[.slice A2 n c2, .slice (some ⟨g7, 0, none⟩) n c7] w' fun e w'' => BoolPost (clashR jnD zD x y) w' w'' e) := Lib.hid (fun w' h => clash_n x.length x y rfl (by rw [HYL.out, HXL.out]) (by have := HXL.out; omega) _ _ w' (HSXY.out w' h).1 (HSXY.out w' h).2 (HKT.out w' (bstep b28 h)).1 (HKT.out w' (bstep b28 h)).2)
    have HB8 := Lib.hid (bstep b2 b28)
    clear hsy hbS rR7 rR8 b67 b27 b68
    by_cases hrr : RY = R
    · have hhd : hd = true := HHD.out.2 hrr
      have hEq : ∀ w', (Op.equalIn 10000 31 (.agg (dgA RY.1)) (.agg (dgA R.1))).run Tryd.prog w' = .ok true w' := fun w' => by rw [show true = decide (RY = R) by simp [hrr], ← dg_eq]; exact run_eqD w' RY.1 R.1 RY.2 R.2
      subst hhd
      by_cases hxy : x = y
      · have HSB : Hid (∀ w', Below w8.heap.size w8 w' → Calls Tryd.prog 13 #[.slice A2 n c2, .slice (some ⟨g7, 0, none⟩) n c7] w' fun e w'' => e = .returned (.bool true) ∧ Below w'.heap.size w' w'') := Lib.hid (fun w' h => same_eq x y hxy _ _ w' _ (HSXY.out w' h).1 (HSXY.out w' h).2 (Nat.le_refl _))
        clear hrr hxy
        go_upto_region 13 with fail
        refine wp_region_noPanic ?_
        refine wp_region_held_drew (S := fun w' => w'.heap[w4.heap.size]? = some (rowO (dgA R.1))) (by kernel_rfl) (KS.out _ (bdrew (bself w8))) (fun hHeld => ?_)
        refine reg_take 0 (v := ?_) (by rfl) (by kernel_rfl) (by kernel_rfl) (by kernel_rfl) (fun _ _ _ h => h) (by rfl) ?_ (by assumption) ?_
        rotate_left
        · (intro wq hSq; (try dsimp only at hSq); go_split_ands; go_simp; (try with_reducible rfl))
        try simp only [Act.put, List.setIfInBounds_toArray, List.set_cons_zero, List.set_cons_succ]
        refine reg_take 1 (v := ?_) (by rfl) (by kernel_rfl) (by kernel_rfl) (by kernel_rfl) (fun _ _ _ h => h) (by rfl) ?_ (by assumption) ?_
        rotate_left
        · (intro wq hSq; (try dsimp only at hSq); go_split_ands; go_simp; (try with_reducible rfl))
        try simp only [Act.put, List.setIfInBounds_toArray, List.set_cons_zero, List.set_cons_succ]
        refine reg_take 2 (v := ?_) (by rfl) (by kernel_rfl) (by kernel_rfl) (by kernel_rfl) (fun _ _ _ h => h) (by rfl) ?_ (by assumption) ?_
        rotate_left
        · (intro wq hSq; (try dsimp only at hSq); go_split_ands; go_simp; (try with_reducible rfl))
        try simp only [Act.put, List.setIfInBounds_toArray, List.set_cons_zero, List.set_cons_succ]
        refine reg_take 3 (v := ?_) (by rfl) (by kernel_rfl) (by kernel_rfl) (by kernel_rfl) (fun _ _ _ h => h) (by rfl) ?_ (by assumption) ?_
        rotate_left
        · (intro wq hSq; (try dsimp only at hSq); go_split_ands; go_simp; (try with_reducible rfl))
        try simp only [Act.put, List.setIfInBounds_toArray, List.set_cons_zero, List.set_cons_succ]
        refine reg_take 5 (v := .agg (dgA R.1)) (by rfl) (by kernel_rfl) (by kernel_rfl) (by kernel_rfl) (fun _ _ _ h => h) (by rfl) ?_ (by assumption) ?_
        · (intro wq hSq; exact exec_loadDr (.tmp 12) rfl _ rfl _ hSq nR)
        try simp only [Act.put, List.setIfInBounds_toArray, List.set_cons_zero, List.set_cons_succ]
        refine reg_one 4 (by rfl) (by kernel_rfl) (by rfl) (fun K hK => ?_)
        (go_simp; go_at_call 16; refine (HRY.out _ (bdrew (bself w8))).mono ?_; rintro e w9 ⟨rfl, hb9⟩; have b9 := bstep (bdrew (bself w8)) hb9; go_wp2_with fail)
        refine hK.out _ _ ?_ (fun hHeld => ?_)
        · exact KS.out _ b9
        clear hK K
        try simp only [Act.put, List.setIfInBounds_toArray, List.set_cons_zero, List.set_cons_succ]
        refine reg_take 6 (v := ?_) (by rfl) (by kernel_rfl) (by kernel_rfl) (by kernel_rfl) (fun _ _ _ h => h) (by rfl) ?_ (by assumption) ?_
        rotate_left
        · (intro wq hSq; (try dsimp only at hSq); go_split_ands; go_simp; (try with_reducible rfl))
        try simp only [Act.put, List.setIfInBounds_toArray, List.set_cons_zero, List.set_cons_succ]
        refine reg_take 7 (v := ?_) (by rfl) (by kernel_rfl) (by kernel_rfl) (by kernel_rfl) (fun _ _ _ h => h) (by rfl) ?_ (by assumption) ?_
        rotate_left
        · (intro wq hSq; (try dsimp only at hSq); go_split_ands; go_simp; (try with_reducible rfl))
        try simp only [Act.put, List.setIfInBounds_toArray, List.set_cons_zero, List.set_cons_succ]
        refine reg_take 8 (v := ?_) (by rfl) (by kernel_rfl) (by kernel_rfl) (by kernel_rfl) (fun _ _ _ h => h) (by rfl) ?_ (by assumption) ?_
        rotate_left
        · (intro wq hSq; (try dsimp only at hSq); go_split_ands; go_simp; (try with_reducible rfl))
        try simp only [Act.put, List.setIfInBounds_toArray, List.set_cons_zero, List.set_cons_succ]
        refine reg_take 9 (v := ?_) (by rfl) (by kernel_rfl) (by kernel_rfl) (by kernel_rfl) (fun _ _ _ h => h) (by rfl) ?_ (by assumption) ?_
        rotate_left
        · (intro wq hSq; (try dsimp only at hSq); go_split_ands; go_simp; (try with_reducible rfl))
        try simp only [Act.put, List.setIfInBounds_toArray, List.set_cons_zero, List.set_cons_succ]
        refine reg_take 10 (v := ?_) (by rfl) (by kernel_rfl) (by kernel_rfl) (by kernel_rfl) (fun _ _ _ h => h) (by rfl) ?_ (by assumption) ?_
        rotate_left
        · (intro wq hSq; (try dsimp only at hSq); go_split_ands; go_simp; (try with_reducible rfl))
        try simp only [Act.put, List.setIfInBounds_toArray, List.set_cons_zero, List.set_cons_succ]
        refine reg_take 11 (v := ?_) (by rfl) (by kernel_rfl) (by kernel_rfl) (by kernel_rfl) (fun _ _ _ h => h) (by rfl) ?_ (by assumption) ?_
        rotate_left
        · (intro wq hSq; (try dsimp only at hSq); go_split_ands; go_simp; (try with_reducible rfl))
        try simp only [Act.put, List.setIfInBounds_toArray, List.set_cons_zero, List.set_cons_succ]
        refine reg_take 12 (v := ?_) (by rfl) (by kernel_rfl) (by kernel_rfl) (by kernel_rfl) (fun _ _ _ h => h) (by rfl) ?_ (by assumption) ?_
        rotate_left
        · (intro wq hSq; (try dsimp only at hSq); go_split_ands; go_simp; (try with_reducible rfl))
        try simp only [Act.put, List.setIfInBounds_toArray, List.set_cons_zero, List.set_cons_succ]
        refine reg_take 13 (v := ?_) (by rfl) (by kernel_rfl) (by kernel_rfl) (by kernel_rfl) (fun _ _ _ h => h) (by rfl) ?_ (by assumption) ?_
        rotate_left
        · (intro wq hSq; (try dsimp only at hSq); go_split_ands; go_simp; (try with_reducible rfl))
        try simp only [Act.put, List.setIfInBounds_toArray, List.set_cons_zero, List.set_cons_succ]
        refine reg_take 14 (v := ?_) (by rfl) (by kernel_rfl) (by kernel_rfl) (by kernel_rfl) (fun _ _ _ h => h) (by rfl) ?_ (by assumption) ?_
        rotate_left
        · (intro wq hSq; (try dsimp only at hSq); go_split_ands; go_simp; (try with_reducible rfl))
        try simp only [Act.put, List.setIfInBounds_toArray, List.set_cons_zero, List.set_cons_succ]
        refine reg_one 15 (by rfl) (by kernel_rfl) (by rfl) (fun K hK => ?_)
        (go_simp; go_at_call 13; refine (HSB.out _ b9).mono ?_; rintro e w10 ⟨rfl, hb10⟩; have b10 := bstep b9 hb10; go_wp2_with fail)
        refine hK.out _ _ ?_ (fun hHeld => ?_)
        · exact KS.out _ b10
        clear hK K
        try simp only [Act.put, List.setIfInBounds_toArray, List.set_cons_zero, List.set_cons_succ]
        refine reg_take 16 (v := ?_) (by rfl) (by kernel_rfl) (by kernel_rfl) (by kernel_rfl) (fun _ _ _ h => h) (by rfl) ?_ (by assumption) ?_
        rotate_left
        · (intro wq hSq; (try dsimp only at hSq); go_split_ands; go_simp; (try with_reducible rfl))
        try simp only [Act.put, List.setIfInBounds_toArray, List.set_cons_zero, List.set_cons_succ]
        refine reg_take 17 (v := ?_) (by rfl) (by kernel_rfl) (by kernel_rfl) (by kernel_rfl) (fun _ _ _ h => h) (by rfl) ?_ (by assumption) ?_
        rotate_left
        · (intro wq hSq; (try dsimp only at hSq); go_split_ands; go_simp; (try with_reducible rfl))
        try simp only [Act.put, List.setIfInBounds_toArray, List.set_cons_zero, List.set_cons_succ]
        refine reg_skip 18 (by rfl) (by kernel_rfl) (by kernel_rfl) (by kernel_rfl) (fun _ _ _ h => h) (by rfl) (by assumption) ?_
        try simp only [Act.put, List.setIfInBounds_toArray, List.set_cons_zero, List.set_cons_succ]
        refine reg_skip 19 (by rfl) (by kernel_rfl) (by kernel_rfl) (by kernel_rfl) (fun _ _ _ h => h) (by rfl) (by assumption) ?_
        try simp only [Act.put, List.setIfInBounds_toArray, List.set_cons_zero, List.set_cons_succ]
        refine reg_skip 20 (by rfl) (by kernel_rfl) (by kernel_rfl) (by kernel_rfl) (fun _ _ _ h => h) (by rfl) (by assumption) ?_
        try simp only [Act.put, List.setIfInBounds_toArray, List.set_cons_zero, List.set_cons_succ]
        refine reg_take 21 (v := ?_) (by rfl) (by kernel_rfl) (by kernel_rfl) (by kernel_rfl) (fun _ _ _ h => h) (by rfl) ?_ (by assumption) ?_
        rotate_left
        · (intro wq hSq; (try dsimp only at hSq); go_split_ands; go_simp; (try with_reducible rfl))
        try simp only [Act.put, List.setIfInBounds_toArray, List.set_cons_zero, List.set_cons_succ]
        refine reg_take 22 (v := ?_) (by rfl) (by kernel_rfl) (by kernel_rfl) (by kernel_rfl) (fun _ _ _ h => h) (by rfl) ?_ (by assumption) ?_
        rotate_left
        · (intro wq hSq; (try dsimp only at hSq); go_split_ands; go_simp; (try with_reducible rfl))
        try simp only [Act.put, List.setIfInBounds_toArray, List.set_cons_zero, List.set_cons_succ]
        refine reg_take 23 (v := ?_) (by rfl) (by kernel_rfl) (by kernel_rfl) (by kernel_rfl) (fun _ _ _ h => h) (by rfl) ?_ (by assumption) ?_
        rotate_left
        · (intro wq hSq; (try dsimp only at hSq); go_split_ands; go_simp; (try with_reducible rfl))
        try simp only [Act.put, List.setIfInBounds_toArray, List.set_cons_zero, List.set_cons_succ]
        refine wpAnyH_done (by kernel_rfl) (noPanic_mk ?_) _
        go_wp2_with fail
        go_ret
        exact ⟨rfl, bstep HB8.out b10⟩
      · have HSB : Hid (∀ w', Below w8.heap.size w8 w' → Calls Tryd.prog 13 #[.slice A2 n c2, .slice (some ⟨g7, 0, none⟩) n c7] w' fun e w'' => e = .returned (.bool false) ∧ Below w'.heap.size w' w'') := Lib.hid (fun w' h => same_ne x y hxy _ _ w' _ (HSXY.out w' h).1 (HSXY.out w' h).2 (Nat.le_refl _))
        have HCT := Lib.hid (HAP.out hrr hxy)
        clear hrr hxy
        go_upto_region 13 with fail
        refine wp_region_noPanic ?_
        refine wp_region_held_drew (S := fun w' => w'.heap[w4.heap.size]? = some (rowO (dgA R.1))) (by kernel_rfl) (KS.out _ (bdrew (bself w8))) (fun hHeld => ?_)
        refine reg_take 0 (v := ?_) (by rfl) (by kernel_rfl) (by kernel_rfl) (by kernel_rfl) (fun _ _ _ h => h) (by rfl) ?_ (by assumption) ?_
        rotate_left
        · (intro wq hSq; (try dsimp only at hSq); go_split_ands; go_simp; (try with_reducible rfl))
        try simp only [Act.put, List.setIfInBounds_toArray, List.set_cons_zero, List.set_cons_succ]
        refine reg_take 1 (v := ?_) (by rfl) (by kernel_rfl) (by kernel_rfl) (by kernel_rfl) (fun _ _ _ h => h) (by rfl) ?_ (by assumption) ?_
        rotate_left
        · (intro wq hSq; (try dsimp only at hSq); go_split_ands; go_simp; (try with_reducible rfl))
        try simp only [Act.put, List.setIfInBounds_toArray, List.set_cons_zero, List.set_cons_succ]
        refine reg_take 2 (v := ?_) (by rfl) (by kernel_rfl) (by kernel_rfl) (by kernel_rfl) (fun _ _ _ h => h) (by rfl) ?_ (by assumption) ?_
        rotate_left
        · (intro wq hSq; (try dsimp only at hSq); go_split_ands; go_simp; (try with_reducible rfl))
        try simp only [Act.put, List.setIfInBounds_toArray, List.set_cons_zero, List.set_cons_succ]
        refine reg_take 3 (v := ?_) (by rfl) (by kernel_rfl) (by kernel_rfl) (by kernel_rfl) (fun _ _ _ h => h) (by rfl) ?_ (by assumption) ?_
        rotate_left
        · (intro wq hSq; (try dsimp only at hSq); go_split_ands; go_simp; (try with_reducible rfl))
        try simp only [Act.put, List.setIfInBounds_toArray, List.set_cons_zero, List.set_cons_succ]
        refine reg_take 5 (v := .agg (dgA R.1)) (by rfl) (by kernel_rfl) (by kernel_rfl) (by kernel_rfl) (fun _ _ _ h => h) (by rfl) ?_ (by assumption) ?_
        · (intro wq hSq; exact exec_loadDr (.tmp 12) rfl _ rfl _ hSq nR)
        try simp only [Act.put, List.setIfInBounds_toArray, List.set_cons_zero, List.set_cons_succ]
        refine reg_one 4 (by rfl) (by kernel_rfl) (by rfl) (fun K hK => ?_)
        (go_simp; go_at_call 16; refine (HRY.out _ (bdrew (bself w8))).mono ?_; rintro e w9 ⟨rfl, hb9⟩; have b9 := bstep (bdrew (bself w8)) hb9; go_wp2_with fail)
        refine hK.out _ _ ?_ (fun hHeld => ?_)
        · exact KS.out _ b9
        clear hK K
        try simp only [Act.put, List.setIfInBounds_toArray, List.set_cons_zero, List.set_cons_succ]
        refine reg_take 6 (v := ?_) (by rfl) (by kernel_rfl) (by kernel_rfl) (by kernel_rfl) (fun _ _ _ h => h) (by rfl) ?_ (by assumption) ?_
        rotate_left
        · (intro wq hSq; (try dsimp only at hSq); go_split_ands; go_simp; (try with_reducible rfl))
        try simp only [Act.put, List.setIfInBounds_toArray, List.set_cons_zero, List.set_cons_succ]
        refine reg_take 7 (v := ?_) (by rfl) (by kernel_rfl) (by kernel_rfl) (by kernel_rfl) (fun _ _ _ h => h) (by rfl) ?_ (by assumption) ?_
        rotate_left
        · (intro wq hSq; (try dsimp only at hSq); go_split_ands; go_simp; (try with_reducible rfl))
        try simp only [Act.put, List.setIfInBounds_toArray, List.set_cons_zero, List.set_cons_succ]
        refine reg_take 8 (v := ?_) (by rfl) (by kernel_rfl) (by kernel_rfl) (by kernel_rfl) (fun _ _ _ h => h) (by rfl) ?_ (by assumption) ?_
        rotate_left
        · (intro wq hSq; (try dsimp only at hSq); go_split_ands; go_simp; (try with_reducible rfl))
        try simp only [Act.put, List.setIfInBounds_toArray, List.set_cons_zero, List.set_cons_succ]
        refine reg_take 9 (v := ?_) (by rfl) (by kernel_rfl) (by kernel_rfl) (by kernel_rfl) (fun _ _ _ h => h) (by rfl) ?_ (by assumption) ?_
        rotate_left
        · (intro wq hSq; (try dsimp only at hSq); go_split_ands; go_simp; (try with_reducible rfl))
        try simp only [Act.put, List.setIfInBounds_toArray, List.set_cons_zero, List.set_cons_succ]
        refine reg_take 10 (v := ?_) (by rfl) (by kernel_rfl) (by kernel_rfl) (by kernel_rfl) (fun _ _ _ h => h) (by rfl) ?_ (by assumption) ?_
        rotate_left
        · (intro wq hSq; (try dsimp only at hSq); go_split_ands; go_simp; (try with_reducible rfl))
        try simp only [Act.put, List.setIfInBounds_toArray, List.set_cons_zero, List.set_cons_succ]
        refine reg_take 11 (v := ?_) (by rfl) (by kernel_rfl) (by kernel_rfl) (by kernel_rfl) (fun _ _ _ h => h) (by rfl) ?_ (by assumption) ?_
        rotate_left
        · (intro wq hSq; (try dsimp only at hSq); go_split_ands; go_simp; (try with_reducible rfl))
        try simp only [Act.put, List.setIfInBounds_toArray, List.set_cons_zero, List.set_cons_succ]
        refine reg_take 12 (v := ?_) (by rfl) (by kernel_rfl) (by kernel_rfl) (by kernel_rfl) (fun _ _ _ h => h) (by rfl) ?_ (by assumption) ?_
        rotate_left
        · (intro wq hSq; (try dsimp only at hSq); go_split_ands; go_simp; (try with_reducible rfl))
        try simp only [Act.put, List.setIfInBounds_toArray, List.set_cons_zero, List.set_cons_succ]
        refine reg_take 13 (v := ?_) (by rfl) (by kernel_rfl) (by kernel_rfl) (by kernel_rfl) (fun _ _ _ h => h) (by rfl) ?_ (by assumption) ?_
        rotate_left
        · (intro wq hSq; (try dsimp only at hSq); go_split_ands; go_simp; (try with_reducible rfl))
        try simp only [Act.put, List.setIfInBounds_toArray, List.set_cons_zero, List.set_cons_succ]
        refine reg_take 14 (v := ?_) (by rfl) (by kernel_rfl) (by kernel_rfl) (by kernel_rfl) (fun _ _ _ h => h) (by rfl) ?_ (by assumption) ?_
        rotate_left
        · (intro wq hSq; (try dsimp only at hSq); go_split_ands; go_simp; (try with_reducible rfl))
        try simp only [Act.put, List.setIfInBounds_toArray, List.set_cons_zero, List.set_cons_succ]
        refine reg_one 15 (by rfl) (by kernel_rfl) (by rfl) (fun K hK => ?_)
        (go_simp; go_at_call 13; refine (HSB.out _ b9).mono ?_; rintro e w10 ⟨rfl, hb10⟩; have b10 := bstep b9 hb10; go_wp2_with fail)
        refine hK.out _ _ ?_ (fun hHeld => ?_)
        · exact KS.out _ b10
        clear hK K
        try simp only [Act.put, List.setIfInBounds_toArray, List.set_cons_zero, List.set_cons_succ]
        refine reg_take 16 (v := ?_) (by rfl) (by kernel_rfl) (by kernel_rfl) (by kernel_rfl) (fun _ _ _ h => h) (by rfl) ?_ (by assumption) ?_
        rotate_left
        · (intro wq hSq; (try dsimp only at hSq); go_split_ands; go_simp; (try with_reducible rfl))
        try simp only [Act.put, List.setIfInBounds_toArray, List.set_cons_zero, List.set_cons_succ]
        refine reg_take 17 (v := ?_) (by rfl) (by kernel_rfl) (by kernel_rfl) (by kernel_rfl) (fun _ _ _ h => h) (by rfl) ?_ (by assumption) ?_
        rotate_left
        · (intro wq hSq; (try dsimp only at hSq); go_split_ands; go_simp; (try with_reducible rfl))
        try simp only [Act.put, List.setIfInBounds_toArray, List.set_cons_zero, List.set_cons_succ]
        refine reg_take 18 (v := ?_) (by rfl) (by kernel_rfl) (by kernel_rfl) (by kernel_rfl) (fun _ _ _ h => h) (by rfl) ?_ (by assumption) ?_
        rotate_left
        · (intro wq hSq; (try dsimp only at hSq); go_split_ands; go_simp; (try with_reducible rfl))
        try simp only [Act.put, List.setIfInBounds_toArray, List.set_cons_zero, List.set_cons_succ]
        refine reg_take 19 (v := ?_) (by rfl) (by kernel_rfl) (by kernel_rfl) (by kernel_rfl) (fun _ _ _ h => h) (by rfl) ?_ (by assumption) ?_
        rotate_left
        · (intro wq hSq; (try dsimp only at hSq); go_split_ands; go_simp; (try with_reducible rfl))
        try simp only [Act.put, List.setIfInBounds_toArray, List.set_cons_zero, List.set_cons_succ]
        refine reg_one 20 (by rfl) (by kernel_rfl) (by rfl) (fun K hK => ?_)
        (go_simp; go_at_call 17; refine (HCLA.out _ b10).mono ?_; rintro e w11 ⟨q, rfl, hq, hb11⟩; have hqt := hq.2 HCT.out; subst hqt; clear hq; have b11 := bstep b10 hb11; go_wp2_with fail)
        refine hK.out _ _ ?_ (fun hHeld => ?_)
        · exact KS.out _ b11
        clear hK K
        try simp only [Act.put, List.setIfInBounds_toArray, List.set_cons_zero, List.set_cons_succ]
        refine reg_take 21 (v := ?_) (by rfl) (by kernel_rfl) (by kernel_rfl) (by kernel_rfl) (fun _ _ _ h => h) (by rfl) ?_ (by assumption) ?_
        rotate_left
        · (intro wq hSq; (try dsimp only at hSq); go_split_ands; go_simp; (try with_reducible rfl))
        try simp only [Act.put, List.setIfInBounds_toArray, List.set_cons_zero, List.set_cons_succ]
        refine reg_take 22 (v := ?_) (by rfl) (by kernel_rfl) (by kernel_rfl) (by kernel_rfl) (fun _ _ _ h => h) (by rfl) ?_ (by assumption) ?_
        rotate_left
        · (intro wq hSq; (try dsimp only at hSq); go_split_ands; go_simp; (try with_reducible rfl))
        try simp only [Act.put, List.setIfInBounds_toArray, List.set_cons_zero, List.set_cons_succ]
        refine reg_take 23 (v := ?_) (by rfl) (by kernel_rfl) (by kernel_rfl) (by kernel_rfl) (fun _ _ _ h => h) (by rfl) ?_ (by assumption) ?_
        rotate_left
        · (intro wq hSq; (try dsimp only at hSq); go_split_ands; go_simp; (try with_reducible rfl))
        try simp only [Act.put, List.setIfInBounds_toArray, List.set_cons_zero, List.set_cons_succ]
        refine wpAnyH_done (by kernel_rfl) (noPanic_mk ?_) _
        go_wp2_with fail
        go_ret
        exact ⟨rfl, bstep HB8.out b11⟩
    · have hhd : hd = false := by
        cases hd with
        | true => exact absurd (HHD.out.1 rfl) hrr
        | false => rfl
      have hEq : ∀ w', (Op.equalIn 10000 31 (.agg (dgA RY.1)) (.agg (dgA R.1))).run Tryd.prog w' = .ok false w' := fun w' => by rw [show false = decide (RY = R) by simp [hrr], ← dg_eq]; exact run_eqD w' RY.1 R.1 RY.2 R.2
      subst hhd
      clear hrr
      go_upto_region 13 with fail
      refine wp_region_noPanic ?_
      refine wp_region_held_drew (S := fun w' => w'.heap[w4.heap.size]? = some (rowO (dgA R.1))) (by kernel_rfl) (KS.out _ (bdrew (bself w8))) (fun hHeld => ?_)
      refine reg_take 0 (v := ?_) (by rfl) (by kernel_rfl) (by kernel_rfl) (by kernel_rfl) (fun _ _ _ h => h) (by rfl) ?_ (by assumption) ?_
      rotate_left
      · (intro wq hSq; (try dsimp only at hSq); go_split_ands; go_simp; (try with_reducible rfl))
      try simp only [Act.put, List.setIfInBounds_toArray, List.set_cons_zero, List.set_cons_succ]
      refine reg_take 1 (v := ?_) (by rfl) (by kernel_rfl) (by kernel_rfl) (by kernel_rfl) (fun _ _ _ h => h) (by rfl) ?_ (by assumption) ?_
      rotate_left
      · (intro wq hSq; (try dsimp only at hSq); go_split_ands; go_simp; (try with_reducible rfl))
      try simp only [Act.put, List.setIfInBounds_toArray, List.set_cons_zero, List.set_cons_succ]
      refine reg_take 2 (v := ?_) (by rfl) (by kernel_rfl) (by kernel_rfl) (by kernel_rfl) (fun _ _ _ h => h) (by rfl) ?_ (by assumption) ?_
      rotate_left
      · (intro wq hSq; (try dsimp only at hSq); go_split_ands; go_simp; (try with_reducible rfl))
      try simp only [Act.put, List.setIfInBounds_toArray, List.set_cons_zero, List.set_cons_succ]
      refine reg_take 3 (v := ?_) (by rfl) (by kernel_rfl) (by kernel_rfl) (by kernel_rfl) (fun _ _ _ h => h) (by rfl) ?_ (by assumption) ?_
      rotate_left
      · (intro wq hSq; (try dsimp only at hSq); go_split_ands; go_simp; (try with_reducible rfl))
      try simp only [Act.put, List.setIfInBounds_toArray, List.set_cons_zero, List.set_cons_succ]
      refine reg_take 5 (v := .agg (dgA R.1)) (by rfl) (by kernel_rfl) (by kernel_rfl) (by kernel_rfl) (fun _ _ _ h => h) (by rfl) ?_ (by assumption) ?_
      · (intro wq hSq; exact exec_loadDr (.tmp 12) rfl _ rfl _ hSq nR)
      try simp only [Act.put, List.setIfInBounds_toArray, List.set_cons_zero, List.set_cons_succ]
      refine reg_one 4 (by rfl) (by kernel_rfl) (by rfl) (fun K hK => ?_)
      (go_simp; go_at_call 16; refine (HRY.out _ (bdrew (bself w8))).mono ?_; rintro e w9 ⟨rfl, hb9⟩; have b9 := bstep (bdrew (bself w8)) hb9; go_wp2_with fail)
      refine hK.out _ _ ?_ (fun hHeld => ?_)
      · exact KS.out _ b9
      clear hK K
      try simp only [Act.put, List.setIfInBounds_toArray, List.set_cons_zero, List.set_cons_succ]
      refine reg_take 6 (v := ?_) (by rfl) (by kernel_rfl) (by kernel_rfl) (by kernel_rfl) (fun _ _ _ h => h) (by rfl) ?_ (by assumption) ?_
      rotate_left
      · (intro wq hSq; (try dsimp only at hSq); go_split_ands; go_simp; (try with_reducible rfl))
      try simp only [Act.put, List.setIfInBounds_toArray, List.set_cons_zero, List.set_cons_succ]
      refine reg_take 7 (v := ?_) (by rfl) (by kernel_rfl) (by kernel_rfl) (by kernel_rfl) (fun _ _ _ h => h) (by rfl) ?_ (by assumption) ?_
      rotate_left
      · (intro wq hSq; (try dsimp only at hSq); go_split_ands; go_simp; (try with_reducible rfl))
      try simp only [Act.put, List.setIfInBounds_toArray, List.set_cons_zero, List.set_cons_succ]
      refine reg_take 8 (v := ?_) (by rfl) (by kernel_rfl) (by kernel_rfl) (by kernel_rfl) (fun _ _ _ h => h) (by rfl) ?_ (by assumption) ?_
      rotate_left
      · (intro wq hSq; (try dsimp only at hSq); go_split_ands; go_simp; (try with_reducible rfl))
      try simp only [Act.put, List.setIfInBounds_toArray, List.set_cons_zero, List.set_cons_succ]
      refine reg_take 9 (v := ?_) (by rfl) (by kernel_rfl) (by kernel_rfl) (by kernel_rfl) (fun _ _ _ h => h) (by rfl) ?_ (by assumption) ?_
      rotate_left
      · (intro wq hSq; (try dsimp only at hSq); go_split_ands; go_simp; (try with_reducible rfl))
      try simp only [Act.put, List.setIfInBounds_toArray, List.set_cons_zero, List.set_cons_succ]
      refine reg_take 10 (v := ?_) (by rfl) (by kernel_rfl) (by kernel_rfl) (by kernel_rfl) (fun _ _ _ h => h) (by rfl) ?_ (by assumption) ?_
      rotate_left
      · (intro wq hSq; (try dsimp only at hSq); go_split_ands; go_simp; (try with_reducible rfl))
      try simp only [Act.put, List.setIfInBounds_toArray, List.set_cons_zero, List.set_cons_succ]
      refine reg_take 11 (v := ?_) (by rfl) (by kernel_rfl) (by kernel_rfl) (by kernel_rfl) (fun _ _ _ h => h) (by rfl) ?_ (by assumption) ?_
      rotate_left
      · (intro wq hSq; (try dsimp only at hSq); go_split_ands; go_simp; (try with_reducible rfl))
      try simp only [Act.put, List.setIfInBounds_toArray, List.set_cons_zero, List.set_cons_succ]
      refine reg_take 12 (v := ?_) (by rfl) (by kernel_rfl) (by kernel_rfl) (by kernel_rfl) (fun _ _ _ h => h) (by rfl) ?_ (by assumption) ?_
      rotate_left
      · (intro wq hSq; (try dsimp only at hSq); go_split_ands; go_simp; (try with_reducible rfl))
      try simp only [Act.put, List.setIfInBounds_toArray, List.set_cons_zero, List.set_cons_succ]
      refine reg_skip 13 (by rfl) (by kernel_rfl) (by kernel_rfl) (by kernel_rfl) (fun _ _ _ h => h) (by rfl) (by assumption) ?_
      try simp only [Act.put, List.setIfInBounds_toArray, List.set_cons_zero, List.set_cons_succ]
      refine reg_skip 14 (by rfl) (by kernel_rfl) (by kernel_rfl) (by kernel_rfl) (fun _ _ _ h => h) (by rfl) (by assumption) ?_
      try simp only [Act.put, List.setIfInBounds_toArray, List.set_cons_zero, List.set_cons_succ]
      refine reg_skip 15 (by rfl) (by kernel_rfl) (by kernel_rfl) (by kernel_rfl) (fun _ _ _ h => h) (by rfl) (by assumption) ?_
      try simp only [Act.put, List.setIfInBounds_toArray, List.set_cons_zero, List.set_cons_succ]
      refine reg_take 16 (v := ?_) (by rfl) (by kernel_rfl) (by kernel_rfl) (by kernel_rfl) (fun _ _ _ h => h) (by rfl) ?_ (by assumption) ?_
      rotate_left
      · (intro wq hSq; (try dsimp only at hSq); go_split_ands; go_simp; (try with_reducible rfl))
      try simp only [Act.put, List.setIfInBounds_toArray, List.set_cons_zero, List.set_cons_succ]
      refine reg_take 17 (v := ?_) (by rfl) (by kernel_rfl) (by kernel_rfl) (by kernel_rfl) (fun _ _ _ h => h) (by rfl) ?_ (by assumption) ?_
      rotate_left
      · (intro wq hSq; (try dsimp only at hSq); go_split_ands; go_simp; (try with_reducible rfl))
      try simp only [Act.put, List.setIfInBounds_toArray, List.set_cons_zero, List.set_cons_succ]
      refine reg_skip 18 (by rfl) (by kernel_rfl) (by kernel_rfl) (by kernel_rfl) (fun _ _ _ h => h) (by rfl) (by assumption) ?_
      try simp only [Act.put, List.setIfInBounds_toArray, List.set_cons_zero, List.set_cons_succ]
      refine reg_skip 19 (by rfl) (by kernel_rfl) (by kernel_rfl) (by kernel_rfl) (fun _ _ _ h => h) (by rfl) (by assumption) ?_
      try simp only [Act.put, List.setIfInBounds_toArray, List.set_cons_zero, List.set_cons_succ]
      refine reg_skip 20 (by rfl) (by kernel_rfl) (by kernel_rfl) (by kernel_rfl) (fun _ _ _ h => h) (by rfl) (by assumption) ?_
      try simp only [Act.put, List.setIfInBounds_toArray, List.set_cons_zero, List.set_cons_succ]
      refine reg_take 21 (v := ?_) (by rfl) (by kernel_rfl) (by kernel_rfl) (by kernel_rfl) (fun _ _ _ h => h) (by rfl) ?_ (by assumption) ?_
      rotate_left
      · (intro wq hSq; (try dsimp only at hSq); go_split_ands; go_simp; (try with_reducible rfl))
      try simp only [Act.put, List.setIfInBounds_toArray, List.set_cons_zero, List.set_cons_succ]
      refine reg_take 22 (v := ?_) (by rfl) (by kernel_rfl) (by kernel_rfl) (by kernel_rfl) (fun _ _ _ h => h) (by rfl) ?_ (by assumption) ?_
      rotate_left
      · (intro wq hSq; (try dsimp only at hSq); go_split_ands; go_simp; (try with_reducible rfl))
      try simp only [Act.put, List.setIfInBounds_toArray, List.set_cons_zero, List.set_cons_succ]
      refine reg_take 23 (v := ?_) (by rfl) (by kernel_rfl) (by kernel_rfl) (by kernel_rfl) (fun _ _ _ h => h) (by rfl) ?_ (by assumption) ?_
      rotate_left
      · (intro wq hSq; (try dsimp only at hSq); go_split_ands; go_simp; (try with_reducible rfl))
      try simp only [Act.put, List.setIfInBounds_toArray, List.set_cons_zero, List.set_cons_succ]
      refine wpAnyH_done (by kernel_rfl) (noPanic_mk ?_) _
      go_wp2_with fail
      go_ret
      exact ⟨rfl, bstep HB8.out b9⟩
end Go.Proofs.YtjmlohfldkbbaaaDoor
