/-
  What is proved here: what MerkleHeld of tantaluslaw11 comes to, at this seat's numbers. Condition: the table of constants.
-/
import Derived.Test.YtjmlohfldkbbaaaDoorMerkShown
namespace Go.Proofs.YtjmlohfldkbbaaaDoor
open Go.RowKit

theorem held_true (l : List Dg) (k : Nat) (hk : k < l.length) : decide (checkD (rootR jnD zD l) (l.length : Int) (k : Int) (l[k]'hk) (proofR jnD zD l k)) = true := by
  rw [decide_eq_true_iff]
  unfold checkD
  rw [Int.toNat_natCast, Int.toNat_natCast]
  exact ⟨by omega, by omega, (proofR_length jnD zD l k).symm, climb_held jnD zD l k hk⟩
set_option maxRecDepth 100000 in
set_option maxHeartbeats 1000000 in
theorem merkleHeld_any (l : List Dg) (pl : UInt64) (v : Value) (W : World) (hv : SD W W.heap.size v l) (hk : KTab W 1) (h1 : 1 < W.heap.size) :
    Calls Tryd.prog 5 #[v, .int .u64 (pl.toNat : Int)] W fun e W' => e = .returned (.bool true) ∧ Below W.heap.size W W' := by
  have hm : (l.take 2000).length ≤ 2000 := by rw [List.length_take]; omega
  go_enter Tryd.func5, Tryd.ntmps5
  go_wp2_with fail
  refine (shown11_any _ hk h1).mono ?_
  rintro e w1 ⟨rfl, hb1⟩
  have z1 := hb1.size
  go_wp2_with fail
  refine (few_any l v w1 _ (hv.on hb1)).mono ?_
  rintro e w2 ⟨rfl, u2, rfl, hs2⟩
  obtain ⟨x, hx⟩ : ∃ x, x = l.take 2000 := ⟨_, rfl⟩
  rw [← hx] at hs2 hm
  clear hx hv
  obtain ⟨A, c0, rfl, hlc, hcm⟩ := hs2.form
  by_cases h0 : x.length = 0
  · have h2 : ((x.length : Int) == 0) = true := by rw [h0]; rfl
    clear h0
    go_wp2_with fail
    go_ret
    exact ⟨rfl, hb1⟩
  · have h2 : ((x.length : Int) == 0) = false := by rw [beq_eq_false_iff_ne]; omega
    obtain ⟨b, o, c9, e9, hbl, hel⟩ := hs2.at_ (by omega)
    injection e9 with e91 e92 e93
    subst e91; subst e93
    clear e92
    obtain ⟨k, hk0⟩ : ∃ k, k = pl.toNat % x.length := ⟨_, rfl⟩
    have hkl : k < x.length := by rw [hk0]; exact Nat.mod_lt _ (by omega)
    have e1 : (pl.toNat : Int) % (x.length : Int) = (k : Int) := by rw [hk0]; norm_cast
    have hpl := pl.toNat_lt
    clear hk0
    have HP := Lib.hid (kProof_any x hm k hkl _ w2 hs2 (hk.on hb1 h1) (by omega))
    have HCK := Lib.hid (held_true x k hkl)
    have HPL : Hid ((proofR jnD zD x k).length ≤ halves (x.length - 1)) := Lib.hid (by rw [proofR_length]; exact dirs_halves x.length k hkl)
    obtain ⟨P, hP⟩ : ∃ P, P = proofR jnD zD x k := ⟨_, rfl⟩
    rw [← hP] at HP HCK HPL
    obtain ⟨R, hR⟩ : ∃ R, R = rootR jnD zD x := ⟨_, rfl⟩
    rw [← hR] at HCK
    have HRX := Lib.hid hR
    clear hP hR
    go_wp2_with fail
    refine HP.out.mono ?_
    rintro e w3 ⟨u3, rfl, hs3, hb3⟩
    have b3 := bstep hb1 hb3
    have z3 := b3.size
    obtain ⟨AP, cP, rfl, hlP, hcP⟩ := hs3.form
    obtain ⟨m, hm9⟩ : ∃ m, m = x.length - 1 := ⟨_, rfl⟩
    have em : (x.length : Int) - 1 = (m : Int) := by omega
    have HHM : Hid (P.length ≤ halves m) := Lib.hid (by rw [hm9]; exact HPL.out)
    have hm2 : m ≤ 2000 := by omega
    have hh2 : halves m ≤ 64 := halves_le 64 m (by omega)
    have y0 : IntKind.i64.wrap (m : Int) = (m : Int) := IntWalk.i64_in _ (by omega)
    clear hm9 HPL
    go_wp2_with fail
    go_loopw [10, 11] (fun bvv nv wy => ∃ (q n : Nat), bvv = .int .i64 (q : Int) ∧ nv = .int .i64 (n : Int) ∧ Hid (q + halves n = halves m) ∧ q ≤ 64 ∧ n ≤ 2000 ∧ wy = w3) (fun _ nv _ => (intOf nv).toNat)
    case atStart => exact ⟨0, m, rfl, rfl, Lib.hid (by omega), by omega, hm2, rfl⟩
    case round =>
      obtain ⟨q, n, rfl, rfl, HQ, hq, hn, rfl⟩ := hrel
      by_cases hgt : 0 < n
      · have HQ2 : Hid (q + 1 + halves (n / 2) = halves m) := Lib.hid (by have h := HQ.out; rw [halves_pos (by omega)] at h; omega)
        have hq2 : q + 1 ≤ 64 := by have := HQ2.out; omega
        go_wp2_with fail
        go_roundw
        case rel => exact ⟨q + 1, n / 2, by go_num, by first | rfl | go_num | (congr 1; omega), HQ2, hq2, by omega, by first | rfl | trivial⟩
        case measure => simp only [intOf]; omega
      · have hn0 : n = 0 := by omega
        subst hn0
        have HQE : Hid (q = halves m) := Lib.hid (by have h := HQ.out; rw [show halves 0 = 0 by rw [halves]; simp] at h; omega)
        have hPq : (P.length : Int) ≤ (q : Int) := by have := HHM.out; have := HQE.out; omega
        obtain ⟨d, hd⟩ : ∃ d, d = x[k] := ⟨_, rfl⟩
        have KS : Hid (∀ w', Below wr.heap.size wr w' → w'.rangeAt b (o + k * 32) (bv d.1)) := Lib.hid (fun w' h => by rw [hd]; exact range_below (hel k hkl) (hb3.trans (h.mono hb3.size)) (by omega))
        have HRT : Hid (∀ w', Below wr.heap.size wr w' → Calls Tryd.prog 16 #[.slice (some ⟨b, o, none⟩) x.length c0] w' fun e w'' => e = .returned (.agg (dgA R.1)) ∧ Below wr.heap.size wr w'') := Lib.hid (fun w' h => (kRoot_any x hm _ (dgA R.1) (by rw [HRX.out]) w' (hs2.on (hb3.trans (h.mono hb3.size))) (hk.on (bstep b3 h) h1) (by have := (bstep b3 h).size; omega)).mono fun e w'' ⟨he, hb⟩ => ⟨he, bstep h hb⟩)
        have HCH : Hid (∀ w', Below wr.heap.size wr w' → Calls Tryd.prog 14 #[.agg (dgA R.1), .int .i64 (x.length : Int), .int .i64 (k : Int), .agg (dgA d.1), .slice AP P.length cP] w' fun e w'' => e = .returned (.bool true) ∧ Below wr.heap.size wr w'') := Lib.hid (fun w' h => by
          have h5 := kCheck_any R d (x.length : Int) (k : Int) P _ w' (by omega) (hs3.on h) (hk.on (bstep b3 h) h1) (by have := (bstep b3 h).size; omega)
          rw [hd, HCK.out] at h5
          rw [hd]
          exact h5.mono fun e w'' ⟨he, hb⟩ => ⟨he, bstep h hb⟩)
        have ykx : (k : Int) < (x.length : Int) := by omega
        clear hd hel hs2 hs3 HP
        go_upto_region 12 with fail
        refine wp_region_noPanic ?_
        refine wp_region_held_drew (S := fun w' => w'.rangeAt b (o + k * 32) (bv d.1)) (by kernel_rfl) (KS.out _ (bdrew (bself wr))) (fun hHeld => ?_)
        refine reg_take 0 (v := ?_) (by rfl) (by kernel_rfl) (by kernel_rfl) (by kernel_rfl) (fun _ _ _ h => h) (by rfl) ?_ (by assumption) ?_
        rotate_left
        · (intro wq hSq; (try dsimp only at hSq); go_split_ands; go_simp; (try with_reducible rfl))
        try simp only [Act.put, List.setIfInBounds_toArray, List.set_cons_zero, List.set_cons_succ]
        refine reg_take 1 (v := ?_) (by rfl) (by kernel_rfl) (by kernel_rfl) (by kernel_rfl) (fun _ _ _ h => h) (by rfl) ?_ (by assumption) ?_
        rotate_left
        · (intro wq hSq; (try dsimp only at hSq); go_split_ands; go_simp; (try with_reducible rfl))
        try simp only [Act.put, List.setIfInBounds_toArray, List.set_cons_zero, List.set_cons_succ]
        refine reg_take 2 (v := ?_) (by rfl) (by kernel_rfl) (by kernel_rfl) (by kernel_rfl) (fun _ _ _ h => h) (by rfl) ?_ (by assumption) ?_
        rotate_left
        · (intro wq hSq; (try dsimp only at hSq); go_split_ands; go_simp; (try with_reducible rfl))
        try simp only [Act.put, List.setIfInBounds_toArray, List.set_cons_zero, List.set_cons_succ]
        refine reg_take 3 (v := ?_) (by rfl) (by kernel_rfl) (by kernel_rfl) (by kernel_rfl) (fun _ _ _ h => h) (by rfl) ?_ (by assumption) ?_
        rotate_left
        · (intro wq hSq; (try dsimp only at hSq); go_split_ands; go_simp; (try with_reducible rfl))
        try simp only [Act.put, List.setIfInBounds_toArray, List.set_cons_zero, List.set_cons_succ]
        refine reg_take 4 (v := ?_) (by rfl) (by kernel_rfl) (by kernel_rfl) (by kernel_rfl) (fun _ _ _ h => h) (by rfl) ?_ (by assumption) ?_
        rotate_left
        · (intro wq hSq; (try dsimp only at hSq); go_split_ands; go_simp; (try with_reducible rfl))
        try simp only [Act.put, List.setIfInBounds_toArray, List.set_cons_zero, List.set_cons_succ]
        refine reg_take 5 (v := ?_) (by rfl) (by kernel_rfl) (by kernel_rfl) (by kernel_rfl) (fun _ _ _ h => h) (by rfl) ?_ (by assumption) ?_
        rotate_left
        · (intro wq hSq; (try dsimp only at hSq); go_split_ands; go_simp; (try with_reducible rfl))
        try simp only [Act.put, List.setIfInBounds_toArray, List.set_cons_zero, List.set_cons_succ]
        refine reg_take 6 (v := ?_) (by rfl) (by kernel_rfl) (by kernel_rfl) (by kernel_rfl) (fun _ _ _ h => h) (by rfl) ?_ (by assumption) ?_
        rotate_left
        · (intro wq hSq; (try dsimp only at hSq); go_split_ands; go_simp; (try with_reducible rfl))
        try simp only [Act.put, List.setIfInBounds_toArray, List.set_cons_zero, List.set_cons_succ]
        refine reg_take 7 (v := ?_) (by rfl) (by kernel_rfl) (by kernel_rfl) (by kernel_rfl) (fun _ _ _ h => h) (by rfl) ?_ (by assumption) ?_
        rotate_left
        · (intro wq hSq; (try dsimp only at hSq); go_split_ands; go_simp; (try with_reducible rfl))
        try simp only [Act.put, List.setIfInBounds_toArray, List.set_cons_zero, List.set_cons_succ]
        refine reg_take 8 (v := ?_) (by rfl) (by kernel_rfl) (by kernel_rfl) (by kernel_rfl) (fun _ _ _ h => h) (by rfl) ?_ (by assumption) ?_
        rotate_left
        · (intro wq hSq; (try dsimp only at hSq); go_split_ands; go_simp; (try with_reducible rfl))
        try simp only [Act.put, List.setIfInBounds_toArray, List.set_cons_zero, List.set_cons_succ]
        refine reg_take 9 (v := ?_) (by rfl) (by kernel_rfl) (by kernel_rfl) (by kernel_rfl) (fun _ _ _ h => h) (by rfl) ?_ (by assumption) ?_
        rotate_left
        · (intro wq hSq; (try dsimp only at hSq); go_split_ands; go_simp; (try with_reducible rfl))
        try simp only [Act.put, List.setIfInBounds_toArray, List.set_cons_zero, List.set_cons_succ]
        refine reg_take 10 (v := ?_) (by rfl) (by kernel_rfl) (by kernel_rfl) (by kernel_rfl) (fun _ _ _ h => h) (by rfl) ?_ (by assumption) ?_
        rotate_left
        · (intro wq hSq; (try dsimp only at hSq); go_split_ands; go_simp; (try with_reducible rfl))
        try simp only [Act.put, List.setIfInBounds_toArray, List.set_cons_zero, List.set_cons_succ]
        refine reg_take 11 (v := ?_) (by rfl) (by kernel_rfl) (by kernel_rfl) (by kernel_rfl) (fun _ _ _ h => h) (by rfl) ?_ (by assumption) ?_
        rotate_left
        · (intro wq hSq; (try dsimp only at hSq); go_split_ands; go_simp; (try with_reducible rfl))
        try simp only [Act.put, List.setIfInBounds_toArray, List.set_cons_zero, List.set_cons_succ]
        refine reg_take 12 (v := ?_) (by rfl) (by kernel_rfl) (by kernel_rfl) (by kernel_rfl) (fun _ _ _ h => h) (by rfl) ?_ (by assumption) ?_
        rotate_left
        · (intro wq hSq; (try dsimp only at hSq); go_split_ands; go_simp; (try with_reducible rfl))
        try simp only [Act.put, List.setIfInBounds_toArray, List.set_cons_zero, List.set_cons_succ]
        refine reg_take 14 (v := ?_) (by rfl) (by kernel_rfl) (by kernel_rfl) (by kernel_rfl) (fun _ _ _ h => h) (by rfl) ?_ (by assumption) ?_
        rotate_left
        · (intro wq hSq; (try dsimp only at hSq); go_split_ands; go_simp; (try with_reducible rfl))
        try simp only [Act.put, List.setIfInBounds_toArray, List.set_cons_zero, List.set_cons_succ]
        refine reg_take 15 (v := ?_) (by rfl) (by kernel_rfl) (by kernel_rfl) (by kernel_rfl) (fun _ _ _ h => h) (by rfl) ?_ (by assumption) ?_
        rotate_left
        · (intro wq hSq; (try dsimp only at hSq); go_split_ands; go_simp; (try with_reducible rfl))
        try simp only [Act.put, List.setIfInBounds_toArray, List.set_cons_zero, List.set_cons_succ]
        refine reg_take 16 (v := ?_) (by rfl) (by kernel_rfl) (by kernel_rfl) (by kernel_rfl) (fun _ _ _ h => h) (by rfl) ?_ (by assumption) ?_
        rotate_left
        · (intro wq hSq; (try dsimp only at hSq); go_split_ands; go_simp; (try with_reducible rfl))
        try simp only [Act.put, List.setIfInBounds_toArray, List.set_cons_zero, List.set_cons_succ]
        refine reg_take 17 (v := ?_) (by rfl) (by kernel_rfl) (by kernel_rfl) (by kernel_rfl) (fun _ _ _ h => h) (by rfl) ?_ (by assumption) ?_
        rotate_left
        · (intro wq hSq; (try dsimp only at hSq); go_split_ands; go_simp; (try with_reducible rfl))
        try simp only [Act.put, List.setIfInBounds_toArray, List.set_cons_zero, List.set_cons_succ]
        refine reg_take 18 (v := ?_) (by rfl) (by kernel_rfl) (by kernel_rfl) (by kernel_rfl) (fun _ _ _ h => h) (by rfl) ?_ (by assumption) ?_
        rotate_left
        · (intro wq hSq; (try dsimp only at hSq); go_split_ands; go_simp; (try with_reducible rfl))
        try simp only [Act.put, List.setIfInBounds_toArray, List.set_cons_zero, List.set_cons_succ]
        refine reg_take 19 (v := ?_) (by rfl) (by kernel_rfl) (by kernel_rfl) (by kernel_rfl) (fun _ _ _ h => h) (by rfl) ?_ (by assumption) ?_
        rotate_left
        · (intro wq hSq; (try dsimp only at hSq); go_split_ands; go_simp; (try with_reducible rfl))
        try simp only [Act.put, List.setIfInBounds_toArray, List.set_cons_zero, List.set_cons_succ]
        refine reg_take 20 (v := .agg (dgA d.1)) (by rfl) (by kernel_rfl) (by kernel_rfl) (by kernel_rfl) (fun _ _ _ h => h) (by rfl) ?_ (by assumption) ?_
        · (intro wq hSq; exact exec_loadM (.tmp 59) rfl b (o + k * 32) rfl d hSq)
        try simp only [Act.put, List.setIfInBounds_toArray, List.set_cons_zero, List.set_cons_succ]
        refine reg_take 21 (v := ?_) (by rfl) (by kernel_rfl) (by kernel_rfl) (by kernel_rfl) (fun _ _ _ h => h) (by rfl) ?_ (by assumption) ?_
        rotate_left
        · (intro wq hSq; (try dsimp only at hSq); go_split_ands; go_simp; (try with_reducible rfl))
        try simp only [Act.put, List.setIfInBounds_toArray, List.set_cons_zero, List.set_cons_succ]
        refine reg_one 13 (by rfl) (by kernel_rfl) (by rfl) (fun K hK => ?_)
        (go_simp; go_at_call 16; refine (HRT.out _ (bdrew (bself wr))).mono ?_; rintro e w5 ⟨rfl, b5⟩; go_wp2_with fail)
        refine hK.out _ _ ?_ (fun hHeld => ?_)
        · exact KS.out _ b5
        clear hK K
        try simp only [Act.put, List.setIfInBounds_toArray, List.set_cons_zero, List.set_cons_succ]
        refine reg_one 22 (by rfl) (by kernel_rfl) (by rfl) (fun K hK => ?_)
        (go_simp; go_at_call 14; refine (HCH.out _ b5).mono ?_; rintro e w6 ⟨rfl, b6⟩; go_wp2_with fail)
        refine hK.out _ _ ?_ (fun hHeld => ?_)
        · exact KS.out _ b6
        clear hK K
        try simp only [Act.put, List.setIfInBounds_toArray, List.set_cons_zero, List.set_cons_succ]
        refine reg_take 23 (v := ?_) (by rfl) (by kernel_rfl) (by kernel_rfl) (by kernel_rfl) (fun _ _ _ h => h) (by rfl) ?_ (by assumption) ?_
        rotate_left
        · (intro wq hSq; (try dsimp only at hSq); go_split_ands; go_simp; (try with_reducible rfl))
        try simp only [Act.put, List.setIfInBounds_toArray, List.set_cons_zero, List.set_cons_succ]
        refine reg_take 24 (v := ?_) (by rfl) (by kernel_rfl) (by kernel_rfl) (by kernel_rfl) (fun _ _ _ h => h) (by rfl) ?_ (by assumption) ?_
        rotate_left
        · (intro wq hSq; (try dsimp only at hSq); go_split_ands; go_simp; (try with_reducible rfl))
        try simp only [Act.put, List.setIfInBounds_toArray, List.set_cons_zero, List.set_cons_succ]
        refine wpAnyH_done (by kernel_rfl) (noPanic_mk ?_) _
        go_wp2_with fail
        go_ret
        exact ⟨rfl, bstep b3 b6⟩
end Go.Proofs.YtjmlohfldkbbaaaDoor
