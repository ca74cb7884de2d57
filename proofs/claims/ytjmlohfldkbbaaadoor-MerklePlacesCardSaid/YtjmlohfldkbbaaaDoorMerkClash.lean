/-
  What is proved here: what clash of tantaluslaw11 comes to, at this seat's numbers. Conditions: the lists' lengths; the table of constants.
-/
import Derived.Test.YtjmlohfldkbbaaaDoorMerkMet
namespace Go.Proofs.YtjmlohfldkbbaaaDoor
open Go.RowKit

/-- a truth value that says P -/
def BoolPost (P : Prop) (w w' : World) (e : Ending) : Prop := ∃ q : Bool, e = .returned (.bool q) ∧ (q = true ↔ P) ∧ Below w.heap.size w w'
theorem clash_small {l m : List Dg} (h : l.length ≤ 1) : ¬ clashR jnD zD l m := by
  rw [clashR, dif_pos h]
  exact fun h => h
theorem clash_more {l m : List Dg} (h : 1 < l.length) : clashR jnD zD l m ↔ metD (rootR jnD zD (l.take (part l.length))) (rootR jnD zD (l.drop (part l.length))) (rootR jnD zD (m.take (part l.length))) (rootR jnD zD (m.drop (part l.length))) ∨ clashR jnD zD (l.take (part l.length)) (m.take (part l.length)) ∨ clashR jnD zD (l.drop (part l.length)) (m.drop (part l.length)) := by
  conv => lhs; rw [clashR]
  rw [dif_neg (by omega)]
  exact Iff.rfl
set_option maxRecDepth 100000 in
set_option maxHeartbeats 1000000 in
theorem clash_n (N : Nat) : ∀ (l m : List Dg), l.length = N → m.length = l.length → l.length ≤ 2000 → ∀ (v u : Value) (w : World), SD w w.heap.size v l → SD w w.heap.size u m → KTab w 1 → 1 < w.heap.size →
    Calls Tryd.prog 17 #[v, u] w fun e w' => BoolPost (clashR jnD zD l m) w w' e := by
  induction N using Nat.strongRecOn with
  | _ N ih =>
    intro l m hN hml hl v u w hv hu hk h1
    have HIH := Lib.hid ih
    have HLN := Lib.hid (And.intro hN hml)
    clear ih
    obtain ⟨A, c0, rfl, hlc, hcm⟩ := hv.form
    obtain ⟨A2, c2, rfl, hlc2, hcm2⟩ := hu.form
    go_enter Tryd.func17, Tryd.ntmps17
    by_cases hs : l.length < 2
    · have hs2 : (l.length : Int) < 2 := by omega
      have HF : Hid (¬ clashR jnD zD l m) := Lib.hid (clash_small (by omega))
      clear hN hml
      go_wp2_with fail
      go_ret
      exact ⟨false, rfl, ⟨fun h => (by cases h), fun h => absurd h HF.out⟩, bself w⟩
    · have hs2 : ¬ (l.length : Int) < 2 := by omega
      obtain ⟨b, o, c9, e9, hbl, _⟩ := hv.at_ (by omega)
      obtain ⟨bx, o2, c8, e8, hbl2, _⟩ := hu.at_ (by omega)
      injection e9 with e91 e92 e93
      injection e8 with e81 e82 e83
      subst e91; subst e93; subst e81; subst e83
      clear e92 e82
      obtain ⟨n, hn⟩ : ∃ n, n = l.length := ⟨_, rfl⟩
      have hn2 : 2 ≤ n := by omega
      obtain ⟨M, hM1, hM⟩ := part_bits n hn2 (by omega)
      have hp1 := part_lt hn2
      have hp2 := part_half hn2
      have HPW := Lib.hid hM
      have HNL := Lib.hid hn
      clear hM hM1 hN hml
      rw [← hn] at hs2 hl hlc
      have hvn : SD w w.heap.size (.slice (some ⟨b, o, none⟩) n c0) l := by rw [hn]; exact hv
      have hun : SD w w.heap.size (.slice (some ⟨bx, o2, none⟩) n c2) m := by rw [hn, ← HLN.out.2]; exact hu
      have hlc2n : n ≤ c2 := by have := HLN.out.2; omega
      rw [show l.length = n from hn.symm, show m.length = n by rw [HLN.out.2, hn]]
      clear hn hs hv hu hlc2
      go_wp2_with fail
      go_loopw [5] (fun kv wy => ∃ k : Nat, kv = .int .i64 (k : Int) ∧ 0 < k ∧ k ≤ part n ∧ Hid (∃ j, k = 2 ^ j ∧ j ≤ M) ∧ wy = w) (fun kv _ => n - (intOf kv).toNat)
      case atStart => exact ⟨1, rfl, by omega, part_pos n, Lib.hid ⟨0, rfl, Nat.zero_le _⟩, rfl⟩
      case round =>
        obtain ⟨k, rfl, hk0, hkp, HJ, rfl⟩ := hrel
        by_cases hlt : 2 * k < n
        · have hlt2 : (k : Int) < (n : Int) - (k : Int) := by omega
          have HJ2 : Hid ((∃ j, k * 2 = 2 ^ j ∧ j ≤ M) ∧ k * 2 ≤ part n) := Lib.hid (by
            obtain ⟨j, hj, hjm⟩ := HJ.out
            have hp := HPW.out
            have h3 : 2 ^ (j + 1) < 2 ^ (M + 1) := by rw [Nat.pow_succ, Nat.pow_succ, ← hj, ← hp]; omega
            have h5 : j + 1 < M + 1 := (Nat.pow_lt_pow_iff_right (by omega)).1 h3
            have h6 : 2 ^ (j + 1) ≤ 2 ^ M := Nat.pow_le_pow_right (by omega) (by omega)
            refine ⟨⟨j + 1, by rw [Nat.pow_succ, hj], by omega⟩, ?_⟩
            rw [hp]
            rw [Nat.pow_succ, ← hj] at h6
            exact h6)
          have y1 : IntKind.i64.wrap ((n : Int) - (k : Int)) = (n : Int) - (k : Int) := IntWalk.i64_in _ (by omega)
          have y2 : IntKind.i64.wrap ((k : Int) * 2) = (k : Int) * 2 := IntWalk.i64_in _ (by omega)
          go_wp2_with fail
          go_roundw
          case rel => exact ⟨k * 2, by go_num, by omega, HJ2.out.2, Lib.hid HJ2.out.1, by first | rfl | trivial⟩
          case measure => simp [intOf]; omega
        · have hge : ¬ (k : Int) < (n : Int) - (k : Int) := by omega
          have y1 : IntKind.i64.wrap ((n : Int) - (k : Int)) = (n : Int) - (k : Int) := IntWalk.i64_in _ (by omega)
          have hke : k = part n := by
            obtain ⟨j, hj, hjm⟩ := HJ.out
            have hp := HPW.out
            by_cases e : j = M
            · rw [hj, hp, e]
            · have h6 : 2 ^ (j + 1) ≤ 2 ^ M := Nat.pow_le_pow_right (by omega) (by omega)
              rw [Nat.pow_succ, ← hj, ← hp] at h6
              omega
          have hkn : k < n := by omega
          have HCL : Hid (clashR jnD zD l m ↔ metD (rootR jnD zD (l.take k)) (rootR jnD zD (l.drop k)) (rootR jnD zD (m.take k)) (rootR jnD zD (m.drop k)) ∨ clashR jnD zD (l.take k) (m.take k) ∨ clashR jnD zD (l.drop k) (m.drop k)) := Lib.hid (by
            have h := clash_more (l := l) (m := m) (by have := HNL.out; omega)
            rw [← HNL.out, ← hke] at h
            exact h)
          have ln := HNL.out
          have lm : m.length = n := by rw [HLN.out.2, ln]
          have t1 : SD wr wr.heap.size (.slice (some ⟨b, o, none⟩) k c0) (l.take k) := hvn.take (by omega) rfl
          have t2 : SD wr wr.heap.size (.slice (some ⟨b, o + k * 32, none⟩) (n - k) (c0 - k)) (l.drop k) := by
            have h := hvn.cut (k := k) (by omega) rfl
            rw [if_neg (by omega), Option.map_some, add_lit0] at h
            exact h
          have t3 : SD wr wr.heap.size (.slice (some ⟨bx, o2, none⟩) k c2) (m.take k) := hun.take (by omega) rfl
          have t4 : SD wr wr.heap.size (.slice (some ⟨bx, o2 + k * 32, none⟩) (n - k) (c2 - k)) (m.drop k) := by
            have h := hun.cut (k := k) (by omega) rfl
            rw [if_neg (by omega), Option.map_some, add_lit0] at h
            exact h
          have l1 : (l.take k).length = k := by rw [List.length_take]; omega
          have l2 : (l.drop k).length = n - k := by rw [List.length_drop, ← ln]
          have l3 : (m.take k).length = k := by rw [List.length_take]; omega
          have l4 : (m.drop k).length = n - k := by rw [List.length_drop, lm]
          have HKT : Hid (∀ w', Below wr.heap.size wr w' → KTab w' 1 ∧ 1 < w'.heap.size) := Lib.hid (fun w' h => ⟨hk.on h h1, by have := h.size; omega⟩)
          have HC1 : Hid (∀ w', Below wr.heap.size wr w' → Calls Tryd.prog 17 #[.slice (some ⟨b, o, none⟩) k c0, .slice (some ⟨bx, o2, none⟩) k c2] w' fun e w'' => BoolPost (clashR jnD zD (l.take k) (m.take k)) w' w'' e) := Lib.hid (fun w' h => HIH.out k (by have := HLN.out; omega) (l.take k) (m.take k) l1 (by omega) (by omega) _ _ w' (t1.on h) (t3.on h) (HKT.out w' h).1 (HKT.out w' h).2)
          have HC2 : Hid (∀ w', Below wr.heap.size wr w' → Calls Tryd.prog 17 #[.slice (some ⟨b, o + k * 32, none⟩) (n - k) (c0 - k), .slice (some ⟨bx, o2 + k * 32, none⟩) (n - k) (c2 - k)] w' fun e w'' => BoolPost (clashR jnD zD (l.drop k) (m.drop k)) w' w'' e) := Lib.hid (fun w' h => HIH.out (n - k) (by have := HLN.out; omega) (l.drop k) (m.drop k) l2 (by omega) (by omega) _ _ w' (t2.on h) (t4.on h) (HKT.out w' h).1 (HKT.out w' h).2)
          obtain ⟨r1, hr1⟩ : ∃ r1, r1 = rootR jnD zD (l.take k) := ⟨_, rfl⟩
          obtain ⟨r2, hr2⟩ : ∃ r2, r2 = rootR jnD zD (l.drop k) := ⟨_, rfl⟩
          obtain ⟨r3, hr3⟩ : ∃ r3, r3 = rootR jnD zD (m.take k) := ⟨_, rfl⟩
          obtain ⟨r4, hr4⟩ : ∃ r4, r4 = rootR jnD zD (m.drop k) := ⟨_, rfl⟩
          rw [← hr1, ← hr2, ← hr3, ← hr4] at HCL
          have HR1 : Hid (∀ w', Below wr.heap.size wr w' → Calls Tryd.prog 16 #[.slice (some ⟨b, o, none⟩) k c0] w' fun e w'' => e = .returned (.agg (dgA r1.1)) ∧ Below w'.heap.size w' w'') := Lib.hid (fun w' h => kRoot_any _ (by omega) _ _ (by rw [hr1]) w' (t1.on h) (HKT.out w' h).1 (HKT.out w' h).2)
          have HR2 : Hid (∀ w', Below wr.heap.size wr w' → Calls Tryd.prog 16 #[.slice (some ⟨b, o + k * 32, none⟩) (n - k) (c0 - k)] w' fun e w'' => e = .returned (.agg (dgA r2.1)) ∧ Below w'.heap.size w' w'') := Lib.hid (fun w' h => kRoot_any _ (by omega) _ _ (by rw [hr2]) w' (t2.on h) (HKT.out w' h).1 (HKT.out w' h).2)
          have HR3 : Hid (∀ w', Below wr.heap.size wr w' → Calls Tryd.prog 16 #[.slice (some ⟨bx, o2, none⟩) k c2] w' fun e w'' => e = .returned (.agg (dgA r3.1)) ∧ Below w'.heap.size w' w'') := Lib.hid (fun w' h => kRoot_any _ (by omega) _ _ (by rw [hr3]) w' (t3.on h) (HKT.out w' h).1 (HKT.out w' h).2)
          have HR4 : Hid (∀ w', Below wr.heap.size wr w' → Calls Tryd.prog 16 #[.slice (some ⟨bx, o2 + k * 32, none⟩) (n - k) (c2 - k)] w' fun e w'' => e = .returned (.agg (dgA r4.1)) ∧ Below w'.heap.size w' w'') := Lib.hid (fun w' h => kRoot_any _ (by omega) _ _ (by rw [hr4]) w' (t4.on h) (HKT.out w' h).1 (HKT.out w' h).2)
          have HMT : Hid (∀ w', Below wr.heap.size wr w' → Calls Tryd.prog 26 #[.agg (dgA r1.1), .agg (dgA r2.1), .agg (dgA r3.1), .agg (dgA r4.1)] w' fun e w'' => BoolPost (metD r1 r2 r3 r4) w' w'' e) := Lib.hid (fun w' h => met_any r1 r2 r3 r4 w' (HKT.out w' h).1 (HKT.out w' h).2)
          have z1 : (k : Int) ≤ (c0 : Int) := by omega
          have z2 : (k : Int) ≤ (n : Int) := by omega
          have z3 : ¬ c0 = k := by omega
          have z4 : (k : Int) ≤ (c2 : Int) := by omega
          have z5 : ¬ c2 = k := by omega
          clear t1 t2 t3 t4 l1 l2 l3 l4 hr1 hr2 hr3 hr4 hvn hun ln lm hke HIH
          go_upto_region 6 with fail
          refine wp_region_noPanic ?_
          refine wp_region_held_drew (S := fun _ => True) (by kernel_rfl) trivial (fun hHeld => ?_)
          refine reg_take 0 (v := ?_) (by rfl) (by kernel_rfl) (by kernel_rfl) (by kernel_rfl) (fun _ _ _ h => h) (by rfl) ?_ (by assumption) ?_
          rotate_left
          · (intro wq hSq; (try dsimp only at hSq); go_split_ands; go_simp; (try with_reducible rfl))
          try simp only [Act.put, List.setIfInBounds_toArray, List.set_cons_zero, List.set_cons_succ]
          refine reg_take 1 (v := ?_) (by rfl) (by kernel_rfl) (by kernel_rfl) (by kernel_rfl) (fun _ _ _ h => h) (by rfl) ?_ (by assumption) ?_
          rotate_left
          · (intro wq hSq; (try dsimp only at hSq); go_split_ands; go_simp; (try with_reducible rfl))
          try simp only [Act.put, List.setIfInBounds_toArray, List.set_cons_zero, List.set_cons_succ]
          refine reg_take 2 (v := ?_) (by rfl) (by kernel_rfl) (by kernel_rfl) (by kernel_rfl) (fun _ _ _ h => h) (by rfl) ?_ (by assumption) ?_
          rotate_left
          · (intro wq hSq; (try dsimp only at hSq); go_split_ands; go_simp; (try with_reducible rfl))
          try simp only [Act.put, List.setIfInBounds_toArray, List.set_cons_zero, List.set_cons_succ]
          refine reg_take 4 (v := ?_) (by rfl) (by kernel_rfl) (by kernel_rfl) (by kernel_rfl) (fun _ _ _ h => h) (by rfl) ?_ (by assumption) ?_
          rotate_left
          · (intro wq hSq; (try dsimp only at hSq); go_split_ands; go_simp; (try with_reducible rfl))
          try simp only [Act.put, List.setIfInBounds_toArray, List.set_cons_zero, List.set_cons_succ]
          refine reg_take 5 (v := ?_) (by rfl) (by kernel_rfl) (by kernel_rfl) (by kernel_rfl) (fun _ _ _ h => h) (by rfl) ?_ (by assumption) ?_
          rotate_left
          · (intro wq hSq; (try dsimp only at hSq); go_split_ands; go_simp; (try with_reducible rfl))
          try simp only [Act.put, List.setIfInBounds_toArray, List.set_cons_zero, List.set_cons_succ]
          refine reg_take 6 (v := ?_) (by rfl) (by kernel_rfl) (by kernel_rfl) (by kernel_rfl) (fun _ _ _ h => h) (by rfl) ?_ (by assumption) ?_
          rotate_left
          · (intro wq hSq; (try dsimp only at hSq); go_split_ands; go_simp; (try with_reducible rfl))
          try simp only [Act.put, List.setIfInBounds_toArray, List.set_cons_zero, List.set_cons_succ]
          refine reg_take 8 (v := ?_) (by rfl) (by kernel_rfl) (by kernel_rfl) (by kernel_rfl) (fun _ _ _ h => h) (by rfl) ?_ (by assumption) ?_
          rotate_left
          · (intro wq hSq; (try dsimp only at hSq); go_split_ands; go_simp; (try with_reducible rfl))
          try simp only [Act.put, List.setIfInBounds_toArray, List.set_cons_zero, List.set_cons_succ]
          refine reg_take 9 (v := ?_) (by rfl) (by kernel_rfl) (by kernel_rfl) (by kernel_rfl) (fun _ _ _ h => h) (by rfl) ?_ (by assumption) ?_
          rotate_left
          · (intro wq hSq; (try dsimp only at hSq); go_split_ands; go_simp; (try with_reducible rfl))
          try simp only [Act.put, List.setIfInBounds_toArray, List.set_cons_zero, List.set_cons_succ]
          refine reg_take 10 (v := ?_) (by rfl) (by kernel_rfl) (by kernel_rfl) (by kernel_rfl) (fun _ _ _ h => h) (by rfl) ?_ (by assumption) ?_
          rotate_left
          · (intro wq hSq; (try dsimp only at hSq); go_split_ands; go_simp; (try with_reducible rfl))
          try simp only [Act.put, List.setIfInBounds_toArray, List.set_cons_zero, List.set_cons_succ]
          refine reg_take 12 (v := ?_) (by rfl) (by kernel_rfl) (by kernel_rfl) (by kernel_rfl) (fun _ _ _ h => h) (by rfl) ?_ (by assumption) ?_
          rotate_left
          · (intro wq hSq; (try dsimp only at hSq); go_split_ands; go_simp; (try with_reducible rfl))
          try simp only [Act.put, List.setIfInBounds_toArray, List.set_cons_zero, List.set_cons_succ]
          refine reg_take 13 (v := ?_) (by rfl) (by kernel_rfl) (by kernel_rfl) (by kernel_rfl) (fun _ _ _ h => h) (by rfl) ?_ (by assumption) ?_
          rotate_left
          · (intro wq hSq; (try dsimp only at hSq); go_split_ands; go_simp; (try with_reducible rfl))
          try simp only [Act.put, List.setIfInBounds_toArray, List.set_cons_zero, List.set_cons_succ]
          refine reg_take 14 (v := ?_) (by rfl) (by kernel_rfl) (by kernel_rfl) (by kernel_rfl) (fun _ _ _ h => h) (by rfl) ?_ (by assumption) ?_
          rotate_left
          · (intro wq hSq; (try dsimp only at hSq); go_split_ands; go_simp; (try with_reducible rfl))
          try simp only [Act.put, List.setIfInBounds_toArray, List.set_cons_zero, List.set_cons_succ]
          refine reg_one 3 (by rfl) (by kernel_rfl) (by rfl) (fun K hK => ?_)
          (go_simp; go_at_call 16; refine (HR1.out _ (bdrew (bself wr))).mono ?_; rintro e w1 ⟨rfl, hb1⟩; have b1 := bstep (bdrew (bself wr)) hb1; go_wp2_with fail)
          refine hK.out _ _ ?_ (fun hHeld => ?_)
          · trivial
          clear hK K
          try simp only [Act.put, List.setIfInBounds_toArray, List.set_cons_zero, List.set_cons_succ]
          refine reg_one 7 (by rfl) (by kernel_rfl) (by rfl) (fun K hK => ?_)
          (go_simp; go_at_call 16; refine (HR2.out _ b1).mono ?_; rintro e w2 ⟨rfl, hb2⟩; have b2 := bstep b1 hb2; go_wp2_with fail)
          refine hK.out _ _ ?_ (fun hHeld => ?_)
          · trivial
          clear hK K
          try simp only [Act.put, List.setIfInBounds_toArray, List.set_cons_zero, List.set_cons_succ]
          refine reg_one 11 (by rfl) (by kernel_rfl) (by rfl) (fun K hK => ?_)
          (go_simp; go_at_call 16; refine (HR3.out _ b2).mono ?_; rintro e w3 ⟨rfl, hb3⟩; have b3 := bstep b2 hb3; go_wp2_with fail)
          refine hK.out _ _ ?_ (fun hHeld => ?_)
          · trivial
          clear hK K
          try simp only [Act.put, List.setIfInBounds_toArray, List.set_cons_zero, List.set_cons_succ]
          refine reg_one 15 (by rfl) (by kernel_rfl) (by rfl) (fun K hK => ?_)
          (go_simp; go_at_call 16; refine (HR4.out _ b3).mono ?_; rintro e w4 ⟨rfl, hb4⟩; have b4 := bstep b3 hb4; go_wp2_with fail)
          refine hK.out _ _ ?_ (fun hHeld => ?_)
          · trivial
          clear hK K
          try simp only [Act.put, List.setIfInBounds_toArray, List.set_cons_zero, List.set_cons_succ]
          refine reg_one 16 (by rfl) (by kernel_rfl) (by rfl) (fun K hK => ?_)
          (go_simp; go_at_call 26; refine (HMT.out _ b4).mono ?_; rintro e w5 ⟨q, rfl, hq, hb5⟩; have HQ := Lib.hid hq; clear hq; have b5 := bstep b4 hb5; go_wp2_with fail)
          refine hK.out _ _ ?_ (fun hHeld => ?_)
          · trivial
          clear hK K
          try simp only [Act.put, List.setIfInBounds_toArray, List.set_cons_zero, List.set_cons_succ]
          refine wpAnyH_done (by kernel_rfl) (noPanic_mk ?_) _
          cases q with
          | true =>
            have HT : Hid (clashR jnD zD l m) := Lib.hid (HCL.out.2 (Or.inl (HQ.out.1 rfl)))
            go_wp2_with fail
            go_ret
            exact ⟨true, rfl, ⟨fun _ => HT.out, fun _ => rfl⟩, b5⟩
          | false =>
            have HNM : Hid (clashR jnD zD l m ↔ clashR jnD zD (l.take k) (m.take k) ∨ clashR jnD zD (l.drop k) (m.drop k)) := Lib.hid (by
              rw [HCL.out]
              exact ⟨fun h => h.resolve_left (fun hm => (by have := HQ.out.2 hm; cases this)), fun h => Or.inr h⟩)
            go_upto_region 8 with fail
            refine wp_region_noPanic ?_
            refine wp_region_held_drew (S := fun _ => True) (by kernel_rfl) trivial (fun hHeld => ?_)
            refine reg_take 0 (v := ?_) (by rfl) (by kernel_rfl) (by kernel_rfl) (by kernel_rfl) (fun _ _ _ h => h) (by rfl) ?_ (by assumption) ?_
            rotate_left
            · (intro wq hSq; (try dsimp only at hSq); go_split_ands; go_simp; (try with_reducible rfl))
            try simp only [Act.put, List.setIfInBounds_toArray, List.set_cons_zero, List.set_cons_succ]
            refine reg_take 1 (v := ?_) (by rfl) (by kernel_rfl) (by kernel_rfl) (by kernel_rfl) (fun _ _ _ h => h) (by rfl) ?_ (by assumption) ?_
            rotate_left
            · (intro wq hSq; (try dsimp only at hSq); go_split_ands; go_simp; (try with_reducible rfl))
            try simp only [Act.put, List.setIfInBounds_toArray, List.set_cons_zero, List.set_cons_succ]
            refine reg_take 2 (v := ?_) (by rfl) (by kernel_rfl) (by kernel_rfl) (by kernel_rfl) (fun _ _ _ h => h) (by rfl) ?_ (by assumption) ?_
            rotate_left
            · (intro wq hSq; (try dsimp only at hSq); go_split_ands; go_simp; (try with_reducible rfl))
            try simp only [Act.put, List.setIfInBounds_toArray, List.set_cons_zero, List.set_cons_succ]
            refine reg_take 3 (v := ?_) (by rfl) (by kernel_rfl) (by kernel_rfl) (by kernel_rfl) (fun _ _ _ h => h) (by rfl) ?_ (by assumption) ?_
            rotate_left
            · (intro wq hSq; (try dsimp only at hSq); go_split_ands; go_simp; (try with_reducible rfl))
            try simp only [Act.put, List.setIfInBounds_toArray, List.set_cons_zero, List.set_cons_succ]
            refine reg_take 4 (v := ?_) (by rfl) (by kernel_rfl) (by kernel_rfl) (by kernel_rfl) (fun _ _ _ h => h) (by rfl) ?_ (by assumption) ?_
            rotate_left
            · (intro wq hSq; (try dsimp only at hSq); go_split_ands; go_simp; (try with_reducible rfl))
            try simp only [Act.put, List.setIfInBounds_toArray, List.set_cons_zero, List.set_cons_succ]
            refine reg_take 5 (v := ?_) (by rfl) (by kernel_rfl) (by kernel_rfl) (by kernel_rfl) (fun _ _ _ h => h) (by rfl) ?_ (by assumption) ?_
            rotate_left
            · (intro wq hSq; (try dsimp only at hSq); go_split_ands; go_simp; (try with_reducible rfl))
            try simp only [Act.put, List.setIfInBounds_toArray, List.set_cons_zero, List.set_cons_succ]
            have b6 := bdrew b5
            refine reg_one 6 (by rfl) (by kernel_rfl) (by rfl) (fun K hK => ?_)
            (go_simp; go_at_call 17; refine (HC1.out _ b6).mono ?_; rintro e w7 ⟨q1, rfl, hq1, hb7⟩; have HQ1 := Lib.hid hq1; clear hq1; have b7 := bstep b6 hb7; go_wp2_with fail)
            refine hK.out _ _ ?_ (fun hHeld => ?_)
            · trivial
            clear hK K
            try simp only [Act.put, List.setIfInBounds_toArray, List.set_cons_zero, List.set_cons_succ]
            cases q1 with
            | true =>
              have HT : Hid (clashR jnD zD l m) := Lib.hid (HNM.out.2 (Or.inl (HQ1.out.1 rfl)))
              refine reg_take 7 (v := ?_) (by rfl) (by kernel_rfl) (by kernel_rfl) (by kernel_rfl) (fun _ _ _ h => h) (by rfl) ?_ (by assumption) ?_
              rotate_left
              · (intro wq hSq; (try dsimp only at hSq); go_split_ands; go_simp; (try with_reducible rfl))
              try simp only [Act.put, List.setIfInBounds_toArray, List.set_cons_zero, List.set_cons_succ]
              refine reg_skip 8 (by rfl) (by kernel_rfl) (by kernel_rfl) (by kernel_rfl) (fun _ _ _ h => h) (by rfl) (by assumption) ?_
              try simp only [Act.put, List.setIfInBounds_toArray, List.set_cons_zero, List.set_cons_succ]
              refine reg_skip 9 (by rfl) (by kernel_rfl) (by kernel_rfl) (by kernel_rfl) (fun _ _ _ h => h) (by rfl) (by assumption) ?_
              try simp only [Act.put, List.setIfInBounds_toArray, List.set_cons_zero, List.set_cons_succ]
              refine reg_skip 10 (by rfl) (by kernel_rfl) (by kernel_rfl) (by kernel_rfl) (fun _ _ _ h => h) (by rfl) (by assumption) ?_
              try simp only [Act.put, List.setIfInBounds_toArray, List.set_cons_zero, List.set_cons_succ]
              refine reg_skip 11 (by rfl) (by kernel_rfl) (by kernel_rfl) (by kernel_rfl) (fun _ _ _ h => h) (by rfl) (by assumption) ?_
              try simp only [Act.put, List.setIfInBounds_toArray, List.set_cons_zero, List.set_cons_succ]
              refine reg_skip 12 (by rfl) (by kernel_rfl) (by kernel_rfl) (by kernel_rfl) (fun _ _ _ h => h) (by rfl) (by assumption) ?_
              try simp only [Act.put, List.setIfInBounds_toArray, List.set_cons_zero, List.set_cons_succ]
              refine reg_skip 13 (by rfl) (by kernel_rfl) (by kernel_rfl) (by kernel_rfl) (fun _ _ _ h => h) (by rfl) (by assumption) ?_
              try simp only [Act.put, List.setIfInBounds_toArray, List.set_cons_zero, List.set_cons_succ]
              refine reg_skip 14 (by rfl) (by kernel_rfl) (by kernel_rfl) (by kernel_rfl) (fun _ _ _ h => h) (by rfl) (by assumption) ?_
              try simp only [Act.put, List.setIfInBounds_toArray, List.set_cons_zero, List.set_cons_succ]
              refine reg_take 15 (v := ?_) (by rfl) (by kernel_rfl) (by kernel_rfl) (by kernel_rfl) (fun _ _ _ h => h) (by rfl) ?_ (by assumption) ?_
              rotate_left
              · (intro wq hSq; (try dsimp only at hSq); go_split_ands; go_simp; (try with_reducible rfl))
              try simp only [Act.put, List.setIfInBounds_toArray, List.set_cons_zero, List.set_cons_succ]
              refine reg_take 16 (v := ?_) (by rfl) (by kernel_rfl) (by kernel_rfl) (by kernel_rfl) (fun _ _ _ h => h) (by rfl) ?_ (by assumption) ?_
              rotate_left
              · (intro wq hSq; (try dsimp only at hSq); go_split_ands; go_simp; (try with_reducible rfl))
              try simp only [Act.put, List.setIfInBounds_toArray, List.set_cons_zero, List.set_cons_succ]
              refine wpAnyH_done (by kernel_rfl) (noPanic_mk ?_) _
              go_wp2_with fail
              go_ret
              exact ⟨true, rfl, ⟨fun _ => HT.out, fun _ => rfl⟩, b7⟩
            | false =>
              refine reg_take 7 (v := ?_) (by rfl) (by kernel_rfl) (by kernel_rfl) (by kernel_rfl) (fun _ _ _ h => h) (by rfl) ?_ (by assumption) ?_
              rotate_left
              · (intro wq hSq; (try dsimp only at hSq); go_split_ands; go_simp; (try with_reducible rfl))
              try simp only [Act.put, List.setIfInBounds_toArray, List.set_cons_zero, List.set_cons_succ]
              refine reg_take 8 (v := ?_) (by rfl) (by kernel_rfl) (by kernel_rfl) (by kernel_rfl) (fun _ _ _ h => h) (by rfl) ?_ (by assumption) ?_
              rotate_left
              · (intro wq hSq; (try dsimp only at hSq); go_split_ands; go_simp; (try with_reducible rfl))
              try simp only [Act.put, List.setIfInBounds_toArray, List.set_cons_zero, List.set_cons_succ]
              refine reg_take 9 (v := ?_) (by rfl) (by kernel_rfl) (by kernel_rfl) (by kernel_rfl) (fun _ _ _ h => h) (by rfl) ?_ (by assumption) ?_
              rotate_left
              · (intro wq hSq; (try dsimp only at hSq); go_split_ands; go_simp; (try with_reducible rfl))
              try simp only [Act.put, List.setIfInBounds_toArray, List.set_cons_zero, List.set_cons_succ]
              refine reg_take 10 (v := ?_) (by rfl) (by kernel_rfl) (by kernel_rfl) (by kernel_rfl) (fun _ _ _ h => h) (by rfl) ?_ (by assumption) ?_
              rotate_left
              · (intro wq hSq; (try dsimp only at hSq); go_split_ands; go_simp; (try with_reducible rfl))
              try simp only [Act.put, List.setIfInBounds_toArray, List.set_cons_zero, List.set_cons_succ]
              refine reg_take 11 (v := ?_) (by rfl) (by kernel_rfl) (by kernel_rfl) (by kernel_rfl) (fun _ _ _ h => h) (by rfl) ?_ (by assumption) ?_
              rotate_left
              · (intro wq hSq; (try dsimp only at hSq); go_split_ands; go_simp; (try with_reducible rfl))
              try simp only [Act.put, List.setIfInBounds_toArray, List.set_cons_zero, List.set_cons_succ]
              refine reg_take 12 (v := ?_) (by rfl) (by kernel_rfl) (by kernel_rfl) (by kernel_rfl) (fun _ _ _ h => h) (by rfl) ?_ (by assumption) ?_
              rotate_left
              · (intro wq hSq; (try dsimp only at hSq); go_split_ands; go_simp; (try with_reducible rfl))
              try simp only [Act.put, List.setIfInBounds_toArray, List.set_cons_zero, List.set_cons_succ]
              refine reg_take 13 (v := ?_) (by rfl) (by kernel_rfl) (by kernel_rfl) (by kernel_rfl) (fun _ _ _ h => h) (by rfl) ?_ (by assumption) ?_
              rotate_left
              · (intro wq hSq; (try dsimp only at hSq); go_split_ands; go_simp; (try with_reducible rfl))
              try simp only [Act.put, List.setIfInBounds_toArray, List.set_cons_zero, List.set_cons_succ]
              refine reg_one 14 (by rfl) (by kernel_rfl) (by rfl) (fun K hK => ?_)
              (go_simp; go_at_call 17; refine (HC2.out _ b7).mono ?_; rintro e w8 ⟨q2, rfl, hq2, hb8⟩; have HQ2 := Lib.hid hq2; clear hq2; have b8 := bstep b7 hb8; go_wp2_with fail)
              refine hK.out _ _ ?_ (fun hHeld => ?_)
              · trivial
              clear hK K
              try simp only [Act.put, List.setIfInBounds_toArray, List.set_cons_zero, List.set_cons_succ]
              refine reg_take 15 (v := ?_) (by rfl) (by kernel_rfl) (by kernel_rfl) (by kernel_rfl) (fun _ _ _ h => h) (by rfl) ?_ (by assumption) ?_
              rotate_left
              · (intro wq hSq; (try dsimp only at hSq); go_split_ands; go_simp; (try with_reducible rfl))
              try simp only [Act.put, List.setIfInBounds_toArray, List.set_cons_zero, List.set_cons_succ]
              refine reg_take 16 (v := ?_) (by rfl) (by kernel_rfl) (by kernel_rfl) (by kernel_rfl) (fun _ _ _ h => h) (by rfl) ?_ (by assumption) ?_
              rotate_left
              · (intro wq hSq; (try dsimp only at hSq); go_split_ands; go_simp; (try with_reducible rfl))
              try simp only [Act.put, List.setIfInBounds_toArray, List.set_cons_zero, List.set_cons_succ]
              refine wpAnyH_done (by kernel_rfl) (noPanic_mk ?_) _
              have HT : Hid (q2 = true ↔ clashR jnD zD l m) := Lib.hid (by
                rw [HQ2.out, HNM.out]
                exact ⟨fun h => Or.inr h, fun h => h.resolve_left (fun hm => (by have := HQ1.out.2 hm; cases this))⟩)
              go_wp2_with fail
              go_ret
              exact ⟨q2, rfl, HT.out, b8⟩
end Go.Proofs.YtjmlohfldkbbaaaDoor
