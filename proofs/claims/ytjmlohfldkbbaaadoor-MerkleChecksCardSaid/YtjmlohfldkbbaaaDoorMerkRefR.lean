/-
  What is proved here: what the reference's Root comes to, at this seat's numbers. Conditions: the list's length; the table of constants.
-/
import Derived.Test.YtjmlohfldkbbaaaDoorMerkRoot
import Derived.Test.YtjmlohfldkbbaaaDoorMerkPart
namespace Go.Proofs.YtjmlohfldkbbaaaDoor
open Go.RowKit

set_option maxRecDepth 100000 in
set_option maxHeartbeats 2000000 in
theorem rRoot_n (n : Nat) : ∀ (l : List Dg), l.length = n → l.length ≤ 2000 → ∀ (v : Value) (c : Array Value), dgA (rootR jnD zD l).1 = c → ∀ (w : World), SD w w.heap.size v l → KTab w 0 → 0 < w.heap.size →
    Calls Tryd.prog 18 #[v] w fun e w' => e = .returned (.agg c) ∧ Below w.heap.size w w' := by
  induction n using Nat.strongRecOn with
  | _ n ih =>
    intro l hn hl v c hc w hv hk h0
    have HIH := Lib.hid ih
    clear ih
    have HN : Hid (c.size = 32 ∧ ∀ v ∈ c.toList, v.oneCell' = true) := Lib.hid (by rw [← hc]; exact ⟨dgA_n _, dgA_one _⟩)
    have HZ : Hid ((dgA (List.replicate 32 0)).size = 32) := Lib.hid (by rw [dgA_size]; rfl)
    have HC := Lib.hid hc
    have HLN := Lib.hid hn
    clear hc hn
    obtain ⟨A, c0, rfl, hlc, hcm⟩ := hv.form
    go_enter Tryd.func18, Tryd.ntmps18
    go_upto_region 1 with fail
    generalize hWA : w.alloc _ = wA
    have rR : wA.heap[w.heap.size]? = some (rowO (dgA (List.replicate 32 0))) := by rw [← hWA]; exact (heap_alloc_new w _).trans (by kernel_rfl)
    have bA : Below w.heap.size w wA := by rw [← hWA]; exact balloc (bself w) _
    have zA : w.heap.size < wA.heap.size := by rw [← hWA]; simp
    clear hWA
    have HEND : Hid (∀ w', Below wA.heap.size wA w' → w'.heap[w.heap.size]? = some (rowO (dgA (List.replicate 32 0))) ∧ (w'.setRow w.heap.size c).heap[w.heap.size]? = some (rowO c) ∧ Below w.heap.size w (w'.setRow w.heap.size c)) := Lib.hid (fun w' h => by
      have h3 := (h.block w.heap.size (by omega)).trans rR
      exact ⟨h3, setRow_heap _ _ _ _ _ _ h3, below_setRow (bA.trans (h.mono bA.size)) (Nat.le_refl _) _⟩)
    have HK : Hid (∀ w', Below wA.heap.size wA w' → KTab w' 0 ∧ 0 < w'.heap.size) := Lib.hid (fun w' h => ⟨hk.on0 (bA.trans (h.mono bA.size)) h0, by have := h.size; omega⟩)
    have hv2 : SD wA wA.heap.size (.slice A l.length c0) l := (hv.below bA).more (by omega)
    clear hv rR
    by_cases hz : l.length = 0
    · have hln : l = [] := List.eq_nil_of_length_eq_zero hz
      subst hln
      have b1 := balloc (bself wA) (.cells #[.int .u8 2] 5)
      have HM : Hid (Calls Tryd.prog 27 #[.slice (some ⟨wA.heap.size, 0, none⟩) 1 1] (wA.alloc (.cells #[.int .u8 2] 5)) fun e w' => e = .returned (.agg c) ∧ Below (wA.alloc (.cells #[.int .u8 2] 5)).heap.size (wA.alloc (.cells #[.int .u8 2] 5)) w') := Lib.hid (by
        have h := rSum_any [2] _ _ ((SB.new1 wA 2).more (by rw [World.size_alloc]; exact Nat.le_refl _)) (by decide) (HK.out _ b1).1 (HK.out _ b1).2
        have e : digV (shaOf [2]) = .agg c := by rw [← HC.out, rootR_nil]; rfl
        rw [e] at h
        exact h)
      have HB := Lib.hid b1
      clear b1 hz
      go_wp2_with fail
      refine HM.out.mono ?_
      rintro e w7 ⟨rfl, hb7⟩
      have h7 := Lib.hid (HEND.out w7 (bstep HB.out hb7))
      clear HM HB hb7
      go_wp2_with (refine wl_storeD rfl (.tmp 2) (.tmp 8) rfl _ rfl _ c rfl h7.out.1 HZ.out HN.out.1 HN.out.2 ?_)
      exact bodyPost_ret (v := .agg c) (res_dig Tryd.results18 _ _ _ c rfl h7.out.2.1 HN.out.1) rfl ⟨rfl, h7.out.2.2⟩
    · have hne0 : ((l.length : Int) == 0) = false := by
        rw [beq_eq_false_iff_ne]; omega
      obtain ⟨b, o, c9, e9, hbl, hel⟩ := hv2.at_ (by omega)
      injection e9 with e91 e92 e93
      subst e91; subst e93
      clear e92
      by_cases h1 : l.length = 1
      · have hr0 := hel 0 (by omega)
        rw [Nat.zero_mul, Nat.add_zero] at hr0
        obtain ⟨d, hd⟩ : ∃ d, l = [d] := by
          match l, h1 with
          | [d], _ => exact ⟨d, rfl⟩
        subst hd
        have hcd : dgA d.1 = c := by rw [← HC.out, rootR_one]
        have hr1 : wA.rangeAt b o (bv d.1) := hr0
        have h9 := Lib.hid (HEND.out wA (bself wA))
        have HCD := Lib.hid hcd
        clear hr0 hel hv2 hcd
        go_wp2_with (first
          | (refine wl_loadM rfl (.tmp 13) rfl b o rfl d hr1 ?_; rw [HCD.out])
          | (refine wl_storeD rfl (.tmp 2) (.tmp 14) rfl _ rfl _ c rfl h9.out.1 HZ.out HN.out.1 HN.out.2 ?_))
        exact bodyPost_ret (v := .agg c) (res_dig Tryd.results18 _ _ _ c rfl h9.out.2.1 HN.out.1) rfl ⟨rfl, h9.out.2.2⟩
      · have hne1 : ((l.length : Int) == 1) = false := by
          rw [beq_eq_false_iff_ne]; omega
        clear hel
        go_wp2_with fail
        refine (rPart_any l.length wA (by omega) (by omega)).mono ?_
        rintro e w1 ⟨rfl, rfl⟩
        obtain ⟨k, hk9⟩ : ∃ k, k = part l.length := ⟨_, rfl⟩
        have hk1 : k < l.length := by rw [hk9]; exact part_lt (by omega)
        have hk2 : 0 < k := by rw [hk9]; exact part_pos _
        have hRM : rootR jnD zD l = jnD (rootR jnD zD (l.take k)) (rootR jnD zD (l.drop k)) := by rw [hk9]; exact rootR_more jnD zD l (by omega)
        rw [← hk9]
        clear hk9
        rw [hRM] at HC
        clear hRM
        obtain ⟨r1, hr1⟩ : ∃ r1, r1 = rootR jnD zD (l.take k) := ⟨_, rfl⟩
        obtain ⟨r2, hr2⟩ : ∃ r2, r2 = rootR jnD zD (l.drop k) := ⟨_, rfl⟩
        rw [← hr1, ← hr2] at HC
        have s1 : SD w1 w1.heap.size (.slice (some ⟨b, o, none⟩) k c0) (l.take k) := hv2.take (by omega) rfl
        have s2 : SD w1 w1.heap.size (.slice (some ⟨b, o + k * 32, none⟩) (l.length - k) (c0 - k)) (l.drop k) := by
          have h := hv2.cut (k := k) (by omega) rfl
          rw [if_neg (by omega), Option.map_some, add_lit0] at h
          exact h
        have HR1 : Hid (∀ w', Below w1.heap.size w1 w' → Calls Tryd.prog 18 #[.slice (some ⟨b, o, none⟩) k c0] w' fun e w'' => e = .returned (.agg (dgA r1.1)) ∧ Below w1.heap.size w1 w'') := Lib.hid (fun w' h => (HIH.out k (by have := HLN.out; omega) (l.take k) (by rw [List.length_take]; omega) (by rw [List.length_take]; omega) _ (dgA r1.1) (by rw [hr1]) w' (s1.on h) (HK.out w' h).1 (HK.out w' h).2).mono fun e w'' ⟨he, hb⟩ => ⟨he, bstep h hb⟩)
        have HR2 : Hid (∀ w', Below w1.heap.size w1 w' → Calls Tryd.prog 18 #[.slice (some ⟨b, o + k * 32, none⟩) (l.length - k) (c0 - k)] w' fun e w'' => e = .returned (.agg (dgA r2.1)) ∧ Below w1.heap.size w1 w'') := Lib.hid (fun w' h => (HIH.out (l.length - k) (by have := HLN.out; omega) (l.drop k) (by rw [List.length_drop]) (by rw [List.length_drop]; omega) _ (dgA r2.1) (by rw [hr2]) w' (s2.on h) (HK.out w' h).1 (HK.out w' h).2).mono fun e w'' ⟨he, hb⟩ => ⟨he, bstep h hb⟩)
        have HRJ : Hid (∀ w', Below w1.heap.size w1 w' → Calls Tryd.prog 29 #[.agg (dgA r1.1), .agg (dgA r2.1)] w' fun e w'' => e = .returned (.agg c) ∧ Below w1.heap.size w1 w'') := Lib.hid (fun w' h => (rJoin_any r1 r2 _ _ c rfl rfl HC.out w' (HK.out w' h).1 (HK.out w' h).2).mono fun e w'' ⟨he, hb⟩ => ⟨he, bstep h hb⟩)
        have y1 : (k : Int) ≤ (c0 : Int) := by omega
        have y2 : (k : Int) ≤ (l.length : Int) := by omega
        have y3 : ¬ c0 = k := by omega
        clear s1 s2 hr1 hr2 hv2
        go_upto_region 6 with fail
        refine wp_region_noPanic ?_
        refine wp_region_held_drew (S := fun _ => True) (by kernel_rfl) trivial (fun hHeld => ?_)
        refine reg_take 0 (v := ?_) (by rfl) (by kernel_rfl) (by kernel_rfl) (by kernel_rfl) (fun _ _ _ h => h) (by rfl) ?_ (by assumption) ?_
        rotate_left
        · (intro wq hSq; (try dsimp only at hSq); go_split_ands; go_simp; (try with_reducible rfl))
        try simp only [Act.put, List.setIfInBounds_toArray, List.set_cons_zero, List.set_cons_succ]
        refine reg_take 1 (v := ?_) (by rfl) (by kernel_rfl) (by kernel_rfl) (by kernel_rfl) (fun _ _ _ h => h) (by rfl) ?_ (by assumption) ?_
        rotate_left
        · (intro wq hSq; (try dsimp only at hSq); go_split_ands; go_simp; (try with_reducible rfl))
        try simp only [Act.put, List.setIfInBounds_toArray, List.set_cons_zero, List.set_cons_succ]
        refine reg_take 2 (v := ?_) (by rfl) (by kernel_rfl) (by kernel_rfl) (by kernel_rfl) (fun _ _ _ h => h) (by rfl) ?_ (by assumption) ?_
        rotate_left
        · (intro wq hSq; (try dsimp only at hSq); go_split_ands; go_simp; (try with_reducible rfl))
        try simp only [Act.put, List.setIfInBounds_toArray, List.set_cons_zero, List.set_cons_succ]
        refine reg_take 4 (v := ?_) (by rfl) (by kernel_rfl) (by kernel_rfl) (by kernel_rfl) (fun _ _ _ h => h) (by rfl) ?_ (by assumption) ?_
        rotate_left
        · (intro wq hSq; (try dsimp only at hSq); go_split_ands; go_simp; (try with_reducible rfl))
        try simp only [Act.put, List.setIfInBounds_toArray, List.set_cons_zero, List.set_cons_succ]
        refine reg_take 5 (v := ?_) (by rfl) (by kernel_rfl) (by kernel_rfl) (by kernel_rfl) (fun _ _ _ h => h) (by rfl) ?_ (by assumption) ?_
        rotate_left
        · (intro wq hSq; (try dsimp only at hSq); go_split_ands; go_simp; (try with_reducible rfl))
        try simp only [Act.put, List.setIfInBounds_toArray, List.set_cons_zero, List.set_cons_succ]
        refine reg_take 6 (v := ?_) (by rfl) (by kernel_rfl) (by kernel_rfl) (by kernel_rfl) (fun _ _ _ h => h) (by rfl) ?_ (by assumption) ?_
        rotate_left
        · (intro wq hSq; (try dsimp only at hSq); go_split_ands; go_simp; (try with_reducible rfl))
        try simp only [Act.put, List.setIfInBounds_toArray, List.set_cons_zero, List.set_cons_succ]
        refine reg_one 3 (by rfl) (by kernel_rfl) (by rfl) (fun K hK => ?_)
        (go_simp; go_at_call 18; refine (HR1.out _ (bdrew (bself w1))).mono ?_; rintro e w3 ⟨rfl, b3⟩; go_wp2_with fail)
        refine hK.out _ _ ?_ (fun hHeld => ?_)
        · trivial
        clear hK K
        try simp only [Act.put, List.setIfInBounds_toArray, List.set_cons_zero, List.set_cons_succ]
        refine reg_one 7 (by rfl) (by kernel_rfl) (by rfl) (fun K hK => ?_)
        (go_simp; go_at_call 18; refine (HR2.out _ b3).mono ?_; rintro e w4 ⟨rfl, b4⟩; go_wp2_with fail)
        refine hK.out _ _ ?_ (fun hHeld => ?_)
        · trivial
        clear hK K
        try simp only [Act.put, List.setIfInBounds_toArray, List.set_cons_zero, List.set_cons_succ]
        refine reg_one 8 (by rfl) (by kernel_rfl) (by rfl) (fun K hK => ?_)
        (go_simp; go_at_call 29; refine (HRJ.out _ b4).mono ?_; rintro e w5 ⟨rfl, b5⟩; go_wp2_with fail)
        refine hK.out _ _ ?_ (fun hHeld => ?_)
        · trivial
        clear hK K
        try simp only [Act.put, List.setIfInBounds_toArray, List.set_cons_zero, List.set_cons_succ]
        have h9 := Lib.hid (HEND.out w5 b5)
        refine reg_one 9 (by rfl) (by kernel_rfl) (by rfl) (fun K hK => ?_)
        (refine wp_storeR 31 (.tmp 2) (.tmp 26) rfl _ rfl _ c rfl h9.out.1 (by rw [HN.out.1]; kernel_rfl) (by rw [HN.out.1, HZ.out]) (Array.all_eq_true_iff_forall_mem.2 (fun v hv => HN.out.2 v (by simpa using hv))) ?_)
        refine hK.out _ _ ?_ (fun hHeld => ?_)
        · trivial
        clear hK K
        try simp only [Act.put, List.setIfInBounds_toArray, List.set_cons_zero, List.set_cons_succ]
        refine wpAnyH_done (by kernel_rfl) (noPanic_mk ?_) _
        go_wp2_with fail
        exact bodyPost_ret (v := .agg c) (res_dig Tryd.results18 _ _ _ c rfl h9.out.2.1 HN.out.1) rfl ⟨rfl, h9.out.2.2⟩
theorem rRoot_any (l : List Dg) (hl : l.length ≤ 2000) (v : Value) (c : Array Value) (hc : dgA (rootR jnD zD l).1 = c) (w : World) (hv : SD w w.heap.size v l) (hk : KTab w 0) (h0 : 0 < w.heap.size) :
    Calls Tryd.prog 18 #[v] w fun e w' => e = .returned (.agg c) ∧ Below w.heap.size w w' := rRoot_n l.length l rfl hl v c hc w hv hk h0
end Go.Proofs.YtjmlohfldkbbaaaDoor
