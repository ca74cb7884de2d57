/-
  What is proved here: what join and Leaf of package merkle and the reference's Join, Leaf and part come to, at this seat's numbers. Conditions: the lengths; the tables of constants.
-/
import Derived.Test.YtjmlohfldkbbaaaDoorMerkBits
import Derived.Test.YtjmlohfldkbbaaaDoorShaRefW4
namespace Go.Proofs.YtjmlohfldkbbaaaDoor
open Go.RowKit

def jnD (a b : Dg) : Dg := ⟨shaOf (1 :: (a.1 ++ b.1)), shaOf_length _⟩
def leafD (b : List UInt8) : Dg := ⟨shaOf (0 :: b), shaOf_length _⟩
def zD : Dg := ⟨shaOf [2], shaOf_length _⟩
theorem alloc3 (w : World) (x y z : Obj) : ((((w.alloc x).alloc y).alloc z).heap[w.heap.size]? = some x ∧ (((w.alloc x).alloc y).alloc z).heap[w.heap.size + 1]? = some y ∧ (((w.alloc x).alloc y).alloc z).heap[w.heap.size + 2]? = some z) ∧ (((w.alloc x).alloc y).alloc z).heap.size = w.heap.size + 3 := by
  refine ⟨⟨?_, ?_, ?_⟩, by simp⟩
  · rw [Below.heap_alloc _ _ _ (by simp only [World.size_alloc]; omega), heap_alloc2_old]
  · rw [Below.heap_alloc _ _ _ (by simp), heap_alloc2_new]
  · have := heap_alloc_new ((w.alloc x).alloc y) z
    simp only [World.size_alloc] at this
    exact this
theorem LLthree {w : World} {x y z : Value} {a b c : List UInt8} {g : Nat} (t : TypeId) (hg : g = w.heap.size) (hx : SB w w.heap.size x a) (hy : SB w w.heap.size y b) (hz : SB w w.heap.size z c) : LL (w.alloc (.cells #[x, y, z] t)) (w.alloc (.cells #[x, y, z] t)).heap.size (.slice (some ⟨g, 0, none⟩) 3 3) [a, b, c] :=
  LL.new [x, y, z] [a, b, c] t hg rfl rfl (by simp [maxLen]) (fun i u l h1 h2 => by
    rcases i with _ | _ | _ | i
    · simp at h1 h2; subst h1; subst h2; exact hx
    · simp at h1 h2; subst h1; subst h2; exact hy
    · simp at h1 h2; subst h1; subst h2; exact hz
    · simp at h1)
theorem LLtwo {w : World} {x y : Value} {a b : List UInt8} {g : Nat} (t : TypeId) (hg : g = w.heap.size) (hx : SB w w.heap.size x a) (hy : SB w w.heap.size y b) : LL (w.alloc (.cells #[x, y] t)) (w.alloc (.cells #[x, y] t)).heap.size (.slice (some ⟨g, 0, none⟩) 2 2) [a, b] :=
  LL.new [x, y] [a, b] t hg rfl rfl (by simp [maxLen]) (fun i u l h1 h2 => by
    rcases i with _ | _ | i
    · simp at h1 h2; subst h1; subst h2; exact hx
    · simp at h1 h2; subst h1; subst h2; exact hy
    · simp at h1)
set_option maxRecDepth 100000 in
set_option maxHeartbeats 2000000 in
theorem kJoin_any (a b : Dg) (ca cb c : Array Value) (ha : dgA a.1 = ca) (hb : dgA b.1 = cb) (hc : dgA (jnD a b).1 = c) (w : World) (hk : KTab w 1) (h1 : 1 < w.heap.size) :
    Calls Tryd.prog 23 #[.agg ca, .agg cb] w fun e w' => e = .returned (.agg c) ∧ Below w.heap.size w w' := by
  have hna : ca.size = 32 := by rw [← ha]; exact dgA_n a
  have hnb : cb.size = 32 := by rw [← hb]; exact dgA_n b
  have HN : Hid (c.size = 32 ∧ ∀ v ∈ c.toList, v.oneCell' = true) := Lib.hid (by rw [← hc]; exact ⟨dgA_n _, dgA_one _⟩)
  have HA := Lib.hid (And.intro ha (And.intro hb hc))
  clear ha hb hc
  go_enter Tryd.func23, Tryd.ntmps23
  go_upto_region 1 with fail
  clear hna hnb
  generalize hWA : World.alloc _ _ = wA
  have rA : wA.heap[w.heap.size]? = some (rowO ca) := by rw [← hWA]; exact (alloc3 w _ _ _).1.1
  have rB : wA.heap[w.heap.size + 1]? = some (rowO cb) := by rw [← hWA]; exact (alloc3 w _ _ _).1.2.1
  have rR : wA.heap[w.heap.size + 2]? = some (rowO (dgA (List.replicate 32 0))) := by rw [← hWA]; exact ((alloc3 w _ _ _).1.2.2).trans (by kernel_rfl)
  have bA : Below w.heap.size w wA := by rw [← hWA]; exact balloc (balloc (balloc (bself w) _) _) _
  have zA : w.heap.size + 2 < wA.heap.size := by rw [← hWA, (alloc3 w _ _ _).2]; omega
  clear hWA
  obtain ⟨w1, hw1⟩ : ∃ w1, w1 = wA.drew.alloc (.cells #[.int .u8 1] 5) := ⟨_, rfl⟩
  have z1 : w1.heap.size = wA.heap.size + 1 := by rw [hw1]; exact World.size_alloc _ _
  have bA1 : Below wA.heap.size wA w1 := by rw [hw1]; exact balloc (bdrew (bself wA)) _
  have s1 : SB w1 w1.heap.size (.slice (some ⟨wA.heap.size, 0, none⟩) 1 1) [1] := by
    have := SB.new1 wA.drew 1
    rw [← show w1 = wA.drew.alloc (.cells #[u8v 1] 5) from hw1] at this
    exact this.more (by rw [z1]; exact Nat.le_refl _)
  have s2 : SB w1 w1.heap.size (.slice (some ⟨w.heap.size, 0, none⟩) 32 32) a.1 := SB.ofRow ((bA1.block w.heap.size (by omega)).trans rA) HA.out.1 a.2.symm (by omega) (by rw [a.2]; simp [maxLen])
  have s3 : SB w1 w1.heap.size (.slice (some ⟨w.heap.size + 1, 0, none⟩) 32 32) b.1 := SB.ofRow ((bA1.block (w.heap.size + 1) (by omega)).trans rB) HA.out.2.1 b.2.symm (by omega) (by rw [b.2]; simp [maxLen])
  have hL := LLthree (g := wA.heap.size + 1) 40 z1.symm s1 s2 s3
  have bw1 : Below w.heap.size w w1 := bA.trans (bA1.mono bA.size)
  have bw2 := balloc bw1 (.cells #[.slice (some ⟨wA.heap.size, 0, none⟩) 1 1, .slice (some ⟨w.heap.size, 0, none⟩) 32 32, .slice (some ⟨w.heap.size + 1, 0, none⟩) 32 32] 40)
  have bA2 : Below wA.heap.size wA _ := balloc bA1 (.cells #[.slice (some ⟨wA.heap.size, 0, none⟩) 1 1, .slice (some ⟨w.heap.size, 0, none⟩) 32 32, .slice (some ⟨w.heap.size + 1, 0, none⟩) 32 32] 40)
  have ef : [[1], a.1, b.1].flatten = 1 :: (a.1 ++ b.1) := by simp
  have HCALL := Lib.hid (kSumC [[1], a.1, b.1] c (by rw [ef]; exact HA.out.2.2) _ _ hL (by rw [ef, List.length_cons, List.length_append, a.2, b.2]; omega) (hk.on bw2 h1) (by have := bw2.size; omega))
  have HRL : Hid (∀ w', Below (w1.alloc (.cells #[.slice (some ⟨wA.heap.size, 0, none⟩) 1 1, .slice (some ⟨w.heap.size, 0, none⟩) 32 32, .slice (some ⟨w.heap.size + 1, 0, none⟩) 32 32] 40)).heap.size (w1.alloc (.cells #[.slice (some ⟨wA.heap.size, 0, none⟩) 1 1, .slice (some ⟨w.heap.size, 0, none⟩) 32 32, .slice (some ⟨w.heap.size + 1, 0, none⟩) 32 32] 40)) w' → w'.heap[w.heap.size + 2]? = some (rowO (dgA (List.replicate 32 0))) ∧ (w'.setRow (w.heap.size + 2) c).heap[w.heap.size + 2]? = some (rowO c) ∧ Below w.heap.size w (w'.setRow (w.heap.size + 2) c)) := Lib.hid (fun w' h => by
    have h2 := ((bstep bA2 h).block (w.heap.size + 2) (by omega)).trans rR
    exact ⟨h2, setRow_heap _ _ _ _ _ _ h2, below_setRow (bstep bw2 h) (by omega) _⟩)
  rw [hw1] at HCALL HRL
  clear hL s1 s2 s3 bw1 bw2 bA2 rA rB rR bA1 z1 hw1 ef
  refine wp_region_noPanic ?_
  refine wp_region_held_drew (S := fun _ => True) (by kernel_rfl) trivial (fun hHeld => ?_)
  refine reg_take 1 (v := ?_) (by rfl) (by kernel_rfl) (by kernel_rfl) (by kernel_rfl) (fun _ _ _ h => h) (by rfl) ?_ (by assumption) ?_
  rotate_left
  · (intro wq hSq; (try dsimp only at hSq); go_split_ands; go_simp; (try with_reducible rfl))
  try simp only [Act.put, List.setIfInBounds_toArray, List.set_cons_zero, List.set_cons_succ]
  refine reg_take 2 (v := ?_) (by rfl) (by kernel_rfl) (by kernel_rfl) (by kernel_rfl) (fun _ _ _ h => h) (by rfl) ?_ (by assumption) ?_
  rotate_left
  · (intro wq hSq; (try dsimp only at hSq); go_split_ands; go_simp; (try with_reducible rfl))
  try simp only [Act.put, List.setIfInBounds_toArray, List.set_cons_zero, List.set_cons_succ]
  refine reg_one 0 (by rfl) (by kernel_rfl) (by rfl) (fun K hK => ?_)
  (go_simp)
  refine hK.out _ _ ?_ (fun hHeld => ?_)
  · trivial
  clear hK K
  try simp only [Act.put, List.setIfInBounds_toArray, List.set_cons_zero, List.set_cons_succ]
  refine reg_one 3 (by rfl) (by kernel_rfl) (by rfl) (fun K hK => ?_)
  (go_simp)
  refine hK.out _ _ ?_ (fun hHeld => ?_)
  · trivial
  clear hK K
  try simp only [Act.put, List.setIfInBounds_toArray, List.set_cons_zero, List.set_cons_succ]
  refine reg_one 4 (by rfl) (by kernel_rfl) (by rfl) (fun K hK => ?_)
  (go_simp; go_at_call 25; refine HCALL.out.mono ?_; rintro e w11 ⟨rfl, hb11⟩; obtain ⟨r11, r12, b11⟩ := HRL.out w11 hb11; go_wp2_with fail)
  refine hK.out _ _ ?_ (fun hHeld => ?_)
  · trivial
  clear hK K
  try simp only [Act.put, List.setIfInBounds_toArray, List.set_cons_zero, List.set_cons_succ]
  refine reg_one 5 (by rfl) (by kernel_rfl) (by rfl) (fun K hK => ?_)
  (refine wp_storeR 31 (.tmp 4) (.tmp 9) rfl _ rfl _ c rfl r11 (by rw [HN.out.1]; kernel_rfl) (by rw [HN.out.1, dgA_size]; rfl) (Array.all_eq_true_iff_forall_mem.2 (fun v hv => HN.out.2 v (by simpa using hv))) ?_)
  refine hK.out _ _ ?_ (fun hHeld => ?_)
  · trivial
  clear hK K
  try simp only [Act.put, List.setIfInBounds_toArray, List.set_cons_zero, List.set_cons_succ]
  refine wpAnyH_done (by kernel_rfl) (noPanic_mk ?_) _
  go_wp2_with fail
  exact bodyPost_ret (v := .agg c) (res_dig Tryd.results23 _ _ _ c rfl r12 HN.out.1) rfl ⟨rfl, b11⟩
set_option maxRecDepth 100000 in
set_option maxHeartbeats 2000000 in
theorem kLeaf_any (b : List UInt8) (c : Array Value) (hc : dgA (leafD b).1 = c) (u : Value) (w : World) (hu : SB w w.heap.size u b) (hl2 : b.length ≤ 1152921504606845000) (hk : KTab w 1) (h1 : 1 < w.heap.size) :
    Calls Tryd.prog 19 #[u] w fun e w' => e = .returned (.agg c) ∧ Below w.heap.size w w' := by
  have HN : Hid (c.size = 32 ∧ ∀ v ∈ c.toList, v.oneCell' = true) := Lib.hid (by rw [← hc]; exact ⟨dgA_n _, dgA_one _⟩)
  have HD := Lib.hid hc
  clear hc
  obtain ⟨A2, c2, rfl, _, _, _⟩ := id hu
  go_enter Tryd.func19, Tryd.ntmps19
  go_upto_region 1 with fail
  generalize hWA : w.alloc _ = wA
  have rR : wA.heap[w.heap.size]? = some (rowO (dgA (List.replicate 32 0))) := by rw [← hWA]; exact (heap_alloc_new w _).trans (by kernel_rfl)
  have bA : Below w.heap.size w wA := by rw [← hWA]; exact balloc (bself w) _
  have zA : w.heap.size < wA.heap.size := by rw [← hWA]; simp
  clear hWA
  have b1 := balloc bA (.cells #[.int .u8 0] 5)
  have z1 : (wA.alloc (.cells #[.int .u8 0] 5)).heap.size = wA.heap.size + 1 := World.size_alloc _ _
  have hL := LLtwo 40 z1.symm ((SB.new1 wA 0).more (by exact Nat.le_of_eq z1.symm)) ((hu.below b1).more (by omega))
  have bB := balloc b1 (.cells #[.slice (some ⟨wA.heap.size, 0, none⟩) 1 1, .slice A2 b.length c2] 40)
  have ef : [[0], b].flatten = 0 :: b := by simp
  have HM := Lib.hid (kSumC [[0], b] c (by rw [ef]; exact HD.out) _ _ hL (by rw [ef, List.length_cons]; omega) (hk.on bB h1) (by have := bB.size; omega))
  have HR : Hid (∀ w', Below ((wA.alloc (.cells #[.int .u8 0] 5)).alloc (.cells #[.slice (some ⟨wA.heap.size, 0, none⟩) 1 1, .slice A2 b.length c2] 40)).heap.size ((wA.alloc (.cells #[.int .u8 0] 5)).alloc (.cells #[.slice (some ⟨wA.heap.size, 0, none⟩) 1 1, .slice A2 b.length c2] 40)) w' → w'.heap[w.heap.size]? = some (rowO (dgA (List.replicate 32 0))) ∧ (w'.setRow w.heap.size c).heap[w.heap.size]? = some (rowO c) ∧ Below w.heap.size w (w'.setRow w.heap.size c)) := Lib.hid (fun w' h => by
    have h2 : Below wA.heap.size wA w' := bstep (balloc (balloc (bself wA) _) _) h
    have h3 := (h2.block w.heap.size (by omega)).trans rR
    exact ⟨h3, setRow_heap _ _ _ _ _ _ h3, below_setRow (bA.trans (h2.mono bA.size)) (Nat.le_refl _) _⟩)
  have HZ : Hid ((dgA (List.replicate 32 0)).size = 32) := Lib.hid (by rw [dgA_size]; rfl)
  clear hL bB b1 z1 rR bA hu ef
  go_wp2_with fail
  refine HM.out.mono ?_
  rintro e w7 ⟨rfl, hb7⟩
  have h7 := Lib.hid (HR.out w7 hb7)
  clear HM HR hb7
  go_wp2_with (refine wl_storeD rfl (.tmp 2) (.tmp 6) rfl _ rfl _ c rfl h7.out.1 HZ.out HN.out.1 HN.out.2 ?_)
  exact bodyPost_ret (v := .agg c) (res_dig Tryd.results19 _ _ _ c rfl h7.out.2.1 HN.out.1) rfl ⟨rfl, h7.out.2.2⟩
set_option maxRecDepth 100000 in
set_option maxHeartbeats 2000000 in
theorem rLeaf_any (b : List UInt8) (c : Array Value) (hc : dgA (leafD b).1 = c) (u : Value) (w : World) (hu : SB w w.heap.size u b) (hl2 : b.length ≤ 140737488354000) (hk : KTab w 0) (h0 : 0 < w.heap.size) :
    Calls Tryd.prog 20 #[u] w fun e w' => e = .returned (.agg c) ∧ Below w.heap.size w w' := by
  have HN : Hid (c.size = 32 ∧ ∀ v ∈ c.toList, v.oneCell' = true) := Lib.hid (by rw [← hc]; exact ⟨dgA_n _, dgA_one _⟩)
  have HD : Hid (digV (shaOf ([0] ++ b)) = .agg c) := Lib.hid (by rw [← hc]; rfl)
  clear hc
  go_enter Tryd.func20, Tryd.ntmps20
  go_upto_region 1 with fail
  generalize hWA : w.alloc _ = wA
  have rR : wA.heap[w.heap.size]? = some (rowO (dgA (List.replicate 32 0))) := by rw [← hWA]; exact (heap_alloc_new w _).trans (by kernel_rfl)
  have bA : Below w.heap.size w wA := by rw [← hWA]; exact balloc (bself w) _
  have zA : w.heap.size < wA.heap.size := by rw [← hWA]; simp
  clear hWA
  have b1 := balloc bA (.cells #[.int .u8 0] 5)
  have bA1 := balloc (bself wA) (.cells #[.int .u8 0] 5)
  have own1 : OB (wA.alloc (.cells #[.int .u8 0] 5)) wA.heap.size (.slice (some ⟨wA.heap.size, 0, none⟩) 1 1) [0] := OB.lit wA [0] (Nat.le_refl _) (by simp [maxLen])
  have src1 : SB (wA.alloc (.cells #[.int .u8 0] 5)) w.heap.size u b := hu.below b1
  have hlen1 : ([0] : List UInt8).length + b.length ≤ 140737488355328 := by simp only [List.length_cons, List.length_nil]; omega
  have hz1 : wA.heap.size ≤ (wA.alloc (.cells #[.int .u8 0] 5)).heap.size := bA1.size
  have HST : Hid (∀ (v2 : Value) (w2 : World), OB w2 wA.heap.size v2 ([0] ++ b) → Below wA.heap.size (wA.alloc (.cells #[.int .u8 0] 5)) w2 → Calls Tryd.prog 27 #[v2] w2 fun e w' => e = .returned (.agg c) ∧ w'.heap[w.heap.size]? = some (rowO (dgA (List.replicate 32 0))) ∧ (w'.setRow w.heap.size c).heap[w.heap.size]? = some (rowO c) ∧ Below w.heap.size w (w'.setRow w.heap.size c)) := Lib.hid (fun v2 w2 ho hb => by
    have hA2 : Below wA.heap.size wA w2 := bA1.trans hb
    have hw2 := bA.trans (hA2.mono bA.size)
    rw [← HD.out]
    refine (rSum_any _ _ w2 ho.sb (by rw [List.length_append]; simp only [List.length_cons, List.length_nil]; omega) (hk.on0 hw2 h0) (by have := hw2.size; omega)).mono fun e w' ⟨he, hb'⟩ => ⟨he, ?_⟩
    have h3 := ((bstep hA2 hb').block w.heap.size (by omega)).trans rR
    exact ⟨h3, setRow_heap _ _ _ _ _ _ h3, below_setRow (bstep hw2 hb') (Nat.le_refl _) _⟩)
  have HZ : Hid ((dgA (List.replicate 32 0)).size = 32) := Lib.hid (by rw [dgA_size]; rfl)
  clear b1 bA1 rR bA
  go_wp2_with (at_builtin; go_loud (refine wl_appB rfl (.tmp 5) (.tmp 6) rfl wA.heap.size _ [0] rfl own1 w.heap.size _ b rfl src1 hlen1 hz1 ?_); intro v2 w2 hown2 hg2 ho2 hb2; have HS := Lib.hid (HST.out v2 w2 hown2 hb2))
  refine HS.out.mono ?_
  rintro e w7 ⟨rfl, h7⟩
  have h7 := Lib.hid h7
  go_wp2_with (refine wl_storeD rfl (.tmp 2) (.tmp 8) rfl _ rfl _ c rfl h7.out.1 HZ.out HN.out.1 HN.out.2 ?_)
  exact bodyPost_ret (v := .agg c) (res_dig Tryd.results20 _ _ _ c rfl h7.out.2.1 HN.out.1) rfl ⟨rfl, h7.out.2.2⟩
set_option maxRecDepth 100000 in
set_option maxHeartbeats 2000000 in
theorem rJoin_any (a b : Dg) (ca cb c : Array Value) (ha : dgA a.1 = ca) (hb : dgA b.1 = cb) (hc : dgA (jnD a b).1 = c) (w : World) (hk : KTab w 0) (h0 : 0 < w.heap.size) :
    Calls Tryd.prog 29 #[.agg ca, .agg cb] w fun e w' => e = .returned (.agg c) ∧ Below w.heap.size w w' := by
  have hna : ca.size = 32 := by rw [← ha]; exact dgA_n a
  have hnb : cb.size = 32 := by rw [← hb]; exact dgA_n b
  have HN : Hid (c.size = 32 ∧ ∀ v ∈ c.toList, v.oneCell' = true) := Lib.hid (by rw [← hc]; exact ⟨dgA_n _, dgA_one _⟩)
  have HA := Lib.hid (And.intro ha hb)
  have HD : Hid (digV (shaOf ([1] ++ a.1 ++ b.1)) = .agg c) := Lib.hid (by rw [← hc]; rfl)
  have la := a.2
  have lb := b.2
  clear ha hb hc
  go_enter Tryd.func29, Tryd.ntmps29
  go_upto_region 1 with fail
  clear hna hnb
  generalize hWA : World.alloc _ _ = wA
  have rA : wA.heap[w.heap.size]? = some (rowO ca) := by rw [← hWA]; exact (alloc3 w _ _ _).1.1
  have rB : wA.heap[w.heap.size + 1]? = some (rowO cb) := by rw [← hWA]; exact (alloc3 w _ _ _).1.2.1
  have rR : wA.heap[w.heap.size + 2]? = some (rowO (dgA (List.replicate 32 0))) := by rw [← hWA]; exact ((alloc3 w _ _ _).1.2.2).trans (by kernel_rfl)
  have bA : Below w.heap.size w wA := by rw [← hWA]; exact balloc (balloc (balloc (bself w) _) _) _
  have zA : w.heap.size + 2 < wA.heap.size := by rw [← hWA, (alloc3 w _ _ _).2]; omega
  clear hWA
  have sA : SB wA wA.heap.size (.slice (some ⟨w.heap.size, 0, none⟩) 32 32) a.1 := SB.ofRow rA HA.out.1 la.symm (by omega) (by rw [la]; simp [maxLen])
  have sB : SB wA wA.heap.size (.slice (some ⟨w.heap.size + 1, 0, none⟩) 32 32) b.1 := SB.ofRow rB HA.out.2 lb.symm (by omega) (by rw [lb]; simp [maxLen])
  have bA1 := balloc (bself wA) (.cells #[.int .u8 1] 5)
  have own1 : OB (wA.alloc (.cells #[.int .u8 1] 5)) wA.heap.size (.slice (some ⟨wA.heap.size, 0, none⟩) 1 1) [1] := OB.lit wA [1] (Nat.le_refl _) (by simp [maxLen])
  have src1 : SB (wA.alloc (.cells #[.int .u8 1] 5)) wA.heap.size _ a.1 := sA.below bA1
  have hlen1 : ([1] : List UInt8).length + a.1.length ≤ 140737488355328 := by simp only [List.length_cons, List.length_nil]; omega
  have hz1 : wA.heap.size ≤ (wA.alloc (.cells #[.int .u8 1] 5)).heap.size := bA1.size
  go_upto_region 3 with (at_builtin; go_loud (refine wl_appB rfl (.tmp 7) (.tmp 8) rfl wA.heap.size _ [1] rfl own1 wA.heap.size _ a.1 rfl src1 hlen1 hz1 ?_); intro v2 w2 hown2 hg2 ho2 hb2)
  have bA2 : Below wA.heap.size wA w2 := bA1.trans hb2
  have src2 : SB w2 wA.heap.size _ b.1 := sB.below bA2
  have hlen2 : ([1] ++ a.1 : List UInt8).length + b.1.length ≤ 140737488355328 := by rw [List.length_append]; simp only [List.length_cons, List.length_nil]; omega
  have hz2 := bA2.size
  clear own1 src1 hlen1 hz1 ho2 hg2
  go_upto_region 4 with (at_builtin; go_loud (refine wl_appB rfl (.tmp 10) (.tmp 11) rfl wA.heap.size _ ([1] ++ a.1) rfl hown2 wA.heap.size _ b.1 rfl src2 hlen2 hz2 ?_); intro v3 w3 hown3 hg3 ho3 hb3)
  have bA3 : Below wA.heap.size wA w3 := bA2.trans hb3
  have bw3 := bA.trans (bA3.mono bA.size)
  have HS : Hid (Calls Tryd.prog 27 #[v3] w3 fun e w' => e = .returned (.agg c) ∧ Below w3.heap.size w3 w') := Lib.hid (by rw [← HD.out]; exact rSum_any _ _ w3 hown3.sb (by rw [List.length_append, List.length_append]; simp only [List.length_cons, List.length_nil]; omega) (hk.on0 bw3 h0) (by have := bw3.size; omega))
  have HR : Hid (∀ w', Below w3.heap.size w3 w' → w'.heap[w.heap.size + 2]? = some (rowO (dgA (List.replicate 32 0))) ∧ (w'.setRow (w.heap.size + 2) c).heap[w.heap.size + 2]? = some (rowO c) ∧ Below w.heap.size w (w'.setRow (w.heap.size + 2) c)) := Lib.hid (fun w' h => by
    have h3 := ((bstep bA3 h).block (w.heap.size + 2) (by omega)).trans rR
    exact ⟨h3, setRow_heap _ _ _ _ _ _ h3, below_setRow (bstep bw3 h) (by omega) _⟩)
  have HZ : Hid ((dgA (List.replicate 32 0)).size = 32) := Lib.hid (by rw [dgA_size]; rfl)
  clear src2 hlen2 ho3 hg3 hown2 hown3 rA rB rR sA sB bA3 bw3
  go_wp2_with fail
  refine HS.out.mono ?_
  rintro e w7 ⟨rfl, hb7⟩
  have h7 := Lib.hid (HR.out w7 hb7)
  go_wp2_with (refine wl_storeD rfl (.tmp 4) (.tmp 14) rfl _ rfl _ c rfl h7.out.1 HZ.out HN.out.1 HN.out.2 ?_)
  exact bodyPost_ret (v := .agg c) (res_dig Tryd.results29 _ _ _ c rfl h7.out.2.1 HN.out.1) rfl ⟨rfl, h7.out.2.2⟩
end Go.Proofs.YtjmlohfldkbbaaaDoor
