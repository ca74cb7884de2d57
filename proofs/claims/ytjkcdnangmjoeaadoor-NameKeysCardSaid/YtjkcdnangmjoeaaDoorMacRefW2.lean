/-
  What is proved here: what the reference's Sum and Extract of package mac come to, at this seat's numbers. Conditions: the lengths; the tables of constants.
-/
import Derived.Test.YtjkcdnangmjoeaaDoorMacRefW
import Derived.Test.YtjkcdnangmjoeaaDoorMacShown
namespace Go.Proofs.YtjkcdnangmjoeaaDoor
open Go.RowKit

set_option maxRecDepth 100000 in
set_option maxHeartbeats 2000000 in
theorem rMac_any (key b : List UInt8) (d : Array Value) (hd : dgA (macOf key b) = d) (v u : Value) (w : World) (hv : SB w w.heap.size v key) (hu : SB w w.heap.size u b) (hl : key.length ≤ 140737488354000) (hl2 : b.length ≤ 140737488354000) (hk : KTab w 0) (h0 : 0 < w.heap.size) :
    Calls Tryd.prog 27 #[v, u] w fun e w' => e = .returned (.agg d) ∧ Below w.heap.size w w' := by
  obtain ⟨c1, hc1⟩ : ∃ c1, dgA (shaOf (xorL 54 (padK key) ++ b)) = c1 := ⟨_, rfl⟩
  have HN1 : Hid (c1.size = 32 ∧ ∀ v ∈ c1.toList, v.oneCell' = true) := Lib.hid (by rw [← hc1]; exact ⟨by rw [dgA_size, shaOf_length], dgA_one _⟩)
  have HN : Hid (d.size = 32 ∧ ∀ v ∈ d.toList, v.oneCell' = true) := Lib.hid (by rw [← hd]; exact ⟨by rw [dgA_size, macOf_length], dgA_one _⟩)
  have HD : Hid (digV (shaOf (xorL 92 (padK key) ++ shaOf (xorL 54 (padK key) ++ b))) = .agg d) := Lib.hid (by rw [← hd]; rfl)
  have HC1 := Lib.hid hc1
  clear hc1 hd
  have lX : (xorL 54 (padK key)).length = 64 := by rw [xorL_length, padK_length]
  have lY : (xorL 92 (padK key)).length = 64 := by rw [xorL_length, padK_length]
  have HX : Hid (∀ w', KTab w' 0 → 0 < w'.heap.size → SB w' w'.heap.size v key → Calls Tryd.prog 32 #[v, .int .u8 54] w' fun e w'' => ∃ u, e = .returned u ∧ OB w'' w'.heap.size u (xorL 54 (padK key)) ∧ Below w'.heap.size w' w'') := Lib.hid (fun w' h1 h2 h3 => rCrossed_any key 54 v _ (by rfl) w' h3 (by omega) h1 h2)
  have HY : Hid (∀ w', KTab w' 0 → 0 < w'.heap.size → SB w' w'.heap.size v key → Calls Tryd.prog 32 #[v, .int .u8 92] w' fun e w'' => ∃ u, e = .returned u ∧ OB w'' w'.heap.size u (xorL 92 (padK key)) ∧ Below w'.heap.size w' w'') := Lib.hid (fun w' h1 h2 h3 => rCrossed_any key 92 v _ (by rfl) w' h3 (by omega) h1 h2)
  generalize xorL 54 (padK key) = X at HX HC1 HD lX
  generalize xorL 92 (padK key) = Y at HY HD lY
  go_enter Tryd.func27, Tryd.ntmps27
  go_upto_region 1 with fail
  generalize hWA : w.alloc _ = wA
  have rR : wA.heap[w.heap.size]? = some (rowO (dgA (List.replicate 32 0))) := by rw [← hWA]; exact (heap_alloc_new w _).trans (by kernel_rfl)
  have bA : Below w.heap.size w wA := by rw [← hWA]; exact balloc (bself w) _
  have zA : w.heap.size < wA.heap.size := by rw [← hWA]; simp
  clear hWA
  have HP := Lib.hid (HX.out wA (hk.on0 bA h0) (by omega) ((hv.below bA).more (by omega)))
  go_wp2_with fail
  refine HP.out.mono ?_
  rintro e w1 ⟨u1, rfl, hu1, hb1⟩
  have z1 := hb1.size
  have bw1 : Below w.heap.size w w1 := bA.trans (hb1.mono bA.size)
  have src1 : SB w1 w.heap.size u b := hu.below bw1
  have hlen1 : X.length + b.length ≤ 140737488355328 := by omega
  go_upto_region 3 with (at_builtin; go_loud (refine wl_appB rfl (.tmp 10) (.tmp 11) rfl wA.heap.size _ X rfl hu1 w.heap.size _ b rfl src1 hlen1 z1 ?_); intro v2 w2 hu2 hg2 ho2 hb2)
  have z2 := hb2.size
  have bA2 := hb1.trans hb2
  have bw2 : Below w.heap.size w w2 := bA.trans (bA2.mono bA.size)
  have HS1 : Hid (Calls Tryd.prog 33 #[v2] w2 fun e w' => e = .returned (.agg c1) ∧ Below w2.heap.size w2 w') := Lib.hid (by rw [← HC1.out]; exact rSum_any _ _ w2 hu2.sb (by rw [List.length_append]; omega) (hk.on0 bw2 h0) (by omega))
  clear HP src1 hlen1 ho2 hg2 hu1
  go_wp2_with fail
  refine HS1.out.mono ?_
  rintro e w3 ⟨rfl, hb3⟩
  have z3 := hb3.size
  go_upto_region 4 with (refine wl_storeD rfl (.tmp 6) (.tmp 14) rfl _ rfl _ c1 rfl (heap_alloc_new w3 _) (by kernel_rfl) HN1.out.1 HN1.out.2 ?_)
  generalize hw4 : World.setRow _ _ _ = w4
  have rD : w4.heap[w3.heap.size]? = some (rowO c1) := by rw [← hw4]; exact setRow_heap _ _ _ _ _ _ (heap_alloc_new w3 _)
  have b34 : Below w3.heap.size w3 w4 := by rw [← hw4]; exact below_setRow (balloc (bself w3) _) (Nat.le_refl _) _
  have z4 : Hid (w4.heap.size = w3.heap.size + 1) := Lib.hid (by rw [← hw4]; simp)
  clear hw4 HS1
  have bA4 : Below wA.heap.size wA w4 := bA2.trans ((hb3.mono (by omega)).trans (b34.mono (by omega)))
  have bw4 : Below w.heap.size w w4 := bA.trans (bA4.mono bA.size)
  have HP2 := Lib.hid (HY.out w4 (hk.on0 bw4 h0) (by have := z4.out; omega) (hv.on bw4))
  go_wp2_with fail
  refine HP2.out.mono ?_
  rintro e w5 ⟨u5, rfl, hu5, hb5⟩
  have z5 := hb5.size
  have src5 : SB w5 w4.heap.size (.slice (some ⟨w3.heap.size, 0, none⟩) 32 32) (shaOf (X ++ b)) := (SB.ofRow rD HC1.out (shaOf_length _).symm (by have := z4.out; omega) (by rw [shaOf_length]; simp [maxLen])).below hb5
  have hlen5 : Y.length + (shaOf (X ++ b)).length ≤ 140737488355328 := by rw [shaOf_length]; omega
  clear HP2 rD b34
  go_upto_region 6 with (at_builtin; go_loud (refine wl_appB rfl (.tmp 17) (.tmp 18) rfl w4.heap.size _ Y rfl hu5 w4.heap.size _ (shaOf (X ++ b)) rfl src5 hlen5 z5 ?_); intro v6 w6 hu6 hg6 ho6 hb6)
  have z6 := hb6.size
  have b46 : Below w4.heap.size w4 w6 := hb5.trans hb6
  have bA6 : Below wA.heap.size wA w6 := bstep bA4 b46
  have bw6 : Below w.heap.size w w6 := bA.trans (bA6.mono bA.size)
  have HS2 : Hid (Calls Tryd.prog 33 #[v6] w6 fun e w' => e = .returned (.agg d) ∧ Below w6.heap.size w6 w') := Lib.hid (by rw [← HD.out]; exact rSum_any _ _ w6 hu6.sb (by rw [List.length_append, shaOf_length]; omega) (hk.on0 bw6 h0) (by have := bw6.size; omega))
  clear src5 hlen5 ho6 hg6 hu5
  have HR : Hid (∀ w', Below w6.heap.size w6 w' → w'.heap[w.heap.size]? = some (rowO (dgA (List.replicate 32 0))) ∧ (w'.setRow w.heap.size d).heap[w.heap.size]? = some (rowO d) ∧ Below w.heap.size w (w'.setRow w.heap.size d)) := Lib.hid (fun w' h => by
    have h2 : Below wA.heap.size wA w' := bstep bA6 h
    have h3 := (h2.block w.heap.size (by omega)).trans rR
    exact ⟨h3, setRow_heap _ _ _ _ _ _ h3, below_setRow (bA.trans (h2.mono bA.size)) (Nat.le_refl _) _⟩)
  have HZ : Hid ((dgA (List.replicate 32 0)).size = 32) := Lib.hid (by rw [dgA_size]; rfl)
  clear rR bA4 bw4 b46 bA6 bw6
  go_wp2_with fail
  refine HS2.out.mono ?_
  rintro e w7 ⟨rfl, hb7⟩
  have h7 := Lib.hid (HR.out w7 hb7)
  go_wp2_with (refine wl_storeD rfl (.tmp 4) (.tmp 21) rfl _ rfl _ d rfl h7.out.1 HZ.out HN.out.1 HN.out.2 ?_)
  exact bodyPost_ret (v := .agg d) (res_dig Tryd.results27 _ _ _ d rfl h7.out.2.1 HN.out.1) rfl ⟨rfl, h7.out.2.2⟩
end Go.Proofs.YtjkcdnangmjoeaaDoor
