/-
  What is proved here: what the reference's crossed comes to, at this seat's numbers. Conditions: the key's length; the table of constants.
-/
import Derived.Test.YtjkcdnangmjoeaaDoorMacW3
namespace Go.Proofs.YtjkcdnangmjoeaaDoor
open Go.RowKit

set_option maxRecDepth 100000 in
set_option maxHeartbeats 2000000 in
theorem rCrossed_any (k : List UInt8) (y : UInt8) (v z : Value) (hz0 : z = .int .u8 (y.toNat : Int)) (w : World) (hv : SB w w.heap.size v k) (hl : k.length ≤ 140737488355000) (hk : KTab w 0) (h0 : 0 < w.heap.size) :
    Calls Tryd.prog 32 #[v, z] w fun e w' => ∃ u, e = .returned u ∧ OB w' w.heap.size u (xorL y (padK k)) ∧ Below w.heap.size w w' := by
  subst hz0
  obtain ⟨A, c, rfl, hlc, hcm, _⟩ := id hv
  have hcm2 : c ≤ 9223372036854775807 := by unfold maxLen at hcm; omega
  go_enter Tryd.func32, Tryd.ntmps32
  obtain ⟨K, hK⟩ : ∃ K, K = keyOf64 k := ⟨_, rfl⟩
  have hKl : K.length ≤ 64 := by rw [hK]; exact keyOf64_length k
  have HK0 := Lib.hid hK
  clear hK
  by_cases hlong : 64 < k.length
  · obtain ⟨cc, hcc⟩ : ∃ cc, dgA (shaOf k) = cc := ⟨_, rfl⟩
    have HKS : Hid (K = shaOf k) := Lib.hid (by rw [HK0.out]; unfold keyOf64; rw [if_pos hlong])
    have HN : Hid (cc.size = 32 ∧ ∀ v ∈ cc.toList, v.oneCell' = true) := Lib.hid (by rw [← hcc]; exact ⟨by rw [dgA_size, shaOf_length], dgA_one _⟩)
    have HS : Hid (Calls Tryd.prog 33 #[.slice A k.length c] w fun e w' => e = .returned (.agg cc) ∧ Below w.heap.size w w') := Lib.hid (by rw [← hcc]; exact rSum_any k _ w hv hl hk h0)
    have HC := Lib.hid hcc
    clear hcc
    go_wp2_with fail
    refine HS.out.mono ?_
    rintro e w1 ⟨rfl, hb1⟩
    have z1 := hb1.size
    go_upto_region 4 with (refine wl_storeD rfl (.tmp 6) (.tmp 15) rfl _ rfl _ cc rfl (heap_alloc_new w1 _) (by kernel_rfl) HN.out.1 HN.out.2 ?_)
    generalize hw5 : World.setRow _ _ _ = w5
    have rD : w5.heap[w1.heap.size]? = some (rowO cc) := by rw [← hw5]; exact setRow_heap _ _ _ _ _ _ (heap_alloc_new w1 _)
    have b15 : Below w1.heap.size w1 w5 := by rw [← hw5]; exact below_setRow (balloc (bself w1) _) (Nat.le_refl _) _
    have z5 : Hid (w5.heap.size = w1.heap.size + 1) := Lib.hid (by rw [← hw5]; simp)
    clear hw5
    have b5 := bstep hb1 b15
    have HK : Hid (∀ wy, Below w5.heap.size w5 wy → SB wy w5.heap.size (.slice (some ⟨w1.heap.size, 0, none⟩) 32 32) K) := Lib.hid (fun wy h => by
      rw [HKS.out]
      exact (SB.ofRow rD HC.out (shaOf_length k).symm (by have := z5.out; omega) (by rw [shaOf_length]; simp [maxLen])).below h)
    have HNK : Hid (32 = K.length) := Lib.hid (by rw [HKS.out, shaOf_length])
    clear hv rD b15 hb1 HS
    have HX : Hid (∀ i (hi : i < 64), (xorL y (padK k))[i]? = some (if h : i < K.length then xor8 y (K[i]'h) else y)) := Lib.hid (fun i hi => by rw [mix_at y k i hi]; congr 1; have hK := HK0.out; subst hK; rfl)
    have lX : (xorL y (padK k)).length = 64 := by rw [xorL_length, padK_length]
    obtain ⟨X, hXe⟩ : ∃ X, X = xorL y (padK k) := ⟨_, rfl⟩
    rw [← hXe] at HX lX
    have HXE := Lib.hid hXe
    clear hXe
    go_wp2_with fail
    go_loopw [7, 8] (fun ov iv wy => ∃ i : Nat, iv = .int .i64 i ∧ i ≤ 64 ∧ OB wy w5.heap.size ov (X.take i) ∧ Below w5.heap.size w5 wy) (fun _ iv _ => 64 - (intOf iv).toNat)
    case atStart => exact ⟨0, rfl, by omega, OB.nil_ _ _, bself w5⟩
    case round =>
      obtain ⟨i, rfl, hi, hown, hbr⟩ := hrel
      have hzr := hbr.size
      by_cases hlt : i < 64
      · have hXi := HX.out i hlt
        have hL : (X.take i).length + 1 ≤ 140737488355328 := by rw [List.length_take]; omega
        by_cases hik : i < 32
        · have hiK : i < K.length := by have := HNK.out; omega
          skip
          have hKC : wr.cell? ⟨w1.heap.size, i, none⟩ = some (.int .u8 ((K[i]'hiK).toNat : Int)) := by
            have := SB.cellAt (HK.out wr hbr) hiK
            rw [Nat.zero_add] at this; exact this
          rw [dif_pos hiK] at hXi
          generalize K[i]'hiK = q at hKC hXi
          have x1 : bits .xor .u8 (q.toNat : Int) (y.toNat : Int) = ((xor8 y q).toNat : Int) := by rw [X_xor, xor8_comm]
          generalize xor8 y q = z8 at hXi x1
          have HAPP : Hid (X.take i ++ [z8] = X.take (i + 1)) := Lib.hid (by rw [List.take_add_one, hXi]; rfl)
          generalize X.take i = L at hown hL HAPP
          clear hXi
          go_wp2_with (at_builtin; go_loud (refine wl_app1 rfl (.tmp 29) (.tmp 33) rfl w5.heap.size _ L rfl hown _ z8 rfl rfl rfl hL hzr ?_); intro v7 w7 hown7 hg7 ho7 hb7; rw [HAPP.out] at hown7; have b7 := hbr.trans hb7)
          go_roundw
          case rel => first | exact ⟨i + 1, by go_num, by omega, hown7, b7⟩ | ((repeat apply Exists.intro); exact ⟨⟨i + 1, by go_num, by omega, hown7, b7⟩, rfl⟩) | trace_state
          case measure => simp [intOf]; omega
        · have hiK : ¬ i < K.length := by have := HNK.out; omega
          rw [dif_neg hiK] at hXi
          have x1 : bits .xor .u8 0 (y.toNat : Int) = (y.toNat : Int) := by
            have h := X_xor 0 y
            rw [show xor8 0 y = y from by unfold xor8; simp] at h
            exact h
          have HAPP : Hid (X.take i ++ [y] = X.take (i + 1)) := Lib.hid (by rw [List.take_add_one, hXi]; rfl)
          generalize X.take i = L at hown hL HAPP
          clear hXi
          go_wp2_with (at_builtin; go_loud (refine wl_app1 rfl (.tmp 29) (.tmp 33) rfl w5.heap.size _ L rfl hown _ y rfl rfl rfl hL hzr ?_); intro v7 w7 hown7 hg7 ho7 hb7; rw [HAPP.out] at hown7; have b7 := hbr.trans hb7)
          go_roundw
          case rel => first | exact ⟨i + 1, by go_num, by omega, hown7, b7⟩ | ((repeat apply Exists.intro); exact ⟨⟨i + 1, by go_num, by omega, hown7, b7⟩, rfl⟩) | trace_state
          case measure => simp [intOf]; omega
      · have hi64 : i = 64 := by omega
        subst hi64
        rw [List.take_of_length_le (by omega), HXE.out] at hown
        go_wp2_with fail
        go_ret
        exact ⟨_, rfl, hown.rebase b5.size, b5.trans (hbr.mono b5.size)⟩
  · have HKS : Hid (K = k) := Lib.hid (by rw [HK0.out]; unfold keyOf64; rw [if_neg hlong])
    have HK : Hid (∀ wy, Below w.heap.size w wy → SB wy w.heap.size (.slice A k.length c) K) := Lib.hid (fun wy h => by
      rw [HKS.out]
      exact hv.below h)
    have HNK : Hid (k.length = K.length) := Lib.hid (by rw [HKS.out])
    obtain ⟨w5, hw5⟩ : ∃ w5, w5 = w := ⟨_, rfl⟩
    have b5 : Below w.heap.size w w5 := by rw [hw5]; exact bself w
    subst hw5
    clear hv
    have HX : Hid (∀ i (hi : i < 64), (xorL y (padK k))[i]? = some (if h : i < K.length then xor8 y (K[i]'h) else y)) := Lib.hid (fun i hi => by rw [mix_at y k i hi]; congr 1; have hK := HK0.out; subst hK; rfl)
    have lX : (xorL y (padK k)).length = 64 := by rw [xorL_length, padK_length]
    obtain ⟨X, hXe⟩ : ∃ X, X = xorL y (padK k) := ⟨_, rfl⟩
    rw [← hXe] at HX lX
    have HXE := Lib.hid hXe
    clear hXe
    go_wp2_with fail
    go_loopw [7, 8] (fun ov iv wy => ∃ i : Nat, iv = .int .i64 i ∧ i ≤ 64 ∧ OB wy w5.heap.size ov (X.take i) ∧ Below w5.heap.size w5 wy) (fun _ iv _ => 64 - (intOf iv).toNat)
    case atStart => exact ⟨0, rfl, by omega, OB.nil_ _ _, bself w5⟩
    case round =>
      obtain ⟨i, rfl, hi, hown, hbr⟩ := hrel
      have hzr := hbr.size
      by_cases hlt : i < 64
      · have hXi := HX.out i hlt
        have hL : (X.take i).length + 1 ≤ 140737488355328 := by rw [List.length_take]; omega
        by_cases hik : i < k.length
        · have hiK : i < K.length := by have := HNK.out; omega
          have hsb := HK.out wr hbr
          obtain ⟨A9, c9, e9, _, _, hr9⟩ := id hsb
          injection e9 with e91 e92 e93
          clear e92 e93
          obtain ⟨b9, o9, hA9, _, _⟩ := hr9.at_ (by omega)
          rw [← e91] at hA9
          subst hA9
          clear hsb hr9 e91
          have hKC : wr.cell? ⟨b9, o9 + i, none⟩ = some (.int .u8 ((K[i]'hiK).toNat : Int)) := by
            have := SB.cellAt (HK.out wr hbr) hiK
            exact this
          rw [dif_pos hiK] at hXi
          generalize K[i]'hiK = q at hKC hXi
          have x1 : bits .xor .u8 (q.toNat : Int) (y.toNat : Int) = ((xor8 y q).toNat : Int) := by rw [X_xor, xor8_comm]
          generalize xor8 y q = z8 at hXi x1
          have HAPP : Hid (X.take i ++ [z8] = X.take (i + 1)) := Lib.hid (by rw [List.take_add_one, hXi]; rfl)
          generalize X.take i = L at hown hL HAPP
          clear hXi
          go_wp2_with (at_builtin; go_loud (refine wl_app1 rfl (.tmp 29) (.tmp 33) rfl w5.heap.size _ L rfl hown _ z8 rfl rfl rfl hL hzr ?_); intro v7 w7 hown7 hg7 ho7 hb7; rw [HAPP.out] at hown7; have b7 := hbr.trans hb7)
          go_roundw
          case rel => first | exact ⟨i + 1, by go_num, by omega, hown7, b7⟩ | ((repeat apply Exists.intro); exact ⟨⟨i + 1, by go_num, by omega, hown7, b7⟩, rfl⟩) | trace_state
          case measure => simp [intOf]; omega
        · have hiK : ¬ i < K.length := by have := HNK.out; omega
          rw [dif_neg hiK] at hXi
          have x1 : bits .xor .u8 0 (y.toNat : Int) = (y.toNat : Int) := by
            have h := X_xor 0 y
            rw [show xor8 0 y = y from by unfold xor8; simp] at h
            exact h
          have HAPP : Hid (X.take i ++ [y] = X.take (i + 1)) := Lib.hid (by rw [List.take_add_one, hXi]; rfl)
          generalize X.take i = L at hown hL HAPP
          clear hXi
          go_wp2_with (at_builtin; go_loud (refine wl_app1 rfl (.tmp 29) (.tmp 33) rfl w5.heap.size _ L rfl hown _ y rfl rfl rfl hL hzr ?_); intro v7 w7 hown7 hg7 ho7 hb7; rw [HAPP.out] at hown7; have b7 := hbr.trans hb7)
          go_roundw
          case rel => first | exact ⟨i + 1, by go_num, by omega, hown7, b7⟩ | ((repeat apply Exists.intro); exact ⟨⟨i + 1, by go_num, by omega, hown7, b7⟩, rfl⟩) | trace_state
          case measure => simp [intOf]; omega
      · have hi64 : i = 64 := by omega
        subst hi64
        rw [List.take_of_length_le (by omega), HXE.out] at hown
        go_wp2_with fail
        go_ret
        exact ⟨_, rfl, hown.rebase b5.size, b5.trans (hbr.mono b5.size)⟩
end Go.Proofs.YtjkcdnangmjoeaaDoor
