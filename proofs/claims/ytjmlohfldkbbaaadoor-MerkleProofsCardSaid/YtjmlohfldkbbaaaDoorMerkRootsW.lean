/-
  What is proved here: what MerkleRoots and MerkleProofs of tantaluslaw11 come to, at this seat's numbers. Conditions: the lengths; the tables of constants.
-/
import Derived.Test.YtjmlohfldkbbaaaDoorMerkShown
import Derived.Test.YtjmlohfldkbbaaaDoorMerkRefP
namespace Go.Proofs.YtjmlohfldkbbaaaDoor
open Go.RowKit

theorem same_self (a : List Dg) (v u : Value) (w : World) (B : Nat) (hv : SD w B v a) (hu : SD w B u a) (hB : B ≤ w.heap.size) : Calls Tryd.prog 13 #[v, u] w fun e w' => e = .returned (.bool true) ∧ Below w.heap.size w w' := by
  have h := same_any a a v u w B hv hu hB
  rw [show decide (a = a) = true by simp] at h
  exact h
set_option maxRecDepth 100000 in
set_option maxHeartbeats 1000000 in
theorem merkleRoots_any (l : List Dg) (b : List UInt8) (v u : Value) (W : World) (hv : SD W W.heap.size v l) (hu : SB W W.heap.size u b) (hl2 : b.length ≤ 140737488351232) (hk : KTab W 1) (h1 : 1 < W.heap.size) (hk0 : KTab W 0) (h0 : 0 < W.heap.size) :
    Calls Tryd.prog 8 #[v, u] W fun e W' => e = .returned (.bool true) ∧ Below W.heap.size W W' := by
  have hm : (l.take 2000).length ≤ 2000 := by rw [List.length_take]; omega
  obtain ⟨c, hc⟩ : ∃ c, dgA (rootR jnD zD (l.take 2000)).1 = c := ⟨_, rfl⟩
  obtain ⟨cf, hcf⟩ : ∃ cf, dgA (leafD b).1 = cf := ⟨_, rfl⟩
  have hEq1 : ∀ w', (Op.equalIn 10000 31 (.agg c) (.agg c)).run Tryd.prog w' = .ok true w' := fun w' => run_eqC w' c _ (rootR jnD zD (l.take 2000)).2 hc
  have hEq2 : ∀ w', (Op.equalIn 10000 31 (.agg cf) (.agg cf)).run Tryd.prog w' = .ok true w' := fun w' => run_eqC w' cf _ (leafD b).2 hcf
  have HC := Lib.hid hc
  have HCF := Lib.hid hcf
  clear hc hcf
  go_enter Tryd.func8, Tryd.ntmps8
  go_wp2_with fail
  refine (shown11_any _ hk h1).mono ?_
  rintro e w1 ⟨rfl, hb1⟩
  have z1 := hb1.size
  go_wp2_with fail
  refine (few_any l v w1 _ (hv.on hb1)).mono ?_
  rintro e w2 ⟨rfl, u2, rfl, hs2⟩
  have HR := Lib.hid (kRoot_any (l.take 2000) hm u2 c HC.out w2 hs2 (hk.on hb1 h1) (by omega))
  go_wp2_with fail
  refine HR.out.mono ?_
  rintro e w3 ⟨rfl, hb3⟩
  have b3 := bstep hb1 hb3
  have z3 := b3.size
  go_wp2_with fail
  refine (few_any l v w3 _ (hv.on b3)).mono ?_
  rintro e w4 ⟨rfl, u4, rfl, hs4⟩
  have HR2 := Lib.hid (rRoot_any (l.take 2000) hm u4 c HC.out w4 hs4 (hk0.on0 b3 h0) (by omega))
  go_wp2_with fail
  refine HR2.out.mono ?_
  rintro e w5 ⟨rfl, hb5⟩
  have b5 := bstep b3 hb5
  have z5 := b5.size
  have HL1 := Lib.hid (kLeaf_any b cf HCF.out u w5 (hu.on b5) (by omega) (hk.on b5 h1) (by omega))
  clear HR HR2
  go_wp2_with fail
  refine HL1.out.mono ?_
  rintro e w6 ⟨rfl, hb6⟩
  have b6 := bstep b5 hb6
  have z6 := b6.size
  have HL2 := Lib.hid (rLeaf_any b cf HCF.out u w6 (hu.on b6) (by omega) (hk0.on0 b6 h0) (by omega))
  go_wp2_with fail
  refine HL2.out.mono ?_
  rintro e w7 ⟨rfl, hb7⟩
  go_wp2_with fail
  go_ret
  exact ⟨rfl, bstep b6 hb7⟩
set_option maxRecDepth 100000 in
set_option maxHeartbeats 1000000 in
theorem merkleProofs_any (l : List Dg) (m : Int) (v : Value) (W : World) (hv : SD W W.heap.size v l) (hk : KTab W 1) (h1 : 1 < W.heap.size) (hk0 : KTab W 0) (h0 : 0 < W.heap.size) :
    Calls Tryd.prog 3 #[v, .int .i64 m] W fun e W' => e = .returned (.bool true) ∧ Below W.heap.size W W' := by
  have hm : (l.take 2000).length ≤ 2000 := by rw [List.length_take]; omega
  go_enter Tryd.func3, Tryd.ntmps3
  go_wp2_with fail
  refine (few_any l v W _ hv).mono ?_
  rintro e w1 ⟨rfl, u1, rfl, hs1⟩
  by_cases hbad : m < 0 ∨ ((l.take 2000).length : Int) ≤ m
  · go_wp2_with fail
    refine (kProof_bad (l.take 2000) u1 m hbad w1 _ hs1).mono ?_
    rintro e w2 ⟨rfl, rfl⟩
    go_wp2_with fail
    refine (few_any l v w2 _ hv).mono ?_
    rintro e w3 ⟨rfl, u3, rfl, hs3⟩
    go_wp2_with fail
    refine (rProof_bad (l.take 2000) u3 m hbad w3 _ hs3).mono ?_
    rintro e w4 ⟨rfl, rfl⟩
    go_wp2_with fail
    refine (shown11_any _ hk h1).mono ?_
    rintro e w5 ⟨rfl, hb5⟩
    have HS := Lib.hid (same_self [] (.slice none 0 0) (.slice none 0 0) w5 0 (SD.nil_ _ _) (SD.nil_ _ _) (Nat.zero_le _))
    go_wp2_with fail
    refine HS.out.mono ?_
    rintro e w6 ⟨rfl, hb6⟩
    go_wp2_with fail
    go_ret
    exact ⟨rfl, bstep hb5 hb6⟩
  · obtain ⟨i, rfl⟩ : ∃ i : Nat, m = (i : Int) := ⟨m.toNat, by omega⟩
    have hi : i < (l.take 2000).length := by omega
    have HP := Lib.hid (kProof_any (l.take 2000) hm i hi u1 w1 hs1 hk h1)
    obtain ⟨P, hP⟩ : ∃ P, P = proofR jnD zD (l.take 2000) i := ⟨_, rfl⟩
    rw [← hP] at HP
    go_wp2_with fail
    refine HP.out.mono ?_
    rintro e w2 ⟨u2, rfl, hs2, hb2⟩
    have z2 := hb2.size
    go_wp2_with fail
    refine (few_any l v w2 _ (hv.on hb2)).mono ?_
    rintro e w3 ⟨rfl, u3, rfl, hs3⟩
    have HQ := Lib.hid (rProof_any (l.take 2000) hm i hi u3 w3 hs3 (hk0.on0 hb2 h0) (by omega))
    rw [← hP] at HQ
    clear hP
    go_wp2_with fail
    refine HQ.out.mono ?_
    rintro e w4 ⟨u4, rfl, hs4, hb4⟩
    have b4 := bstep hb2 hb4
    have z4 := b4.size
    go_wp2_with fail
    refine (shown11_any _ (hk.on b4 h1) (by omega)).mono ?_
    rintro e w5 ⟨rfl, hb5⟩
    have HS := Lib.hid (same_self P u2 u4 w5 _ (hs2.on (hb4.trans (hb5.mono hb4.size))) (hs4.on hb5) (Nat.le_refl _))
    go_wp2_with fail
    refine HS.out.mono ?_
    rintro e w6 ⟨rfl, hb6⟩
    go_wp2_with fail
    go_ret
    exact ⟨rfl, bstep (bstep b4 hb5) hb6⟩
end Go.Proofs.YtjmlohfldkbbaaaDoor
