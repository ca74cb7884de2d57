/-
  What is proved here: what MacExpands of tantaluslaw04 comes to, at this seat's numbers. Conditions: the lengths; the tables of constants.
-/
import Derived.Test.YtlkogeccmcmilaaDoorMacExpR
namespace Go.Proofs.YtlkogeccmcmilaaDoor
open Go.RowKit

set_option maxRecDepth 100000 in
set_option maxHeartbeats 2000000 in
theorem macExpands_any (a b : List UInt8) (v u : Value) (m : Int) (W : World) (hv : SB W W.heap.size v a) (hu : SB W W.heap.size u b) (hl : a.length ≤ 140737488351232) (hl2 : b.length ≤ 140737488351232) (hk : KTab W 0) (h1 : 0 < W.heap.size) (hk0 : KTab W 1) (h0 : 1 < W.heap.size) :
    Calls Tryd.prog 3 #[v, u, .int .i64 m] W fun e W' => e = .returned (.bool true) ∧ Below W.heap.size W W' := by
  go_enter Tryd.func3, Tryd.ntmps3
  by_cases hm : m < 0 ∨ 8160 < m
  · go_wp2_with fail
    refine (kExpand_bad m hm _ _ W).mono ?_
    rintro e w1 ⟨rfl, rfl⟩
    go_wp2_with fail
    refine (rExpand_bad m hm _ _ w1).mono ?_
    rintro e w2 ⟨rfl, rfl⟩
    go_wp2_with fail
    refine (shown4_any w2 hk h1).mono ?_
    rintro e w3 ⟨rfl, hb3⟩
    have x1 := run_b2s w3 _ _ _ (SB.nil_ w3 0)
    go_wp2_with fail
    go_ret
    exact ⟨rfl, hb3⟩
  · obtain ⟨n, rfl⟩ : ∃ n : Nat, m = (n : Int) := ⟨m.toNat, by omega⟩
    have hn : n ≤ 8160 := by omega
    go_wp2_with fail
    refine (kExpand_any a b n hn _ _ W hv hu (by omega) (by omega) hk h1).mono ?_
    rintro e w1 ⟨g, rfl, hs1, hb1⟩
    have z1 := hb1.size
    go_wp2_with fail
    refine (rExpand_any a b n hn _ _ w1 (hv.on hb1) (hu.on hb1) (by omega) (by omega) (hk0.on0 hb1 h0) (by omega)).mono ?_
    rintro e w2 ⟨A, c, rfl, hs2, hb2⟩
    have b2 := bstep hb1 hb2
    go_wp2_with fail
    refine (shown4_any w2 (hk.on b2 h1) (by have := b2.size; omega)).mono ?_
    rintro e w3 ⟨rfl, hb3⟩
    have x1 := run_b2s w3 _ _ _ (hs1.on (hb2.trans (hb3.mono hb2.size)))
    have x2 := run_b2s w3 _ _ _ (hs2.on hb3)
    go_wp2_with fail
    go_ret
    exact ⟨rfl, bstep b2 hb3⟩
end Go.Proofs.YtlkogeccmcmilaaDoor
