/-
  What is proved here: what ShaParts of tantaluslaw03 comes to, at this seat's numbers. Conditions: the bytes' length; the table of constants.
-/
import Derived.Test.YthhcoljhfokacaaDoorShaPartsM
namespace Go.Proofs.YthhcoljhfokacaaDoor
open Go.RowKit

theorem shaParts_any (b : List UInt8) (v : Value) (cut : UInt64) (W : World) (hv : SB W W.heap.size v b) (hl : b.length ≤ 140737488351232) (hk1 : KTab W 1) (h1 : 1 < W.heap.size) :
    Calls Tryd.prog 6 #[v, .int .u64 (cut.toNat : Int)] W fun e W' => e = .returned (.bool true) ∧ Below W.heap.size W W' := by
  obtain ⟨A, c0, rfl, hlc, hcm, _⟩ := id hv
  have hcm2 : c0 ≤ 9223372036854775807 := by unfold maxLen at hcm; omega
  by_cases hck : c0 = cut.toNat % (b.length + 1)
  · subst hck
    exact shaParts_end b A _ cut W hv hl hk1 h1 hlc hcm2 rfl
  · exact shaParts_mid b A c0 _ cut W hv hl hk1 h1 hlc hcm2 rfl hck
end Go.Proofs.YthhcoljhfokacaaDoor
