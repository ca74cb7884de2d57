/-
  What is proved here: what mac.Equal and the reference's Equal come to, at this seat's numbers. No condition.
-/
import Derived.Test.YtjkcdnangmjoeaaDoorShaW2
import Derived.Test.YtjkcdnangmjoeaaDoorMacLaw2
import Derived.BigQuiet
namespace Go.Proofs.YtjkcdnangmjoeaaDoor
open Go.RowKit

theorem bv_at {l : List UInt8} {i : Nat} (h : i < l.length) : (bv l)[i]? = some (.int .u8 ((l[i].toNat : Nat) : Int)) := bv_get l i h
theorem u8_eq0 (q : UInt8) : (((q.toNat : Nat) : Int) == 0) = (q == 0) := by
  rw [Bool.eq_iff_iff, beq_iff_eq, beq_iff_eq, ← UInt8.toNat_inj]
  show ((q.toNat : Int) = 0) ↔ q.toNat = 0
  omega
end Go.Proofs.YtjkcdnangmjoeaaDoor
