/-
  What is proved here: what ikey.Right and the reference's Right come to, at this seat's numbers. Condition: the texts' lengths are ints.
-/
import Derived.Test.YtoccmedadiangaaByte
import Derived.Test.YtoccmedadiangaaEnt
namespace Go.Proofs.Ytoccmedadiangaa
open Go.RowKit

set_option maxHeartbeats 1000000 in
theorem iRight_any (e : Ent) (w : World) (hu : e.user.size ≤ 9223372036854775807) (hv : e.value.size ≤ 9223372036854775807) :
    Calls Try.prog 21 #[entV e] w fun e' w' => e' = .returned (.bool (rightE e)) ∧ Below w.heap.size w w' := by
  have hs := u64_lt e.seq
  have hk := u8_lt e.kind
  go_enter Try.func21, Try.ntmps21
  go_wp2
  all_goals go_ret
  all_goals refine ⟨ret_bool ?_, (Below.refl _ _).alloc (Nat.le_refl _) _⟩
  all_goals first
    | exact (rightE_f1 ‹_›).symm
    | exact (rightE_f2 ‹_›).symm
    | exact (rightE_f3 ‹_›).symm
    | exact (rightE_del ‹_› ‹_› ‹_› ‹_›).symm
    | exact (rightE_put ‹_› ‹_› ‹_› ‹_›).symm

set_option maxHeartbeats 1000000 in
theorem rRight_any (e : Ent) (w : World) (hu : e.user.size ≤ 9223372036854775807) (hv : e.value.size ≤ 9223372036854775807) :
    Calls Try.prog 43 #[entV e] w fun e' w' => e' = .returned (.bool (rightE e)) ∧ Below w.heap.size w w' := by
  have hs := u64_lt e.seq
  have hk := u8_lt e.kind
  go_enter Try.func43, Try.ntmps43
  go_wp2
  all_goals go_ret
  all_goals refine ⟨ret_bool ?_, (Below.refl _ _).alloc (Nat.le_refl _) _⟩
  all_goals first
    | exact (rightE_f1 ‹_›).symm
    | exact (rightE_f2 ‹_›).symm
    | exact (rightE_f3 ‹_›).symm
    | exact (rightE_f4 ‹_›).symm
    | exact (rightE_r1 ‹_› ‹_› ‹_› ‹_›).symm
    | exact (rightE_r2 ‹_› ‹_› ‹_› ‹_› ‹_›).symm
end Go.Proofs.Ytoccmedadiangaa
