/-
  What is proved here: what Expand of package mac comes to at a number below 0; what shown of tantaluslaw04 comes to, at this seat's numbers. Condition: the table of constants.
-/
import Derived.Test.YtjkcdnangmjoeaaDoorMacW3
import Derived.Lib.SmallJoins
namespace Go.Proofs.YtjkcdnangmjoeaaDoor
open Go.RowKit

theorem kExpand_neg (v u : Value) (w : World) : Calls Tryd.prog 25 #[v, u, .int .i64 (-1)] w fun e w' => e = .returned (.tuple #[.slice none 0 0, .int .i64 4]) ∧ w' = w := by
  go_enter Tryd.func25, Tryd.ntmps25
  go_wp2_with fail
  exact bodyPost_ret (v := .tuple #[.slice none 0 0, .int .i64 4]) (by simp [results, Tryd.results25, go_sem]) rfl ⟨rfl, rfl⟩
theorem kMacC (key : List UInt8) (ls : List (List UInt8)) (d : Array Value) (hd : dgA (macOf key ls.flatten) = d) (v u : Value) (w : World) (hv : SB w w.heap.size v key) (hu : LL w w.heap.size u ls) (hl : key.length ≤ 1152921504606846000) (hl2 : ls.flatten.length ≤ 1152921504606845000) (hk : KTab w 1) (h1 : 1 < w.heap.size) :
    Calls Tryd.prog 31 #[v, u] w fun e w' => e = .returned (.agg d) ∧ Below w.heap.size w w' := by subst hd; exact kMac_any key ls v u w hv hu hl hl2 hk h1
theorem SB.head8 {w : World} {g B : Nat} {l : List UInt8} {c : Array Value} (h : w.heap[g]? = some (rowO c)) (hl : l.length = 32) (hc : dgA l = c) (hB : g < B) : SB w B (.slice (some ⟨g, 0, none⟩) 8 32) (l.take 8) := by
  have h1 : SB w B (.slice (some ⟨g, 0, none⟩) 32 32) l := SB.cells h (by rw [← hc]) hl.symm hB (by rw [hl]; simp [maxLen])
  unfold SB at h1
  rw [hl] at h1
  have h2 := Sl.take h1 (k := 8) (by omega) rfl
  unfold SB
  rw [List.length_take, hl, bv_take]
  exact h2
end Go.Proofs.YtjkcdnangmjoeaaDoor
