/-
  What is proved here: what ShaSums and ShaNil of tantaluslaw03 come to, at this seat's numbers. Conditions: the bytes' length; the tables of constants.
-/
import Derived.Test.YtjkcdnangmjoeaaDoorShaShown
import Derived.Test.YtjkcdnangmjoeaaDoorShaRefW4
namespace Go.Proofs.YtjkcdnangmjoeaaDoor
open Go.RowKit

theorem rSumC (bs : List UInt8) (c : Array Value) (hc : dgA (shaOf bs) = c) (v : Value) (w : World) (hv : SB w w.heap.size v bs) (hl : bs.length ≤ 140737488355000) (hk : KTab w 0) (h0 : 0 < w.heap.size) :
    Calls Tryd.prog 33 #[v] w fun e w' => e = .returned (.agg c) ∧ Below w.heap.size w w' := by subst hc; exact rSum_any bs v w hv hl hk h0
theorem kStSumC (base P : Nat) (bs : List UInt8) (c : Array Value) (hc : dgA (shaOf bs) = c) (w : World) (h : StAt w base P bs) (hl : bs.length ≤ 1152921504606846000) (hk : KTab w 1) (h1 : 1 < w.heap.size) :
    Calls Tryd.prog 39 #[.pointer (some ⟨P, 0, none⟩)] w fun e w' => e = .returned (.agg c) ∧ Below w.heap.size w w' := by subst hc; exact kStSum_any base P bs w h hl hk h1
theorem kStSumN (c : Array Value) (hc : dgA (shaOf []) = c) (w : World) (hk : KTab w 1) (h1 : 1 < w.heap.size) :
    Calls Tryd.prog 39 #[.pointer none] w fun e w' => e = .returned (.agg c) ∧ Below w.heap.size w w' := by subst hc; exact kStSum_nil w hk h1
/-- one slice of bytes, laid just now as a list -/
theorem LL.one {w : World} {v : Value} {b : List UInt8} {g : Nat} (t : TypeId) (hg : g = w.heap.size) (h : SB w w.heap.size v b) : LL (w.alloc (.cells #[v] t)) (w.alloc (.cells #[v] t)).heap.size (.slice (some ⟨g, 0, none⟩) 1 1) [b] :=
  LL.new [v] [b] t hg rfl rfl (by simp [maxLen]) (fun i u l h1 h2 => by
    rcases i with _ | i
    · simp at h1 h2; subst h1; subst h2; exact h
    · simp at h1)
theorem flat1 (b : List UInt8) : [b].flatten = b := by simp
end Go.Proofs.YtjkcdnangmjoeaaDoor
