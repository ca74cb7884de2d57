/-
  What is proved here: what Extract of package mac and MacSums of tantaluslaw04 come to, at this seat's numbers. Conditions: the lengths; the tables of constants.
-/
import Derived.Test.YtjkcdnangmjoeaaDoorMacRefW2
namespace Go.Proofs.YtjkcdnangmjoeaaDoor
open Go.RowKit

set_option maxRecDepth 100000 in
set_option maxHeartbeats 2000000 in
theorem kExtract_any (key b : List UInt8) (d : Array Value) (hd : dgA (macOf key b) = d) (v u : Value) (w : World) (hv : SB w w.heap.size v key) (hu : SB w w.heap.size u b) (hl : key.length ≤ 1152921504606846000) (hl2 : b.length ≤ 1152921504606845000) (hk : KTab w 1) (h1 : 1 < w.heap.size) :
    Calls Tryd.prog 24 #[v, u] w fun e w' => e = .returned (.agg d) ∧ Below w.heap.size w w' := by
  have HN : Hid (d.size = 32 ∧ ∀ v ∈ d.toList, v.oneCell' = true) := Lib.hid (by rw [← hd]; exact ⟨by rw [dgA_size, macOf_length], dgA_one _⟩)
  have HD := Lib.hid hd
  clear hd
  obtain ⟨A2, c2, rfl, _, _, _⟩ := id hu
  go_enter Tryd.func24, Tryd.ntmps24
  go_upto_region 1 with fail
  generalize hWA : w.alloc _ = wA
  have rR : wA.heap[w.heap.size]? = some (rowO (dgA (List.replicate 32 0))) := by rw [← hWA]; exact (heap_alloc_new w _).trans (by kernel_rfl)
  have bA : Below w.heap.size w wA := by rw [← hWA]; exact balloc (bself w) _
  have zA : w.heap.size < wA.heap.size := by rw [← hWA]; simp
  clear hWA
  have hL : LL (wA.alloc (.cells #[.slice A2 b.length c2] 40)) _ (.slice (some ⟨wA.heap.size, 0, none⟩) 1 1) [b] := LL.one 40 rfl ((hu.below bA).more (by omega))
  have bB := balloc bA (.cells #[.slice A2 b.length c2] 40)
  have HM := Lib.hid (kMacC key [b] d (by rw [flat1]; exact HD.out) v _ _ ((hv.below bB).more (by rw [World.size_alloc]; omega)) hL hl (by rw [flat1]; exact hl2) (hk.on bB h1) (by rw [World.size_alloc]; omega))
  have HR : Hid (∀ w', Below (wA.alloc (.cells #[.slice A2 b.length c2] 40)).heap.size (wA.alloc (.cells #[.slice A2 b.length c2] 40)) w' → w'.heap[w.heap.size]? = some (rowO (dgA (List.replicate 32 0))) ∧ (w'.setRow w.heap.size d).heap[w.heap.size]? = some (rowO d) ∧ Below w.heap.size w (w'.setRow w.heap.size d)) := Lib.hid (fun w' h => by
    have h2 : Below wA.heap.size wA w' := bstep (balloc (bself wA) _) h
    have h3 := (h2.block w.heap.size (by omega)).trans rR
    exact ⟨h3, setRow_heap _ _ _ _ _ _ h3, below_setRow (bA.trans (h2.mono bA.size)) (Nat.le_refl _) _⟩)
  have HZ : Hid ((dgA (List.replicate 32 0)).size = 32) := Lib.hid (by rw [dgA_size]; rfl)
  clear hL bB rR bA hv hu
  go_wp2_with fail
  refine HM.out.mono ?_
  rintro e w7 ⟨rfl, hb7⟩
  have h7 := Lib.hid (HR.out w7 hb7)
  clear HM HR hb7
  go_wp2_with (refine wl_storeD rfl (.tmp 4) (.tmp 8) rfl _ rfl _ d rfl h7.out.1 HZ.out HN.out.1 HN.out.2 ?_)
  exact bodyPost_ret (v := .agg d) (res_dig Tryd.results24 _ _ _ d rfl h7.out.2.1 HN.out.1) rfl ⟨rfl, h7.out.2.2⟩

theorem exec_loadD' {o : Oper} {a : Act} {w : World} (x : Operand) (ho : o.op = .load 23 x) (g : Nat) (hx : a.eval x = .pointer (some ⟨g, 0, none⟩)) (cs : Array Value) (hg : w.heap[g]? = some (rowO cs)) (hn : cs.size = 32) :
    (execOp a.eval o).run Tryd.prog w = .ok (.value (.agg cs)) w := by
  unfold execOp
  simp only [ho, hx, Instr.loadAt, Instr.sureAddr, Sem.run_bind, Sem.run_pure, Result.andThen_ok, run_loadVar_row w g 23 23 cs (0, 0) _ hg Tryd.underlying23 rfl (by rw [hn]; kernel_rfl)]
theorem LL3 {w : World} {x y z : Value} {a b c : List UInt8} {g : Nat} (t : TypeId) (hg : g = w.heap.size) (hx : SB w w.heap.size x a) (hy : SB w w.heap.size y b) (hz : SB w w.heap.size z c) : LL (w.alloc (.cells #[x, y, z] t)) (w.alloc (.cells #[x, y, z] t)).heap.size (.slice (some ⟨g, 0, none⟩) 3 3) [a, b, c] :=
  LL.new [x, y, z] [a, b, c] t hg rfl rfl (by simp [maxLen]) (fun i u l h1 h2 => by
    rcases i with _ | _ | _ | i
    · simp at h1 h2; subst h1; subst h2; exact hx
    · simp at h1 h2; subst h1; subst h2; exact hy
    · simp at h1 h2; subst h1; subst h2; exact hz
    · simp at h1)
theorem flat3 (a b c : List UInt8) : [a, b, c].flatten = a ++ (b ++ c) := by simp
end Go.Proofs.YtjkcdnangmjoeaaDoor
