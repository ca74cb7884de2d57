/-
  What is proved here: what begin, New, Write and Len of package sha come to, at this seat's numbers.
-/
import Derived.Test.YtjmlohfldkbbaaaDoorShaW3
namespace Go.Proofs.YtjmlohfldkbbaaaDoor
open Go.RowKit

theorem keepS {w W' : World} {o : Obj} (h : Below (w.alloc o).heap.size (w.alloc o) W') : W'.heap[w.heap.size]? = some o := (h.block _ (by simp)).trans (heap_alloc_new w o)
abbrev beginV : Value := .agg #[.int .u32 1779033703, .int .u32 3144134277, .int .u32 1013904242, .int .u32 2773480762, .int .u32 1359893119, .int .u32 2600822924, .int .u32 528734635, .int .u32 1541459225, .slice none 0 0, .int .i64 0]
abbrev beginO : Obj := .cells #[.int .u32 1779033703, .int .u32 3144134277, .int .u32 1013904242, .int .u32 2773480762, .int .u32 1359893119, .int .u32 2600822924, .int .u32 528734635, .int .u32 1541459225, .slice none 0 0, .int .i64 0] 56
theorem begin_row : beginO = stObj (wordsOf []) (.slice none 0 0) 0 := by kernel_rfl
theorem St0.at {w : World} {base P : Nat} (h : w.heap[P]? = some beginO) (hb : base ≤ P) : StAt w base P [] := ⟨_, by rw [h, begin_row]; rfl, OB.nil_ _ _, by simp [Value.ownBlock], hb⟩
set_option maxRecDepth 100000 in
set_option maxHeartbeats 1000000 in
theorem kBegin_any (w : World) : Calls Tryd.prog 31 #[] w fun e w' => e = .returned beginV ∧ Below w.heap.size w w' := by
  go_enter Tryd.func31, Tryd.ntmps31
  go_wp2_with fail
  have hr := heap_alloc_new w beginO
  have k : ∀ j, (w.alloc beginO).cell? ⟨w.heap.size, j, none⟩ = _ := fun j => cell_of_row _ _ j _ _ _ hr
  have k0 := k 0
  have k1 := k 1
  have k2 := k 2
  have k3 := k 3
  have k4 := k 4
  have k5 := k 5
  have k6 := k 6
  have k7 := k 7
  have k8 := k 8
  have k9 := k 9
  exact bodyPost_ret (v := beginV) (by simp [results, Tryd.results31, go_sem, k0, k1, k2, k3, k4, k5, k6, k7, k8, k9]) rfl ⟨rfl, balloc (bself w) _⟩
end Go.Proofs.YtjmlohfldkbbaaaDoor
