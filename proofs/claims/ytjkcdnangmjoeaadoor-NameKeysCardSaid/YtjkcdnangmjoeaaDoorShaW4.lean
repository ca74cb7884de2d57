/-
  What is proved here: what begin, New, Write and Len of package sha come to, at this seat's numbers.
-/
import Derived.Test.YtjkcdnangmjoeaaDoorShaW3
namespace Go.Proofs.YtjkcdnangmjoeaaDoor
open Go.RowKit

theorem keepS {w W' : World} {o : Obj} (h : Below (w.alloc o).heap.size (w.alloc o) W') : W'.heap[w.heap.size]? = some o := (h.block _ (by simp)).trans (heap_alloc_new w o)
abbrev beginV : Value := .agg #[.int .u32 1779033703, .int .u32 3144134277, .int .u32 1013904242, .int .u32 2773480762, .int .u32 1359893119, .int .u32 2600822924, .int .u32 528734635, .int .u32 1541459225, .slice none 0 0, .int .i64 0]
abbrev beginO : Obj := .cells #[.int .u32 1779033703, .int .u32 3144134277, .int .u32 1013904242, .int .u32 2773480762, .int .u32 1359893119, .int .u32 2600822924, .int .u32 528734635, .int .u32 1541459225, .slice none 0 0, .int .i64 0] 80
theorem begin_row : beginO = stObj (wordsOf []) (.slice none 0 0) 0 := by kernel_rfl
theorem St0.at {w : World} {base P : Nat} (h : w.heap[P]? = some beginO) (hb : base ≤ P) : StAt w base P [] := ⟨_, by rw [h, begin_row]; rfl, OB.nil_ _ _, by simp [Value.ownBlock], hb⟩
set_option maxRecDepth 100000 in
set_option maxHeartbeats 1000000 in
theorem kBegin_any (w : World) : Calls Tryd.prog 43 #[] w fun e w' => e = .returned beginV ∧ Below w.heap.size w w' := by
  go_enter Tryd.func43, Tryd.ntmps43
  go_wp2_with fail
  have hr := heap_alloc_new w beginO
  have k : ∀ j, (w.alloc beginO).cell? ⟨w.heap.size, j, none⟩ = _ := fun j => cell_of_row _ _ j _ _ _ hr
  have k0 := k 0
  have k1 := k 1
  have k2 := k 2
  have k3 := k 3
  have k4 := k 4
  have k5 := k 5
  have k6 := k 6
  have k7 := k 7
  have k8 := k 8
  have k9 := k 9
  exact bodyPost_ret (v := beginV) (by simp [results, Tryd.results43, go_sem, k0, k1, k2, k3, k4, k5, k6, k7, k8, k9]) rfl ⟨rfl, balloc (bself w) _⟩
set_option maxRecDepth 100000 in
set_option maxHeartbeats 1000000 in
theorem kNew_any (w : World) : Calls Tryd.prog 37 #[] w fun e w' => ∃ P, e = .returned (.pointer (some ⟨P, 0, none⟩)) ∧ StAt w' w.heap.size P [] ∧ Below w.heap.size w w' := by
  go_enter Tryd.func37, Tryd.ntmps37
  go_wp2_with fail
  refine (kBegin_any _).mono ?_
  rintro e w1 ⟨rfl, hb1⟩
  have hz := hb1.size
  go_wp2_with fail
  go_ret
  exact ⟨_, rfl, St0.at (heap_alloc_new w1 _) hz, balloc hb1 _⟩
theorem kWrite_nil (v : Value) (w : World) : Calls Tryd.prog 38 #[.pointer none, v] w fun e w' => e = .returned (.tuple #[]) ∧ w' = w := by
  go_enter Tryd.func38, Tryd.ntmps38
  go_wp2_with fail
  exact bodyPost_end (v := .tuple #[]) (by simp [results, Tryd.results38, go_sem]) rfl ⟨rfl, rfl⟩
theorem kWrite_any (base P : Nat) (bs x : List UInt8) (v : Value) (w : World) (h : StAt w base P bs) (hv : VS w P v x) (hl : bs.length + x.length ≤ 1152921504606846976) (hk : KTab w 1) (hb1 : 1 < base) (hbase : base ≤ w.heap.size) :
    Calls Tryd.prog 38 #[.pointer (some ⟨P, 0, none⟩), v] w fun e w' => e = .returned (.tuple #[]) ∧ StAt w' base P (bs ++ x) ∧ Off w w' P ∧ (rowP w' P = rowP w P ∨ ∀ g, rowP w' P = some g → w.heap.size ≤ g) ∧ Below base w w' := by
  go_enter Tryd.func38, Tryd.ntmps38
  go_wp2_with fail
  refine (kPut_any base P bs x v w h hv hl hk hb1 hbase).mono ?_
  rintro e w1 ⟨rfl, hpost⟩
  go_wp2_with fail
  exact bodyPost_end (v := .tuple #[]) (by simp [results, Tryd.results38, go_sem]) rfl ⟨rfl, hpost⟩
end Go.Proofs.YtjkcdnangmjoeaaDoor
