/-
  What is proved here: what Expand of package mac comes to at a number below 0; what shown of tantaluslaw04 comes to, at this seat's numbers. Condition: the table of constants.
-/
import Derived.Test.YtlkogeccmcmilaaDoorMacW3
import Derived.Lib.SmallJoins
namespace Go.Proofs.YtlkogeccmcmilaaDoor
open Go.RowKit

theorem kExpand_neg (v u : Value) (w : World) : Calls Tryd.prog 10 #[v, u, .int .i64 (-1)] w fun e w' => e = .returned (.tuple #[.slice none 0 0, .int .i64 4]) ∧ w' = w := by
  go_enter Tryd.func10, Tryd.ntmps10
  go_wp2_with fail
  exact bodyPost_ret (v := .tuple #[.slice none 0 0, .int .i64 4]) (by simp [results, Tryd.results10, go_sem]) rfl ⟨rfl, rfl⟩
theorem kMacC (key : List UInt8) (ls : List (List UInt8)) (d : Array Value) (hd : dgA (macOf key ls.flatten) = d) (v u : Value) (w : World) (hv : SB w w.heap.size v key) (hu : LL w w.heap.size u ls) (hl : key.length ≤ 1152921504606846000) (hl2 : ls.flatten.length ≤ 1152921504606845000) (hk : KTab w 0) (h1 : 0 < w.heap.size) :
    Calls Tryd.prog 16 #[v, u] w fun e w' => e = .returned (.agg d) ∧ Below w.heap.size w w' := by subst hd; exact kMac_any key ls v u w hv hu hl hl2 hk h1
theorem SB.head8 {w : World} {g B : Nat} {l : List UInt8} {c : Array Value} (h : w.heap[g]? = some (rowO c)) (hl : l.length = 32) (hc : dgA l = c) (hB : g < B) : SB w B (.slice (some ⟨g, 0, none⟩) 8 32) (l.take 8) := by
  have h1 : SB w B (.slice (some ⟨g, 0, none⟩) 32 32) l := SB.cells h (by rw [← hc]) hl.symm hB (by rw [hl]; simp [maxLen])
  unfold SB at h1
  rw [hl] at h1
  have h2 := Sl.take h1 (k := 8) (by omega) rfl
  unfold SB
  rw [List.length_take, hl, bv_take]
  exact h2
set_option maxRecDepth 100000 in
set_option maxHeartbeats 2000000 in
theorem shown4_any (w : World) (hk : KTab w 0) (h1 : 0 < w.heap.size) : Calls Tryd.prog 12 #[] w fun e w' => e = .returned (.bool true) ∧ Below w.heap.size w w' := by
  obtain ⟨c1, hc1⟩ : ∃ c1, dgA (macOf [107, 101, 121] [[84, 104, 101, 32, 113, 117, 105, 99, 107, 32, 98, 114, 111, 119, 110, 32, 102, 111, 120, 32, 106, 117, 109, 112, 115, 32], [111, 118, 101, 114, 32, 116, 104, 101, 32, 108, 97, 122, 121, 32, 100, 111, 103]].flatten) = c1 := ⟨_, rfl⟩
  have HC1 := Lib.hid hc1
  clear hc1
  go_enter Tryd.func12, Tryd.ntmps12
  have x1 : (convert 22 22 (.slice (some ⟨w.heap.size, 0, none⟩) 3 3)).run Tryd.prog (w.alloc (.cells #[.int .u8 107, .int .u8 101, .int .u8 121] 5)) = .ok (.slice (some ⟨w.heap.size, 0, none⟩) 3 3) (w.alloc (.cells #[.int .u8 107, .int .u8 101, .int .u8 121] 5 (3, 4))) := Joins.run_convert_bytes_const_at w 22 5 _ 3 3 _ rfl Tryd.underlying22 Tryd.underlying5
  have x2 : (convert 22 22 (.slice (some ⟨w.heap.size + 1, 0, none⟩) 26 26)).run Tryd.prog ((w.alloc (.cells #[.int .u8 107, .int .u8 101, .int .u8 121] 5 (3, 4))).alloc (.cells #[.int .u8 84, .int .u8 104, .int .u8 101, .int .u8 32, .int .u8 113, .int .u8 117, .int .u8 105, .int .u8 99, .int .u8 107, .int .u8 32, .int .u8 98, .int .u8 114, .int .u8 111, .int .u8 119, .int .u8 110, .int .u8 32, .int .u8 102, .int .u8 111, .int .u8 120, .int .u8 32, .int .u8 106, .int .u8 117, .int .u8 109, .int .u8 112, .int .u8 115, .int .u8 32] 5)) = .ok (.slice (some ⟨w.heap.size + 1, 0, none⟩) 26 26) ((w.alloc (.cells #[.int .u8 107, .int .u8 101, .int .u8 121] 5 (3, 4))).alloc (.cells #[.int .u8 84, .int .u8 104, .int .u8 101, .int .u8 32, .int .u8 113, .int .u8 117, .int .u8 105, .int .u8 99, .int .u8 107, .int .u8 32, .int .u8 98, .int .u8 114, .int .u8 111, .int .u8 119, .int .u8 110, .int .u8 32, .int .u8 102, .int .u8 111, .int .u8 120, .int .u8 32, .int .u8 106, .int .u8 117, .int .u8 109, .int .u8 112, .int .u8 115, .int .u8 32] 5 (26, 27))) := Joins.run_convert_bytes_const_at _ 22 5 _ 26 26 _ (by simp) Tryd.underlying22 Tryd.underlying5
  have x3 : (convert 22 22 (.slice (some ⟨w.heap.size + 1 + 1, 0, none⟩) 17 17)).run Tryd.prog (((w.alloc (.cells #[.int .u8 107, .int .u8 101, .int .u8 121] 5 (3, 4))).alloc (.cells #[.int .u8 84, .int .u8 104, .int .u8 101, .int .u8 32, .int .u8 113, .int .u8 117, .int .u8 105, .int .u8 99, .int .u8 107, .int .u8 32, .int .u8 98, .int .u8 114, .int .u8 111, .int .u8 119, .int .u8 110, .int .u8 32, .int .u8 102, .int .u8 111, .int .u8 120, .int .u8 32, .int .u8 106, .int .u8 117, .int .u8 109, .int .u8 112, .int .u8 115, .int .u8 32] 5 (26, 27))).alloc (.cells #[.int .u8 111, .int .u8 118, .int .u8 101, .int .u8 114, .int .u8 32, .int .u8 116, .int .u8 104, .int .u8 101, .int .u8 32, .int .u8 108, .int .u8 97, .int .u8 122, .int .u8 121, .int .u8 32, .int .u8 100, .int .u8 111, .int .u8 103] 5)) = .ok (.slice (some ⟨w.heap.size + 1 + 1, 0, none⟩) 17 17) (((w.alloc (.cells #[.int .u8 107, .int .u8 101, .int .u8 121] 5 (3, 4))).alloc (.cells #[.int .u8 84, .int .u8 104, .int .u8 101, .int .u8 32, .int .u8 113, .int .u8 117, .int .u8 105, .int .u8 99, .int .u8 107, .int .u8 32, .int .u8 98, .int .u8 114, .int .u8 111, .int .u8 119, .int .u8 110, .int .u8 32, .int .u8 102, .int .u8 111, .int .u8 120, .int .u8 32, .int .u8 106, .int .u8 117, .int .u8 109, .int .u8 112, .int .u8 115, .int .u8 32] 5 (26, 27))).alloc (.cells #[.int .u8 111, .int .u8 118, .int .u8 101, .int .u8 114, .int .u8 32, .int .u8 116, .int .u8 104, .int .u8 101, .int .u8 32, .int .u8 108, .int .u8 97, .int .u8 122, .int .u8 121, .int .u8 32, .int .u8 100, .int .u8 111, .int .u8 103] 5 (17, 18))) := Joins.run_convert_bytes_const_at _ 22 5 _ 17 17 _ (by simp) Tryd.underlying22 Tryd.underlying5
  go_wp2_with fail
  have r1 : (((w.alloc (.cells #[.int .u8 107, .int .u8 101, .int .u8 121] 5 (3, 4))).alloc (.cells #[.int .u8 84, .int .u8 104, .int .u8 101, .int .u8 32, .int .u8 113, .int .u8 117, .int .u8 105, .int .u8 99, .int .u8 107, .int .u8 32, .int .u8 98, .int .u8 114, .int .u8 111, .int .u8 119, .int .u8 110, .int .u8 32, .int .u8 102, .int .u8 111, .int .u8 120, .int .u8 32, .int .u8 106, .int .u8 117, .int .u8 109, .int .u8 112, .int .u8 115, .int .u8 32] 5 (26, 27))).alloc (.cells #[.int .u8 111, .int .u8 118, .int .u8 101, .int .u8 114, .int .u8 32, .int .u8 116, .int .u8 104, .int .u8 101, .int .u8 32, .int .u8 108, .int .u8 97, .int .u8 122, .int .u8 121, .int .u8 32, .int .u8 100, .int .u8 111, .int .u8 103] 5 (17, 18))).heap[w.heap.size]? = some (.cells #[.int .u8 107, .int .u8 101, .int .u8 121] 5 (3, 4)) := (Below.heap_alloc _ _ _ (by simp only [World.size_alloc]; omega)).trans (heap_alloc2_old w _ _)
  have r2 : (((w.alloc (.cells #[.int .u8 107, .int .u8 101, .int .u8 121] 5 (3, 4))).alloc (.cells #[.int .u8 84, .int .u8 104, .int .u8 101, .int .u8 32, .int .u8 113, .int .u8 117, .int .u8 105, .int .u8 99, .int .u8 107, .int .u8 32, .int .u8 98, .int .u8 114, .int .u8 111, .int .u8 119, .int .u8 110, .int .u8 32, .int .u8 102, .int .u8 111, .int .u8 120, .int .u8 32, .int .u8 106, .int .u8 117, .int .u8 109, .int .u8 112, .int .u8 115, .int .u8 32] 5 (26, 27))).alloc (.cells #[.int .u8 111, .int .u8 118, .int .u8 101, .int .u8 114, .int .u8 32, .int .u8 116, .int .u8 104, .int .u8 101, .int .u8 32, .int .u8 108, .int .u8 97, .int .u8 122, .int .u8 121, .int .u8 32, .int .u8 100, .int .u8 111, .int .u8 103] 5 (17, 18))).heap[w.heap.size + 1]? = some (.cells #[.int .u8 84, .int .u8 104, .int .u8 101, .int .u8 32, .int .u8 113, .int .u8 117, .int .u8 105, .int .u8 99, .int .u8 107, .int .u8 32, .int .u8 98, .int .u8 114, .int .u8 111, .int .u8 119, .int .u8 110, .int .u8 32, .int .u8 102, .int .u8 111, .int .u8 120, .int .u8 32, .int .u8 106, .int .u8 117, .int .u8 109, .int .u8 112, .int .u8 115, .int .u8 32] 5 (26, 27)) := (Below.heap_alloc _ _ _ (by simp only [World.size_alloc]; omega)).trans (heap_alloc2_new w _ _)
  have r3 : (((w.alloc (.cells #[.int .u8 107, .int .u8 101, .int .u8 121] 5 (3, 4))).alloc (.cells #[.int .u8 84, .int .u8 104, .int .u8 101, .int .u8 32, .int .u8 113, .int .u8 117, .int .u8 105, .int .u8 99, .int .u8 107, .int .u8 32, .int .u8 98, .int .u8 114, .int .u8 111, .int .u8 119, .int .u8 110, .int .u8 32, .int .u8 102, .int .u8 111, .int .u8 120, .int .u8 32, .int .u8 106, .int .u8 117, .int .u8 109, .int .u8 112, .int .u8 115, .int .u8 32] 5 (26, 27))).alloc (.cells #[.int .u8 111, .int .u8 118, .int .u8 101, .int .u8 114, .int .u8 32, .int .u8 116, .int .u8 104, .int .u8 101, .int .u8 32, .int .u8 108, .int .u8 97, .int .u8 122, .int .u8 121, .int .u8 32, .int .u8 100, .int .u8 111, .int .u8 103] 5 (17, 18))).heap[w.heap.size + 1 + 1]? = some (.cells #[.int .u8 111, .int .u8 118, .int .u8 101, .int .u8 114, .int .u8 32, .int .u8 116, .int .u8 104, .int .u8 101, .int .u8 32, .int .u8 108, .int .u8 97, .int .u8 122, .int .u8 121, .int .u8 32, .int .u8 100, .int .u8 111, .int .u8 103] 5 (17, 18)) := by
    have := heap_alloc_new ((w.alloc (.cells #[.int .u8 107, .int .u8 101, .int .u8 121] 5 (3, 4))).alloc (.cells #[.int .u8 84, .int .u8 104, .int .u8 101, .int .u8 32, .int .u8 113, .int .u8 117, .int .u8 105, .int .u8 99, .int .u8 107, .int .u8 32, .int .u8 98, .int .u8 114, .int .u8 111, .int .u8 119, .int .u8 110, .int .u8 32, .int .u8 102, .int .u8 111, .int .u8 120, .int .u8 32, .int .u8 106, .int .u8 117, .int .u8 109, .int .u8 112, .int .u8 115, .int .u8 32] 5 (26, 27))) (.cells #[.int .u8 111, .int .u8 118, .int .u8 101, .int .u8 114, .int .u8 32, .int .u8 116, .int .u8 104, .int .u8 101, .int .u8 32, .int .u8 108, .int .u8 97, .int .u8 122, .int .u8 121, .int .u8 32, .int .u8 100, .int .u8 111, .int .u8 103] 5 (17, 18))
    simp only [World.size_alloc] at this
    exact this
  have b3 : Below w.heap.size w (((w.alloc (.cells #[.int .u8 107, .int .u8 101, .int .u8 121] 5 (3, 4))).alloc (.cells #[.int .u8 84, .int .u8 104, .int .u8 101, .int .u8 32, .int .u8 113, .int .u8 117, .int .u8 105, .int .u8 99, .int .u8 107, .int .u8 32, .int .u8 98, .int .u8 114, .int .u8 111, .int .u8 119, .int .u8 110, .int .u8 32, .int .u8 102, .int .u8 111, .int .u8 120, .int .u8 32, .int .u8 106, .int .u8 117, .int .u8 109, .int .u8 112, .int .u8 115, .int .u8 32] 5 (26, 27))).alloc (.cells #[.int .u8 111, .int .u8 118, .int .u8 101, .int .u8 114, .int .u8 32, .int .u8 116, .int .u8 104, .int .u8 101, .int .u8 32, .int .u8 108, .int .u8 97, .int .u8 122, .int .u8 121, .int .u8 32, .int .u8 100, .int .u8 111, .int .u8 103] 5 (17, 18))) := balloc (balloc (balloc (bself w) _) _) _
  have z3 : Hid ((((w.alloc (.cells #[.int .u8 107, .int .u8 101, .int .u8 121] 5 (3, 4))).alloc (.cells #[.int .u8 84, .int .u8 104, .int .u8 101, .int .u8 32, .int .u8 113, .int .u8 117, .int .u8 105, .int .u8 99, .int .u8 107, .int .u8 32, .int .u8 98, .int .u8 114, .int .u8 111, .int .u8 119, .int .u8 110, .int .u8 32, .int .u8 102, .int .u8 111, .int .u8 120, .int .u8 32, .int .u8 106, .int .u8 117, .int .u8 109, .int .u8 112, .int .u8 115, .int .u8 32] 5 (26, 27))).alloc (.cells #[.int .u8 111, .int .u8 118, .int .u8 101, .int .u8 114, .int .u8 32, .int .u8 116, .int .u8 104, .int .u8 101, .int .u8 32, .int .u8 108, .int .u8 97, .int .u8 122, .int .u8 121, .int .u8 32, .int .u8 100, .int .u8 111, .int .u8 103] 5 (17, 18))).heap.size = w.heap.size + 1 + 1 + 1) := Lib.hid (by simp only [World.size_alloc])
  clear x1 x2 x3
  generalize (((w.alloc (.cells #[.int .u8 107, .int .u8 101, .int .u8 121] 5 (3, 4))).alloc (.cells #[.int .u8 84, .int .u8 104, .int .u8 101, .int .u8 32, .int .u8 113, .int .u8 117, .int .u8 105, .int .u8 99, .int .u8 107, .int .u8 32, .int .u8 98, .int .u8 114, .int .u8 111, .int .u8 119, .int .u8 110, .int .u8 32, .int .u8 102, .int .u8 111, .int .u8 120, .int .u8 32, .int .u8 106, .int .u8 117, .int .u8 109, .int .u8 112, .int .u8 115, .int .u8 32] 5 (26, 27))).alloc (.cells #[.int .u8 111, .int .u8 118, .int .u8 101, .int .u8 114, .int .u8 32, .int .u8 116, .int .u8 104, .int .u8 101, .int .u8 32, .int .u8 108, .int .u8 97, .int .u8 122, .int .u8 121, .int .u8 32, .int .u8 100, .int .u8 111, .int .u8 103] 5 (17, 18))) = wB at r1 r2 r3 b3 z3 ⊢
  have s1 : SB wB wB.heap.size (.slice (some ⟨w.heap.size, 0, none⟩) 3 3) [107, 101, 121] := SB.cells r1 rfl rfl (by have := z3.out; omega) (by simp [maxLen])
  have s2 : SB wB wB.heap.size (.slice (some ⟨w.heap.size + 1, 0, none⟩) 26 26) [84, 104, 101, 32, 113, 117, 105, 99, 107, 32, 98, 114, 111, 119, 110, 32, 102, 111, 120, 32, 106, 117, 109, 112, 115, 32] := SB.cells r2 rfl rfl (by have := z3.out; omega) (by simp [maxLen])
  have s3 : SB wB wB.heap.size (.slice (some ⟨w.heap.size + 1 + 1, 0, none⟩) 17 17) [111, 118, 101, 114, 32, 116, 104, 101, 32, 108, 97, 122, 121, 32, 100, 111, 103] := SB.cells r3 rfl rfl (by have := z3.out; omega) (by simp [maxLen])
  have hL : LL (wB.alloc (.cells #[.slice (some ⟨w.heap.size + 1, 0, none⟩) 26 26, .slice (some ⟨w.heap.size + 1 + 1, 0, none⟩) 17 17] 22)) _ (.slice (some ⟨w.heap.size + 1 + 1 + 1, 0, none⟩) 2 2) [[84, 104, 101, 32, 113, 117, 105, 99, 107, 32, 98, 114, 111, 119, 110, 32, 102, 111, 120, 32, 106, 117, 109, 112, 115, 32], [111, 118, 101, 114, 32, 116, 104, 101, 32, 108, 97, 122, 121, 32, 100, 111, 103]] :=
    LL.new (w := wB) [.slice (some ⟨w.heap.size + 1, 0, none⟩) 26 26, .slice (some ⟨w.heap.size + 1 + 1, 0, none⟩) 17 17] [[84, 104, 101, 32, 113, 117, 105, 99, 107, 32, 98, 114, 111, 119, 110, 32, 102, 111, 120, 32, 106, 117, 109, 112, 115, 32], [111, 118, 101, 114, 32, 116, 104, 101, 32, 108, 97, 122, 121, 32, 100, 111, 103]] 22 z3.out.symm rfl rfl (by simp [maxLen]) (fun i u l h1 h2 => by
      rcases i with _ | _ | i
      · simp only [List.getElem?_cons_zero, Option.some.injEq] at h1 h2; subst h1; subst h2; exact s2
      · simp only [List.getElem?_cons_succ, List.getElem?_cons_zero, Option.some.injEq] at h1 h2; subst h1; subst h2; exact s3
      · simp at h1)
  have b4 : Below w.heap.size w (wB.alloc (.cells #[.slice (some ⟨w.heap.size + 1, 0, none⟩) 26 26, .slice (some ⟨w.heap.size + 1 + 1, 0, none⟩) 17 17] 22)) := balloc b3 _
  have z4 := World.size_alloc wB (.cells #[.slice (some ⟨w.heap.size + 1, 0, none⟩) 26 26, .slice (some ⟨w.heap.size + 1 + 1, 0, none⟩) 17 17] 22)
  have HM := Lib.hid (kMacC [107, 101, 121] [[84, 104, 101, 32, 113, 117, 105, 99, 107, 32, 98, 114, 111, 119, 110, 32, 102, 111, 120, 32, 106, 117, 109, 112, 115, 32], [111, 118, 101, 114, 32, 116, 104, 101, 32, 108, 97, 122, 121, 32, 100, 111, 103]] c1 HC1.out _ _ _ ((s1.alloc (Nat.le_refl _) _).more (by omega)) hL (by decide) (by decide) (hk.on b4 h1) (by have := b4.size; omega))
  have b4' := Lib.hid b4
  clear s1 s2 s3 hL r1 r2 r3 z3 z4 b4
  refine HM.out.mono ?_
  rintro e w1 ⟨rfl, hb1⟩
  have b1 := bstep b4'.out hb1
  have HN1 : Hid (c1.size = 32 ∧ ∀ v ∈ c1.toList, v.oneCell' = true) := Lib.hid (by rw [← HC1.out]; exact ⟨by rw [dgA_size, macOf_length], dgA_one _⟩)
  clear HM b4' hb1
  go_upto_region 2 with (refine wl_storeD rfl (.tmp 1) (.tmp 11) rfl _ rfl _ c1 rfl (heap_alloc_new w1 _) (by kernel_rfl) HN1.out.1 HN1.out.2 ?_)
  generalize hw2 : World.setRow _ _ _ = w2
  have rD : w2.heap[w1.heap.size]? = some (rowO c1) := by rw [← hw2]; exact setRow_heap _ _ _ _ _ _ (heap_alloc_new w1 _)
  have b12 : Below w1.heap.size w1 w2 := by rw [← hw2]; exact below_setRow (balloc (bself w1) _) (Nat.le_refl _) _
  clear hw2
  have b2 := bstep b1 b12
  go_wp2_with fail
  refine (kExpand_neg _ _ _).mono ?_
  rintro e w3 ⟨rfl, rfl⟩
  have xs1 : (convert 22 9 (.slice (some ⟨w1.heap.size, 0, none⟩) 8 32)).run Tryd.prog w3 = .ok (.string ⟨#[247, 188, 131, 244, 48, 83, 132, 36]⟩) w3 := run_b2s w3 _ (w1.heap.size + 1) [247, 188, 131, 244, 48, 83, 132, 36] (by
    rw [← shown_mac]
    exact SB.head8 rD (macOf_length _ _) HC1.out (by omega))
  have x4 : (convert 22 22 (.slice (some ⟨w3.heap.size, 0, none⟩) 1 1)).run Tryd.prog (w3.alloc (.cells #[.int .u8 97] 5)) = .ok (.slice (some ⟨w3.heap.size, 0, none⟩) 1 1) (w3.alloc (.cells #[.int .u8 97] 5 (1, 2))) := Joins.run_convert_bytes_const_at w3 22 5 _ 1 1 _ rfl Tryd.underlying22 Tryd.underlying5
  have x5 : (convert 22 22 (.slice (some ⟨w3.heap.size + 1, 0, none⟩) 1 1)).run Tryd.prog ((w3.alloc (.cells #[.int .u8 97] 5 (1, 2))).alloc (.cells #[.int .u8 97] 5)) = .ok (.slice (some ⟨w3.heap.size + 1, 0, none⟩) 1 1) ((w3.alloc (.cells #[.int .u8 97] 5 (1, 2))).alloc (.cells #[.int .u8 97] 5 (1, 2))) := Joins.run_convert_bytes_const_at _ 22 5 _ 1 1 _ (by simp) Tryd.underlying22 Tryd.underlying5
  have q1 : SB ((w3.alloc (.cells #[.int .u8 97] 5 (1, 2))).alloc (.cells #[.int .u8 97] 5 (1, 2))) ((w3.alloc (.cells #[.int .u8 97] 5 (1, 2))).alloc (.cells #[.int .u8 97] 5 (1, 2))).heap.size (.slice (some ⟨w3.heap.size, 0, none⟩) 1 1) [97] := SB.cells (heap_alloc2_old w3 _ _) rfl rfl (by simp only [World.size_alloc]; omega) (by simp [maxLen])
  have q2 : SB ((w3.alloc (.cells #[.int .u8 97] 5 (1, 2))).alloc (.cells #[.int .u8 97] 5 (1, 2))) ((w3.alloc (.cells #[.int .u8 97] 5 (1, 2))).alloc (.cells #[.int .u8 97] 5 (1, 2))).heap.size (.slice (some ⟨w3.heap.size + 1, 0, none⟩) 1 1) [97] := SB.cells (heap_alloc2_new w3 _ _) rfl rfl (by simp only [World.size_alloc]; omega) (by simp [maxLen])
  have HQ := Lib.hid (kEqual_any [97] [97] _ _ _ q1 q2)
  have b6 : Below w.heap.size w ((w3.alloc (.cells #[.int .u8 97] 5 (1, 2))).alloc (.cells #[.int .u8 97] 5 (1, 2))) := balloc (balloc b2 _) _
  clear q1 q2 rD
  go_wp2_with fail
  refine HQ.out.mono ?_
  rintro e w7 ⟨rfl, hb7⟩
  have b7 := bstep b6 hb7
  clear x4 x5 xs1 b6 hb7
  go_wp2_with fail
  go_ret
  exact ⟨rfl, b7⟩
end Go.Proofs.YtlkogeccmcmilaaDoor
