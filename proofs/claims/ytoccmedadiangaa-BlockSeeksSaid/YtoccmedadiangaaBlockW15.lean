/-
  What is proved here: what Seek of package block and of the reference come to, at this seat's numbers. Conditions: the bytes' number.
-/
import Derived.Test.YtoccmedadiangaaBlockW14
import Derived.Test.YtoccmedadiangaaBlockReadsW
namespace Go.Proofs.Ytoccmedadiangaa
open Go.RowKit

/-- the answer of Seek -/
def SeekPost (w : World) (b : List UInt8) (q : Ent) (en : Ending) (w' : World) : Prop :=
  en = .returned (.tuple #[entV ((firstE (readB b).1 q).getD ent0), .bool (firstE (readB b).1 q).isSome, .int .i64 ((readB b).2 : Int)]) ∧ Below w.heap.size w w'
set_option maxRecDepth 100000 in
set_option maxHeartbeats 2000000 in
theorem kSeek_any (v : Value) (b : List UInt8) (user : ByteArray) (seq : UInt64) (w : World) (hv : SB w w.heap.size v b) (hl : b.length ≤ 1073741824) :
    Calls Try.prog 16 #[v, .string user, .int .u64 (seq.toNat : Int)] w (SeekPost w b (keyQ user seq)) := by
  obtain ⟨W0, hW0⟩ : ∃ W0, W0 = ((w.alloc (.cells #[.string user] 9)).alloc (.cells #[.int .u64 (seq.toNat : Int)] 38)).alloc (.cells #[.string ⟨#[]⟩, .int .u64 0, .int .u8 0, .string ⟨#[]⟩] 40) := ⟨_, rfl⟩
  have b0 : Below w.heap.size w W0 := by rw [hW0]; exact balloc (balloc (balloc (bself w) _) _) _
  have q1 : W0.heap[w.heap.size]? = some (.cells #[.string user] 9 (0, 0)) := by
    rw [hW0]
    exact (((balloc (balloc (bself (w.alloc (.cells #[.string user] 9))) _) _).block _ (by simp)).trans (heap_alloc_new w _))
  have q2 : W0.heap[w.heap.size + 1]? = some (.cells #[.int .u64 (seq.toNat : Int)] 38 (0, 0)) := by
    rw [hW0]
    have h := heap_alloc_new (w.alloc (.cells #[.string user] 9)) (.cells #[.int .u64 (seq.toNat : Int)] 38)
    rw [show (w.alloc (.cells #[.string user] 9)).heap.size = w.heap.size + 1 from by simp] at h
    exact (((balloc (bself ((w.alloc (.cells #[.string user] 9)).alloc (.cells #[.int .u64 (seq.toNat : Int)] 38))) _).block _ (by simp)).trans h)
  have q3 : W0.heap[w.heap.size + 2]? = some (.cells #[.string ⟨#[]⟩, .int .u64 0, .int .u8 0, .string ⟨#[]⟩] 40 (0, 0)) := by
    rw [hW0]
    have h := heap_alloc_new ((w.alloc (.cells #[.string user] 9)).alloc (.cells #[.int .u64 (seq.toNat : Int)] 38)) (.cells #[.string ⟨#[]⟩, .int .u64 0, .int .u8 0, .string ⟨#[]⟩] 40)
    rw [show ((w.alloc (.cells #[.string user] 9)).alloc (.cells #[.int .u64 (seq.toNat : Int)] 38)).heap.size = w.heap.size + 2 from by simp] at h
    exact h
  have z0 : W0.heap.size = w.heap.size + 3 := by rw [hW0]; simp
  have hv0 := hv.on b0
  obtain ⟨l, f, hf, hrb⟩ := readB_two b
  have hris := readB_rises b
  unfold SeekPost
  rw [hrb] at hris ⊢
  dsimp only at hris ⊢
  have HR := Lib.hid (kRead_is hv0 hl hrb (f : Int) rfl)
  go_enter Try.func16, Try.ntmps16
  go_wp2_with fail
  rw [← hW0]
  clear hW0
  refine HR.out.mono ?_
  rintro _ w1 ⟨r1, rfl, ho1, hb1⟩
  have b1 := bstep b0 hb1
  obtain ⟨A1, c1, rfl, hc1, hm1, hrd1⟩ := ho1.se
  obtain ⟨W2, hW2⟩ : ∃ W2, W2 = w1.alloc (.cells #[.slice A1 l.length c1] 22) := ⟨_, rfl⟩
  have b12 : Below w1.heap.size w1 W2 := by rw [hW2]; exact balloc (bself w1) _
  have b2 := bstep b1 b12
  have hz1 : W0.heap.size ≤ w1.heap.size := hb1.size
  have p1 := ((bstep hb1 b12).block _ (by omega)).trans q1
  have p2 := ((bstep hb1 b12).block _ (by omega)).trans q2
  have p3 := ((bstep hb1 b12).block _ (by omega)).trans q3
  have p4 : W2.heap[w1.heap.size]? = some (.cells #[.slice A1 l.length c1] 22 (0, 0)) := by rw [hW2]; exact heap_alloc_new w1 _
  have hrd2 := hrd1.below b12
  have hm1' : c1 ≤ 9223372036854775807 := by unfold maxLen at hm1; omega
  clear q1 q2 q3 hrd1 ho1 hb1 b12 HR hv0 hv
  go_upto_region 2 with fail
  rw [← hW2]
  clear hW2
  by_cases hf0 : f = 0
  · subst hf0
    have hlen : l.length ≤ 1048576 := (buildB_ok (readB_ok hrb)).2.2.2.2.2
    have HS := Lib.hid (kSearch_any (.pointer (some ⟨w1.heap.size, 0, none⟩)) (.pointer (some ⟨w.heap.size, 0, none⟩)) (.pointer (some ⟨w.heap.size + 1, 0, none⟩)) l.length (fun i => !aheadE (l.getD i ent0) (keyQ user seq)) W2 (by omega)
      (fun m i hi => kPast_any w1.heap.size w.heap.size (w.heap.size + 1) A1 c1 _ l user seq i (W2.drewN m) hi hc1 hm1 (hrd2.drewN m) (cell_of_row _ _ 0 _ _ _ (show (W2.drewN m).heap[w1.heap.size]? = _ from p4)) (cell_of_row _ _ 0 _ _ _ (show (W2.drewN m).heap[w.heap.size]? = _ from p1)) (cell_of_row _ _ 0 _ _ _ (show (W2.drewN m).heap[w.heap.size + 1]? = _ from p2)))
      (rises_at hris (keyQ user seq)))
    have x4 := cell_of_row _ _ 0 _ _ _ p4
    have x4' : W2.cell? ⟨w1.heap.size, 0, none⟩ = some (.slice A1 l.length c1) := x4
    clear x4 hf
    go_wp2_with fail
    refine HS.out.mono ?_
    rintro _ w3 ⟨h, rfl, hh, HP, q, rfl⟩
    have p3' : (W2.drewN q).heap[w.heap.size + 1 + 1]? = some (.cells #[.string ⟨#[]⟩, .int .u64 0, .int .u8 0, .string ⟨#[]⟩] 40 (0, 0)) := p3
    have y4 : (W2.drewN q).cell? ⟨w1.heap.size, 0, none⟩ = some (.slice A1 l.length c1) := x4'
    have hrd3 := hrd2.drewN q
    have b3 : Below w.heap.size w (W2.drewN q) := bdrewN b2 q
    clear HS p1 p2 p3 p4 x4' hrd2 b2 hrb
    generalize World.drewN W2 q = w3 at p3' y4 hrd3 b3 ⊢
    obtain ⟨⟨x0, x1, x2, x3⟩, y0, y1, y2, y3⟩ := cells4 p3'
    by_cases hlt : h < l.length
    · have HF1 : Hid (firstE l (keyQ user seq) = some l[h]) := Lib.hid (firstE_getD l h _ hlt HP.out.1 (HP.out.2 h (Nat.le_refl _) hlt))
      obtain ⟨b', o, rfl, hb', c0, c1', c2, c3⟩ := hrd3.ent rfl (k := h) hlt
      obtain ⟨x, hx⟩ : ∃ x, x = l[h] := ⟨_, rfl⟩
      rw [← hx] at c0 c1' c2 c3 HF1
      have hne : ((h : Int) == (l.length : Int)) = false := by rw [beq_eq_false_iff_ne]; omega
      clear hx HP hrd3
      go_wp2_with fail
      exact bodyPost_ret (v := .tuple #[.agg #[.string x.user, .int .u64 (x.seq.toNat : Int), .int .u8 (x.kind.toNat : Int), .string x.value], .bool true, .int .i64 0]) (by simp [results, Try.results16, go_sem, x0, x1, x2, x3] <;> rfl) rfl ⟨by rw [HF1.out]; rfl, (((b3.setCell (by show w.heap.size ≤ w.heap.size + 1 + 1; omega) _).setCell (by show w.heap.size ≤ w.heap.size + 1 + 1; omega) _).setCell (by show w.heap.size ≤ w.heap.size + 1 + 1; omega) _).setCell (by show w.heap.size ≤ w.heap.size + 1 + 1; omega) _⟩
    · have hhl : h = l.length := by omega
      subst hhl
      have HF1 := Lib.hid (firstE_none l (keyQ user seq) HP.out.1)
      clear HP
      go_wp2_with fail
      exact bodyPost_ret (v := .tuple #[.agg #[.string ⟨#[]⟩, .int .u64 0, .int .u8 0, .string ⟨#[]⟩], .bool false, .int .i64 0]) (by simp [results, Try.results16, go_sem, x0, x1, x2, x3] <;> rfl) rfl ⟨by rw [HF1.out]; rfl, (((b3.setCell (by show w.heap.size ≤ w.heap.size + 1 + 1; omega) _).setCell (by show w.heap.size ≤ w.heap.size + 1 + 1; omega) _).setCell (by show w.heap.size ≤ w.heap.size + 1 + 1; omega) _).setCell (by show w.heap.size ≤ w.heap.size + 1 + 1; omega) _⟩
  · have hf1 : f = 100 := by omega
    subst hf1
    have hl0 : l = [] := by
      have h1 : (readB b).2 ≠ 0 := by rw [hrb]; intro e; cases e
      have := readB_bad h1
      rw [hrb] at this
      exact congrArg Prod.fst this
    subst hl0
    have p3' : W2.heap[w.heap.size + 1 + 1]? = some (.cells #[.string ⟨#[]⟩, .int .u64 0, .int .u8 0, .string ⟨#[]⟩] 40 (0, 0)) := p3
    obtain ⟨⟨x0, x1, x2, x3⟩, y0, y1, y2, y3⟩ := cells4 p3'
    clear p1 p2 p3 p4 hrd2 hrb p3' hf
    go_wp2_with fail
    exact bodyPost_ret (v := .tuple #[.agg #[.string ⟨#[]⟩, .int .u64 0, .int .u8 0, .string ⟨#[]⟩], .bool false, .int .i64 100]) (by simp [results, Try.results16, go_sem, x0, x1, x2, x3] <;> rfl) rfl ⟨rfl, (((b2.setCell (by show w.heap.size ≤ w.heap.size + 1 + 1; omega) _).setCell (by show w.heap.size ≤ w.heap.size + 1 + 1; omega) _).setCell (by show w.heap.size ≤ w.heap.size + 1 + 1; omega) _).setCell (by show w.heap.size ≤ w.heap.size + 1 + 1; omega) _⟩
end Go.Proofs.Ytoccmedadiangaa
