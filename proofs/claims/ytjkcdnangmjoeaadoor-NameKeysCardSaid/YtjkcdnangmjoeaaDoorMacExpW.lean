/-
  What is proved here: what Expand of package mac comes to, at this seat's numbers. Conditions: the lengths; the table of constants.
-/
import Derived.Test.YtjkcdnangmjoeaaDoorMacSumsW
namespace Go.Proofs.YtjkcdnangmjoeaaDoor
open Go.RowKit

theorem mkOut (w : World) (n : Nat) (hn : n ≤ 8160) : ∃ M : Array Value, (Instr.makeSlice 40 (.int .i64 0) (.int .i64 ((n : Int) + 32))).run Tryd.prog w = .ok (.slice (some ⟨w.heap.size, 0, none⟩) 0 (n + 32)) (w.alloc (.cells M 5)) ∧
    OB (w.alloc (.cells M 5)) w.heap.size (.slice (some ⟨w.heap.size, 0, none⟩) 0 (n + 32)) [] := by
  obtain ⟨i0, hi0, hz0, hz1, hz2⟩ := info_parts infoB
  have h := run_make (P := Tryd.prog) w 40 5 i0 _ Tryd.underlying40 hi0 hz0 .i64 .i64 0 ((n : Int) + 32) (by omega) (by omega) (by rw [hz2]; omega) (by omega)
  rw [hz1] at h
  have e : ((n : Int) + 32).toNat = n + 32 := by omega
  rw [e] at h
  refine ⟨_, h, ⟨rfl, .inr ⟨w.heap.size, n + 32, _, rfl, Nat.le_refl _, heap_alloc_new w _, by simp, by simp only [maxLen]; omega, ?_, by simp [bv]⟩⟩⟩
  simp [madeCells]
theorem OB.form0 {w : World} {base : Nat} {v : Value} {l : List UInt8} (h : OB w base v l) (hl : 0 < l.length) : ∃ g c, v = .slice (some ⟨g, 0, none⟩) l.length c := by
  obtain ⟨h1, h2⟩ := h
  rcases h2 with ⟨_, e⟩ | ⟨g', cap, cur, e1, _⟩
  · omega
  · exact ⟨g', cap, e1⟩
theorem kExpand_bad (m : Int) (hm : m < 0 ∨ 8160 < m) (v u : Value) (w : World) : Calls Tryd.prog 25 #[v, u, .int .i64 m] w fun e w' => e = .returned (.tuple #[.slice none 0 0, .int .i64 4]) ∧ w' = w := by
  go_enter Tryd.func25, Tryd.ntmps25
  by_cases h0 : m < 0
  · go_wp2_with fail
    exact bodyPost_ret (v := .tuple #[.slice none 0 0, .int .i64 4]) (by simp [results, Tryd.results25, go_sem]) rfl ⟨rfl, rfl⟩
  · have h8 : 8160 < m := by omega
    go_wp2_with fail
    exact bodyPost_ret (v := .tuple #[.slice none 0 0, .int .i64 4]) (by simp [results, Tryd.results25, go_sem]) rfl ⟨rfl, rfl⟩
set_option maxRecDepth 100000 in
set_option maxHeartbeats 2000000 in
theorem kExpand_at (key use : List UInt8) (n : Nat) (hn : n ≤ 8160) (v u : Value) (w : World) (hv : SB w w.heap.size v key) (hu : SB w w.heap.size u use) (hl : key.length ≤ 140737488354000) (hl2 : use.length ≤ 140737488354000) (hk : KTab w 1) (h1 : 1 < w.heap.size) :
    Calls Tryd.prog 25 #[v, u, .int .i64 (n : Int)] w fun e w' => ∃ g, e = .returned (.tuple #[.slice (some ⟨g, 0, none⟩) n n, .int .i64 0]) ∧ SB w' w'.heap.size (.slice (some ⟨g, 0, none⟩) n n) (expand key use n) ∧ Below w.heap.size w w' ∧ w.heap.size ≤ g := by
  obtain ⟨A, c, rfl, _, _, _⟩ := id hv
  obtain ⟨A2, c2, rfl, _, _, _⟩ := id hu
  have e0 : ¬ (n : Int) < 0 := by omega
  have e8 : ¬ 8160 < (n : Int) := by omega
  obtain ⟨M, hM, own0⟩ := mkOut w n hn
  go_enter Tryd.func25, Tryd.ntmps25
  go_wp2_with fail
  go_loopw [8, 9] (fun ov kv wy => ∃ (i m g c9 : Nat) (kz : Int), kv = .int .u8 kz ∧ ov = .slice (some ⟨g, 0, none⟩) m c9 ∧ Hid (kz = ((i : Int) + 1) % 256) ∧ Hid (m = 32 * i) ∧ i ≤ pieces n ∧ OB wy w.heap.size ov (expAll key use i) ∧ Below w.heap.size w wy) (fun ov _ _ => pieces n * 32 - sliceLenS ov)
  case atStart => exact ⟨0, 0, _, _, 1, rfl, rfl, Lib.hid rfl, Lib.hid rfl, Nat.zero_le _, own0, balloc (bself w) _⟩
  case round =>
    obtain ⟨i, m, g, c9, kz, rfl, rfl, HKZ, HM, hi, hown, hbr⟩ := hrel
    clear own0 hM
    have hzr := hbr.size
    by_cases hlt : m < n
    · have hi2 : i < pieces n := by have := HM.out; unfold pieces; omega
      have hp : pieces n ≤ 255 := by unfold pieces; omega
      obtain ⟨q, hq⟩ : ∃ q, q = UInt8.ofNat (i + 1) := ⟨_, rfl⟩
      have hkz : kz = (q.toNat : Int) := by rw [HKZ.out, hq, UInt8.toNat_ofNat']; omega
      subst hkz
      have HQ := Lib.hid hq
      clear hq
      have hsb := hown.sb
      have hmc : m ≤ c9 := by obtain ⟨A', c', e, h2, _⟩ := hsb; injection e with e1 e2 e3; subst e3; rw [expAll_length, ← HM.out] at h2; exact h2
      have hcm : c9 ≤ 9223372036854775807 := by obtain ⟨A', c', e, _, h2, _⟩ := hsb; injection e with e1 e2 e3; subst e3; unfold maxLen at h2; omega
      have y2 : IntKind.i64.wrap ((m : Int) - 32) = (m : Int) - 32 := IntWalk.i64_in _ (by omega)
      have y4 : (m : Int) ≤ (c9 : Int) := by omega
      obtain ⟨d, hd⟩ : ∃ d, dgA (expT key use (i + 1)) = d := ⟨_, rfl⟩
      have hd2 : dgA (macOf key [expT key use i, use, [q]].flatten) = d := by rw [← hd, flat3, ← List.append_assoc, HQ.out]; rfl
      have HN : Hid (d.size = 32 ∧ ∀ v ∈ d.toList, v.oneCell' = true) := Lib.hid (by rw [← hd]; exact ⟨by rw [dgA_size, expT_length], dgA_one _⟩)
      have HD := Lib.hid hd
      have HCALL : Hid (∀ x, SB wr wr.heap.size x (expT key use i) → Calls Tryd.prog 31 #[.slice A key.length c, .slice (some ⟨wr.heap.size + 1, 0, none⟩) 3 3] ((wr.alloc (.cells #[.int .u8 (q.toNat : Int)] 5)).alloc (.cells #[x, .slice A2 use.length c2, .slice (some ⟨wr.heap.size, 0, none⟩) 1 1] 40)) fun e w' => e = .returned (.agg d) ∧ Below wr.heap.size wr w') := Lib.hid (fun x hx => by
        have b1 := balloc hbr (.cells #[.int .u8 (q.toNat : Int)] 5)
        have b2 := balloc b1 (.cells #[x, .slice A2 use.length c2, .slice (some ⟨wr.heap.size, 0, none⟩) 1 1] 40)
        have bb2 : Below wr.heap.size wr _ := balloc (balloc (bself wr) (.cells #[.int .u8 (q.toNat : Int)] 5)) (.cells #[x, .slice A2 use.length c2, .slice (some ⟨wr.heap.size, 0, none⟩) 1 1] 40)
        have zz : (wr.alloc (.cells #[.int .u8 (q.toNat : Int)] 5)).heap.size = wr.heap.size + 1 := World.size_alloc _ _
        have l1 : (expT key use i).length ≤ 32 := by cases i with | zero => exact Nat.zero_le _ | succ j => rw [expT_length]; exact Nat.le_refl _
        refine (kMacC key [expT key use i, use, [q]] d hd2 _ _ _ (hv.on b2) (LL3 40 zz.symm (hx.on (balloc (bself wr) _)) (hu.on b1) ((SB.new1 wr q).more (by rw [zz]; exact Nat.le_refl _))) (by omega) (by rw [flat3, List.length_append, List.length_append]; simp only [List.length_cons, List.length_nil]; omega) (hk.on b2 h1) (by have := b2.size; omega)).mono fun e w' ⟨he, hb⟩ => ⟨he, bstep bb2 hb⟩)
      have HGO : Hid (∀ w1, Below wr.heap.size wr w1 → OB w1 w.heap.size (.slice (some ⟨g, 0, none⟩) m c9) (expAll key use i) ∧ Below w.heap.size w w1) := Lib.hid (fun w1 h => ⟨hown.below h (Nat.le_refl _), hbr.trans (h.mono hzr)⟩)
      have HAPP : Hid (expAll key use i ++ expT key use (i + 1) = expAll key use (i + 1)) := Lib.hid rfl
      have HLN : Hid ((expAll key use i).length = 32 * i) := Lib.hid (expAll_length key use i)
      have HL2 : Hid ((expT key use (i + 1)).length = 32) := Lib.hid (expT_length key use i)
      clear hd hd2 hown
      have hX : SB wr wr.heap.size (.slice (some ⟨g, 0, none⟩) m c9) (expT key use i) ∨ 32 < m := by
        by_cases h32 : 32 < m
        · exact .inr h32
        · left
          have h := hsb
          have e1 := expT_last key use i
          rw [show 32 * i - 32 = 0 from by have := HM.out; omega, List.drop_zero] at e1
          rw [← e1]
          exact h
      by_cases h32 : (m : Int) ≤ 32
      · have hX1 := Lib.hid (hX.resolve_right (by omega))
        clear hX hsb
        go_upto_region 8 with fail
        refine (HCALL.out _ hX1.out).mono ?_
        rintro e w1 ⟨rfl, hb1⟩
        clear HCALL hX1
        go_upto_region 8 with (refine wl_storeD rfl (.tmp 10) (.tmp 37) rfl _ rfl _ d rfl (heap_alloc_new w1 _) (by kernel_rfl) HN.out.1 HN.out.2 ?_)
        generalize hw2 : World.setRow _ _ _ = w2
        have rD : w2.heap[w1.heap.size]? = some (rowO d) := by rw [← hw2]; exact setRow_heap _ _ _ _ _ _ (heap_alloc_new w1 _)
        have b12 : Below w1.heap.size w1 w2 := by rw [← hw2]; exact below_setRow (balloc (bself w1) _) (Nat.le_refl _) _
        have z2 : w1.heap.size < w2.heap.size := by rw [← hw2]; simp
        clear hw2
        have b2 := bstep hb1 b12
        obtain ⟨own2, bw2⟩ := HGO.out w2 b2
        have src2 : SB w2 w2.heap.size (.slice (some ⟨w1.heap.size, 0, none⟩) 32 32) (expT key use (i + 1)) := SB.ofRow rD HD.out HL2.out.symm z2 (by rw [HL2.out]; simp [maxLen])
        have hlen2 : (expAll key use i).length + (expT key use (i + 1)).length ≤ 140737488355328 := by rw [HLN.out, HL2.out]; omega
        have hz2 := bw2.size
        clear rD b12 z2 b2
        go_wp2_with (at_builtin; go_loud (refine wl_appB rfl (.tmp 38) (.tmp 39) rfl w.heap.size _ (expAll key use i) rfl own2 w2.heap.size _ (expT key use (i + 1)) rfl src2 hlen2 hz2 ?_); intro v3 w3 hown3 hg3 ho3 hb3; rw [HAPP.out] at hown3; have b3 := bw2.trans hb3)
        obtain ⟨g3, c3, e3⟩ := hown3.form0 (by rw [expAll_length]; omega)
        have e3 : v3 = .slice (some ⟨g3, 0, none⟩) (m + 32) c3 := by rw [e3, expAll_length]; congr 1; have := HM.out; omega
        subst e3
        go_roundw
        case rel => exact ⟨i + 1, _, _, _, _, rfl, rfl, Lib.hid (by have := HKZ.out; omega), Lib.hid (by have := HM.out; omega), by omega, hown3, b3⟩
        case measure => simp only [sliceLenS]; have := HM.out; omega
      · have hX1 : Hid (SB wr wr.heap.size (.slice (some ⟨g, m - 32, none⟩) (m - (m - 32)) (c9 - (m - 32))) (expT key use i)) := Lib.hid (by
          obtain ⟨A', c', e, k1, k2, hr⟩ := hsb
          injection e with e2 e3 e4
          subst e2; subst e4
          have h := hr.cut (k := m - 32) (cap := c9) (by rw [← e3]; omega) k1
          rw [if_neg (by omega), ← e3, Nat.mul_one, Option.map_some, add_lit0, Nat.zero_add] at h
          have e5 := expT_last key use i
          rw [← HM.out] at e5
          have e6 : (expT key use i).length = m - (m - 32) := by rw [← e5, List.length_drop, ← e3]
          refine ⟨_, _, by rw [e6], by rw [e6]; omega, by omega, ?_⟩
          rw [e6, ← e5, bv_drop]
          exact h)
        clear hX hsb
        go_upto_region 8 with fail
        refine (HCALL.out _ hX1.out).mono ?_
        rintro e w1 ⟨rfl, hb1⟩
        clear HCALL hX1
        go_upto_region 8 with (refine wl_storeD rfl (.tmp 10) (.tmp 37) rfl _ rfl _ d rfl (heap_alloc_new w1 _) (by kernel_rfl) HN.out.1 HN.out.2 ?_)
        generalize hw2 : World.setRow _ _ _ = w2
        have rD : w2.heap[w1.heap.size]? = some (rowO d) := by rw [← hw2]; exact setRow_heap _ _ _ _ _ _ (heap_alloc_new w1 _)
        have b12 : Below w1.heap.size w1 w2 := by rw [← hw2]; exact below_setRow (balloc (bself w1) _) (Nat.le_refl _) _
        have z2 : w1.heap.size < w2.heap.size := by rw [← hw2]; simp
        clear hw2
        have b2 := bstep hb1 b12
        obtain ⟨own2, bw2⟩ := HGO.out w2 b2
        have src2 : SB w2 w2.heap.size (.slice (some ⟨w1.heap.size, 0, none⟩) 32 32) (expT key use (i + 1)) := SB.ofRow rD HD.out HL2.out.symm z2 (by rw [HL2.out]; simp [maxLen])
        have hlen2 : (expAll key use i).length + (expT key use (i + 1)).length ≤ 140737488355328 := by rw [HLN.out, HL2.out]; omega
        have hz2 := bw2.size
        clear rD b12 z2 b2
        go_wp2_with (at_builtin; go_loud (refine wl_appB rfl (.tmp 38) (.tmp 39) rfl w.heap.size _ (expAll key use i) rfl own2 w2.heap.size _ (expT key use (i + 1)) rfl src2 hlen2 hz2 ?_); intro v3 w3 hown3 hg3 ho3 hb3; rw [HAPP.out] at hown3; have b3 := bw2.trans hb3)
        obtain ⟨g3, c3, e3⟩ := hown3.form0 (by rw [expAll_length]; omega)
        have e3 : v3 = .slice (some ⟨g3, 0, none⟩) (m + 32) c3 := by rw [e3, expAll_length]; congr 1; have := HM.out; omega
        subst e3
        go_roundw
        case rel => exact ⟨i + 1, _, _, _, _, rfl, rfl, Lib.hid (by have := HKZ.out; omega), Lib.hid (by have := HM.out; omega), by omega, hown3, b3⟩
        case measure => simp only [sliceLenS]; have := HM.out; omega
    · have hip : i = pieces n := by have := HM.out; unfold pieces at hi ⊢; omega
      have hsb : SB wr wr.heap.size (.slice (some ⟨g, 0, none⟩) m c9) (expAll key use i) := hown.sb
      obtain ⟨A', c', e, k1, k2, hr⟩ := hsb
      injection e with e2 e3 e4
      subst e2; subst e4
      have k2' : c9 ≤ 9223372036854775807 := by unfold maxLen at k2; omega
      have HR : Hid (SB wr wr.heap.size (.slice (some ⟨g, 0, none⟩) n n) (expand key use n)) := Lib.hid (by
        have h := hr.take (k := n) (by omega)
        unfold SB
        rw [expand_length]
        refine ⟨_, _, rfl, Nat.le_refl _, by simp only [maxLen]; omega, ?_⟩
        unfold expand
        rw [bv_take, ← hip]
        rw [Nat.mul_one] at h
        exact h)
      have hgl := (hown.lt g rfl).1
      have y4 : (n : Int) ≤ (c9 : Int) := by omega
      clear hr k1 k2 e3 hown
      go_wp2_with fail
      exact bodyPost_ret (v := .tuple #[.slice (some ⟨g, 0, none⟩) n n, .int .i64 0]) (by simp [results, Tryd.results25, go_sem]) rfl ⟨g, rfl, HR.out, hbr, hgl⟩
theorem kExpand_any (key use : List UInt8) (n : Nat) (hn : n ≤ 8160) (v u : Value) (w : World) (hv : SB w w.heap.size v key) (hu : SB w w.heap.size u use) (hl : key.length ≤ 140737488354000) (hl2 : use.length ≤ 140737488354000) (hk : KTab w 1) (h1 : 1 < w.heap.size) :
    Calls Tryd.prog 25 #[v, u, .int .i64 (n : Int)] w fun e w' => ∃ g, e = .returned (.tuple #[.slice (some ⟨g, 0, none⟩) n n, .int .i64 0]) ∧ SB w' w'.heap.size (.slice (some ⟨g, 0, none⟩) n n) (expand key use n) ∧ Below w.heap.size w w' :=
  (kExpand_at key use n hn v u w hv hu hl hl2 hk h1).mono fun _ _ ⟨g, h1, h2, h3, _⟩ => ⟨g, h1, h2, h3⟩
end Go.Proofs.YtjkcdnangmjoeaaDoor
