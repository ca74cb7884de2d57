/-
  What is proved here: what mac.pads comes to, at this seat's numbers. Conditions: the key's length; the table of constants.
-/
import Derived.Test.YtjkcdnangmjoeaaDoorMacW
import Derived.Test.YtjkcdnangmjoeaaDoorRowB
import Derived.Test.YtjkcdnangmjoeaaDoorShaSumsW
namespace Go.Proofs.YtjkcdnangmjoeaaDoor
open Go.RowKit

section
variable {P : Program} {ops : Array Oper} {Q : Exit → Act → World → Prop} {md : Region.Mode} {S : World → Prop}
theorem reg_both (i j : Nat) {oi oj : Oper} {r r' : List Oper} {fuel : Nat} {listed : Array Bool} {a : Act} {w : World} (hi : ops.toList.drop i = oi :: r) (hj : ops.toList.drop j = oj :: r') (hr : Region.ready md ops listed = [i, j])
    (hwi : Region.wanted oi (yielded ops a.tmps) = true) (hwj : Region.wanted oj (yielded ops a.tmps) = true)
    (h1 : ∀ K' : Act → World → Prop, Shut (∀ a w, S w → (S w → wpAnyH P md ops Q S fuel (listed.setIfInBounds i true) a w) → K' a w) → Oper.wp P oi a w K' Q)
    (h2 : ∀ K' : Act → World → Prop, Shut (∀ a w, S w → (S w → wpAnyH P md ops Q S fuel (listed.setIfInBounds j true) a w) → K' a w) → Oper.wp P oj a w K' Q) : wpAnyH P md ops Q S (fuel + 1) listed a w :=
  wpAnyH_ready hr (by simp) (AllReadyH.cons (get_of_drop hi) (fun K' hK => by rw [if_pos hwi]; exact h1 K' hK) (AllReadyH.cons (get_of_drop hj) (fun K' hK => by rw [if_pos hwj]; exact h2 K' hK) AllReadyH.nil))
end
theorem exec_loadT (t : TypeId) {n : Nat} {e : TypeId} (hu : Tryd.prog.underlying t = some (.array n e)) (hs : (Tryd.prog.info? t).map (·.size) = some n) {o : Oper} {a : Act} {w : World} (x : Operand) (ho : o.op = .load t x) (g : Nat) (hx : a.eval x = .pointer (some ⟨g, 0, none⟩)) (cs : Array Value) (hg : w.heap[g]? = some (rowT t cs)) (hn : cs.size = n) :
    (execOp a.eval o).run Tryd.prog w = .ok (.value (.agg cs)) w := by
  unfold execOp
  simp only [ho, hx, Instr.loadAt, Instr.sureAddr, Sem.run_bind, Sem.run_pure, Result.andThen_ok, run_loadVar_row w g t t cs (0, 0) _ hg hu rfl (by rw [hn]; exact hs)]
theorem size64 : (Tryd.prog.info? 67).map (·.size) = some 64 := by kernel_rfl
theorem res_two {fn : Func} {p q : Tmp} (h : fn.results = #[.cell p 67, .cell q 67]) (tmps : Array Value) (w : World) (g k : Nat) (c d : Array Value) (hp : tmps.getD p undef = .pointer (some ⟨g, 0, none⟩)) (hq : tmps.getD q undef = .pointer (some ⟨k, 0, none⟩))
    (hg : w.heap[g]? = some (rowT 67 c)) (hk : w.heap[k]? = some (rowT 67 d)) (hn : c.size = 64) (hm : d.size = 64) :
    (results fn tmps).run Tryd.prog w = .ok (.tuple #[.agg c, .agg d]) w := by
  have hp' : tmps[p]?.getD undef = .pointer (some ⟨g, 0, none⟩) := by simpa using hp
  have hq' : tmps[q]?.getD undef = .pointer (some ⟨k, 0, none⟩) := by simpa using hq
  simp [results, h, hp', hq', asAddr, run_loadVar_row w g 67 67 c (0, 0) _ hg Tryd.underlying67 rfl (by rw [hn]; exact size64), run_loadVar_row w k 67 67 d (0, 0) _ hk Tryd.underlying67 rfl (by rw [hm]; exact size64)]
theorem SB.cellAt {w : World} {B b o n c : Nat} {l : List UInt8} (h : SB w B (.slice (some ⟨b, o, none⟩) n c) l) {j : Nat} (hj : j < l.length) : w.cell? ⟨b, o + j, none⟩ = some (.int .u8 ((l[j].toNat : Nat) : Int)) := by
  obtain ⟨A, c', e, _, _, hr⟩ := h
  injection e with e1 _ _
  subst e1
  exact (hr.2.2 _ rfl (by omega)).2.2 j _ (bv_at hj)
/-- all but the two blocks at I are as they were -/
def KeptBut (w w' : World) (I : Nat) : Prop := ∀ j, j < w.heap.size → j ≠ I → j ≠ I + 1 → w'.heap[j]? = w.heap[j]?
theorem SB.but {w w' : World} {B I : Nat} {v : Value} {l : List UInt8} (h : SB w B v l) (hk : KeptBut w w' I) (hB : B ≤ w.heap.size) (hne : ∀ b, v.ownBlock = some b → b < B → b ≠ I ∧ b ≠ I + 1) : SB w' B v l := by
  obtain ⟨A, c, rfl, h1, h2, hr⟩ := h
  refine ⟨A, c, rfl, h1, h2, hr.1, hr.2.1, fun ad e hn => ?_⟩
  obtain ⟨hs, hb, hc⟩ := hr.2.2 ad e hn
  have h3 := hne ad.block (by subst e; rfl) hb
  exact ⟨hs, hb, fun j u hu => (World.cell?_of_block (a := ⟨ad.block, ad.off + j, none⟩) (hk ad.block (by omega) h3.1 h3.2)).trans (hc j u hu)⟩
set_option maxRecDepth 100000 in
set_option maxHeartbeats 2000000 in
theorem kPads_any (k : List UInt8) (v : Value) (w : World) (hv : SB w w.heap.size v k) (hl : k.length ≤ 1152921504606846000) (hk : KTab w 1) (h1 : 1 < w.heap.size) :
    Calls Tryd.prog 36 #[v] w fun e w' => e = .returned (.tuple #[.agg (dgA (xorL 54 (padK k))), .agg (dgA (xorL 92 (padK k)))]) ∧ Below w.heap.size w w' := by
  obtain ⟨A, c, rfl, hlc, hcm, _⟩ := id hv
  have hcm2 : c ≤ 9223372036854775807 := by unfold maxLen at hcm; omega
  go_enter Tryd.func36, Tryd.ntmps36
  go_upto_region 1 with fail
  generalize hWA : World.alloc _ _ = wA
  have rI : wA.heap[w.heap.size]? = some (rowT 67 (dgA (List.replicate 64 0))) := by rw [← hWA]; exact (heap_alloc2_old w _ _).trans (by kernel_rfl)
  have rO : wA.heap[w.heap.size + 1]? = some (rowT 67 (dgA (List.replicate 64 0))) := by rw [← hWA]; exact (heap_alloc2_new w _ _).trans (by kernel_rfl)
  have bA : Below w.heap.size w wA := by rw [← hWA]; exact balloc (balloc (bself w) _) _
  have zA : w.heap.size + 1 < wA.heap.size := by rw [← hWA]; simp
  clear hWA
  obtain ⟨K, hK⟩ : ∃ K, K = keyOf64 k := ⟨_, rfl⟩
  have hKl : K.length ≤ 64 := by rw [hK]; exact keyOf64_length k
  have HK0 := Lib.hid hK
  clear hK
  by_cases hlong : 64 < k.length
  · obtain ⟨cc, hcc⟩ : ∃ cc, dgA (shaOf k) = cc := ⟨_, rfl⟩
    have HKS : Hid (K = shaOf k) := Lib.hid (by rw [HK0.out]; unfold keyOf64; rw [if_pos hlong])
    have HN : Hid (cc.size = 32 ∧ ∀ v ∈ cc.toList, v.oneCell' = true) := Lib.hid (by rw [← hcc]; exact ⟨by rw [dgA_size, shaOf_length], dgA_one _⟩)
    have HC := Lib.hid hcc
    clear hcc
    have hL : LL (wA.alloc (.cells #[.slice A k.length c] 40)) _ (.slice (some ⟨wA.heap.size, 0, none⟩) 1 1) [k] := LL.one 40 rfl ((hv.below bA).more (by omega))
    have bB : Below w.heap.size w (wA.alloc (.cells #[.slice A k.length c] 40)) := balloc bA _
    have bAB : Below wA.heap.size wA (wA.alloc (.cells #[.slice A k.length c] 40)) := balloc (bself wA) _
    go_wp2_with fail
    generalize World.alloc _ _ = wB at hL bB bAB ⊢
    refine (kSumC [k] cc (by rw [flat1]; exact HC.out) _ wB hL (by rw [flat1]; exact hl) (hk.on bB h1) (by have := bB.size; omega)).mono ?_
    rintro e w1 ⟨rfl, hb1⟩
    have bA1 := bstep bAB hb1
    have z1 := bA1.size
    go_upto_region 4 with (refine wl_storeD rfl (.tmp 4) (.tmp 11) rfl _ rfl _ cc rfl (heap_alloc_new w1 _) (by kernel_rfl) HN.out.1 HN.out.2 ?_)
    generalize hw5 : World.setRow _ _ _ = w5
    have rD : w5.heap[w1.heap.size]? = some (rowO cc) := by rw [← hw5]; exact setRow_heap _ _ _ _ _ _ (heap_alloc_new w1 _)
    have b15 : Below w1.heap.size w1 w5 := by rw [← hw5]; exact below_setRow (balloc (bself w1) _) (Nat.le_refl _) _
    have z5 : Hid (w5.heap.size = w1.heap.size + 1) := Lib.hid (by rw [← hw5]; simp)
    clear hw5
    have bA5 := bstep bA1 b15
    have HK : Hid (∀ wy, KeptBut w5 wy w.heap.size → SB wy w5.heap.size (.slice (some ⟨w1.heap.size, 0, none⟩) 32 32) K) := Lib.hid (fun wy h => by
      rw [HKS.out]
      have hs : SB w5 w5.heap.size (.slice (some ⟨w1.heap.size, 0, none⟩) 32 32) (shaOf k) := SB.ofRow rD HC.out (shaOf_length k).symm (by have := z5.out; omega) (by rw [shaOf_length]; simp [maxLen])
      exact SB.but hs h (Nat.le_refl _) (fun b hb _ => by injection hb with hb; have hb' : w1.heap.size = b := hb; omega))
    have HNK : Hid (32 = K.length) := Lib.hid (by rw [HKS.out, shaOf_length])
    have rI5 : w5.heap[w.heap.size]? = some (rowT 67 (dgA (List.replicate 64 0))) := (bA5.block w.heap.size (by omega)).trans rI
    have rO5 : w5.heap[w.heap.size + 1]? = some (rowT 67 (dgA (List.replicate 64 0))) := (bA5.block (w.heap.size + 1) (by omega)).trans rO
    have b5 : Below w.heap.size w w5 := bA.trans (bA5.mono (by omega))
    clear hv rI rO bA hL bB bAB hb1 bA1 rD b15 bA5
    have HX : Hid (∀ i (hi : i < 64), (xorL 54 (padK k))[i]? = some (if h : i < K.length then xor8 54 (K[i]'h) else 54)) := Lib.hid (fun i hi => by rw [mix_at 54 k i hi]; congr 1; have hK := HK0.out; subst hK; rfl)
    have HY : Hid (∀ i (hi : i < 64), (xorL 92 (padK k))[i]? = some (if h : i < K.length then xor8 92 (K[i]'h) else 92)) := Lib.hid (fun i hi => by rw [mix_at 92 k i hi]; congr 1; have hK := HK0.out; subst hK; rfl)
    have lX : (xorL 54 (padK k)).length = 64 := by rw [xorL_length, padK_length]
    have lY : (xorL 92 (padK k)).length = 64 := by rw [xorL_length, padK_length]
    obtain ⟨X, hXe⟩ : ∃ X, X = xorL 54 (padK k) := ⟨_, rfl⟩
    obtain ⟨Y, hYe⟩ : ∃ Y, Y = xorL 92 (padK k) := ⟨_, rfl⟩
    rw [← hXe] at HX lX
    rw [← hYe] at HY lY
    have HXE := Lib.hid (And.intro hXe hYe)
    clear hXe hYe
    have rI0 : w5.heap[w.heap.size]? = some (rowT 67 (dgA (upTo 64 X 0))) := by rw [upTo_0]; exact rI5
    have rO0 : w5.heap[w.heap.size + 1]? = some (rowT 67 (dgA (upTo 64 Y 0))) := by rw [upTo_0]; exact rO5
    clear rI5 rO5
    go_wp2_with fail
    go_loopw [13] (fun iv wy => ∃ i : Nat, iv = .int .i64 i ∧ i ≤ 64 ∧ wy.heap[w.heap.size]? = some (rowT 67 (dgA (upTo 64 X i))) ∧ wy.heap[w.heap.size + 1]? = some (rowT 67 (dgA (upTo 64 Y i))) ∧ KeptBut w5 wy w.heap.size ∧ Below w.heap.size w wy) (fun iv _ => 64 - (intOf iv).toNat)
    case atStart => exact ⟨0, rfl, by omega, rI0, rO0, fun _ _ _ _ => rfl, b5⟩
    case round =>
      obtain ⟨i, rfl, hi, hI, hO, hkb, hb⟩ := hrel
      clear rI0 rO0
      by_cases hlt : i < 64
      · have lXi : (upTo 64 X i).length = 64 := upTo_len lX hi
        have lYi : (upTo 64 Y i).length = 64 := upTo_len lY hi
        obtain ⟨cI, fI, sI⟩ := rowT_cell hI (k := i) (by omega)
        obtain ⟨cO, fO, sO⟩ := rowT_cell hO (k := i) (by omega)
        have r7I : ((wr.setCell ⟨w.heap.size, i, none⟩ (.int .u8 54)).setCell ⟨w.heap.size + 1, i, none⟩ (.int .u8 92)).heap[w.heap.size]? = some (rowT 67 (dgA ((upTo 64 X i).set i 54))) := (Below.heap_setCell _ _ _ _ (by show w.heap.size ≠ w.heap.size + 1; omega)).trans (sI 54)
        have r7O : ((wr.setCell ⟨w.heap.size, i, none⟩ (.int .u8 54)).setCell ⟨w.heap.size + 1, i, none⟩ (.int .u8 92)).heap[w.heap.size + 1]? = some (rowT 67 (dgA ((upTo 64 Y i).set i 92))) := (rowT_cell ((Below.heap_setCell _ _ _ _ (by show w.heap.size + 1 ≠ w.heap.size; omega)).trans hO) (k := i) (by omega)).2.2 92
        have k7 : KeptBut w5 ((wr.setCell ⟨w.heap.size, i, none⟩ (.int .u8 54)).setCell ⟨w.heap.size + 1, i, none⟩ (.int .u8 92)) w.heap.size := fun j hj h1 h2 => (Below.heap_setCell _ _ _ _ h2).trans ((Below.heap_setCell _ _ _ _ h1).trans (hkb j hj h1 h2))
        have b7 : Below w.heap.size w ((wr.setCell ⟨w.heap.size, i, none⟩ (.int .u8 54)).setCell ⟨w.heap.size + 1, i, none⟩ (.int .u8 92)) := (hb.setCell (Nat.le_refl _) _).setCell (Nat.le_succ _) _
        have HR7 := Lib.hid (And.intro r7I (And.intro r7O (And.intro k7 b7)))
        have HXi := Lib.hid (HX.out i hlt)
        have HYi := Lib.hid (HY.out i hlt)
        generalize (upTo 64 X i)[i]'(by omega) = qI at cI
        generalize (upTo 64 Y i)[i]'(by omega) = qO at cO
        clear r7I r7O k7 b7 sI sO hI hO hkb hb
        go_upto_region 8 with fail
        obtain ⟨r7I, r7O, k7, b7⟩ := HR7.out
        generalize World.setCell _ _ _ = W7 at r7I r7O k7 b7 ⊢
        clear HR7 cI cO fI fO
        have lI7 : ((upTo 64 X i).set i 54).length = 64 := by rw [List.length_set]; exact lXi
        have lO7 : ((upTo 64 Y i).set i 92).length = 64 := by rw [List.length_set]; exact lYi
        by_cases hik : i < 32
        · have hiK : i < K.length := by have := HNK.out; omega
          skip
          obtain ⟨q, hq⟩ : ∃ q, q = K[i] := ⟨_, rfl⟩
          have HKC : Hid (∀ wy, KeptBut w5 wy w.heap.size → wy.cell? ⟨w1.heap.size, i, none⟩ = some (.int .u8 (q.toNat : Int))) := Lib.hid (fun wy h => by
            have := SB.cellAt (HK.out wy h) hiK
            rw [← hq] at this
            rw [Nat.zero_add] at this; exact this)
          have hXi := HXi.out
          have hYi := HYi.out
          rw [dif_pos hiK, ← hq] at hXi hYi
          have x54 : bits .xor .u8 54 (q.toNat : Int) = ((xor8 54 q).toNat : Int) := X_xor 54 q
          have x92 : bits .xor .u8 92 (q.toNat : Int) = ((xor8 92 q).toNat : Int) := X_xor 92 q
          generalize xor8 54 q = z54 at hXi x54
          generalize xor8 92 q = z92 at hYi x92
          have eX : ((upTo 64 X i).set i 54).set i z54 = upTo 64 X (i + 1) := by rw [List.set_set]; exact upTo_step lX hlt hXi
          have eY : ((upTo 64 Y i).set i 92).set i z92 = upTo 64 Y (i + 1) := by rw [List.set_set]; exact upTo_step lY hlt hYi
          obtain ⟨d1, f1, s1⟩ := rowT_cell (w := W7) r7I (k := i) (by omega)
          have d1' : W7.cell? ⟨w.heap.size, i, none⟩ = some (.int .u8 54) := by rw [d1]; simp
          have f1' : W7.frozen? ⟨w.heap.size, i, none⟩ = false := f1
          have r9I : ((W7.setCell ⟨w.heap.size, i, none⟩ (u8v z54)).drew).heap[w.heap.size]? = some (rowT 67 (dgA (upTo 64 X (i + 1)))) := by rw [← eX]; exact s1 z54
          have r9O : ((W7.setCell ⟨w.heap.size, i, none⟩ (u8v z54)).drew).heap[w.heap.size + 1]? = some (rowT 67 (dgA ((upTo 64 Y i).set i 92))) := (Below.heap_setCell _ _ _ _ (by show w.heap.size + 1 ≠ w.heap.size; omega)).trans r7O
          have k9 : KeptBut w5 ((W7.setCell ⟨w.heap.size, i, none⟩ (u8v z54)).drew) w.heap.size := fun j hj h1 h2 => (Below.heap_setCell _ _ _ _ h1).trans (k7 j hj h1 h2)
          have b9' : Below w.heap.size w ((W7.setCell ⟨w.heap.size, i, none⟩ (u8v z54)).drew) := (b7.setCell (Nat.le_refl _) _).drew
          have HR9 := Lib.hid (And.intro r9I (And.intro r9O (And.intro k9 b9')))
          have cK := HKC.out W7 k7
          have HEY := Lib.hid eY
          clear r9I r9O k9 b9' d1 f1 s1 r7I r7O k7 b7 eX eY hXi hYi hq HXi HYi HX HY
          go_upto_region 9 with fail
          go_region
          all_goals
            obtain ⟨r9I, r9O, k9, b9'⟩ := HR9.out
            go_upto_region 10 with fail
            generalize World.drew _ = W9 at r9I r9O k9 b9' ⊢
            clear d1' f1' cK x54
            obtain ⟨d2, f2, s2⟩ := rowT_cell (w := W9) r9O (k := i) (by omega)
            have d2' : W9.cell? ⟨w.heap.size + 1, i, none⟩ = some (.int .u8 92) := by rw [d2]; simp
            have f2' : W9.frozen? ⟨w.heap.size + 1, i, none⟩ = false := f2
            have rAO : ((W9.setCell ⟨w.heap.size + 1, i, none⟩ (u8v z92)).drew).heap[w.heap.size + 1]? = some (rowT 67 (dgA (upTo 64 Y (i + 1)))) := by rw [← HEY.out]; exact s2 z92
            have rAI : ((W9.setCell ⟨w.heap.size + 1, i, none⟩ (u8v z92)).drew).heap[w.heap.size]? = some (rowT 67 (dgA (upTo 64 X (i + 1)))) := (Below.heap_setCell _ _ _ _ (by show w.heap.size ≠ w.heap.size + 1; omega)).trans r9I
            have kA : KeptBut w5 ((W9.setCell ⟨w.heap.size + 1, i, none⟩ (u8v z92)).drew) w.heap.size := fun j hj h1 h2 => (Below.heap_setCell _ _ _ _ h2).trans (k9 j hj h1 h2)
            have bA' : Below w.heap.size w ((W9.setCell ⟨w.heap.size + 1, i, none⟩ (u8v z92)).drew) := (b9'.setCell (Nat.le_succ _) _).drew
            have HRA := Lib.hid (And.intro rAI (And.intro rAO (And.intro kA bA')))
            have cK := HKC.out W9 k9
            clear d2 f2 s2 rAO rAI kA bA' r9I r9O k9 b9' HR9
            go_region
            all_goals
              go_wp2_with fail
              go_roundw
              case rel => exact ⟨i + 1, by go_num, by omega, HRA.out⟩
              case measure => simp [intOf]; omega
        · have hiK : ¬ i < K.length := by have := HNK.out; omega
          have hXi := HXi.out
          have hYi := HYi.out
          rw [dif_neg hiK] at hXi hYi
          have e1 := upTo_step lX hlt hXi
          have e2 := upTo_step lY hlt hYi
          rw [e1] at r7I
          rw [e2] at r7O
          have HR := Lib.hid (And.intro r7I (And.intro r7O (And.intro k7 b7)))
          clear r7I r7O k7 b7 e1 e2 hXi hYi
          go_wp2_with fail
          go_roundw
          case rel => exact ⟨i + 1, by go_num, by omega, HR.out⟩
          case measure => simp [intOf]; omega
      · have hi64 : i = 64 := by omega
        subst hi64
        rw [upTo_n lX] at hI
        rw [upTo_n lY] at hO
        obtain ⟨cx, hcx⟩ : ∃ cx, cx = dgA X := ⟨_, rfl⟩
        obtain ⟨cy, hcy⟩ : ∃ cy, cy = dgA Y := ⟨_, rfl⟩
        have hIx : wr.heap[w.heap.size]? = some (rowT 67 cx) := by rw [hcx]; exact hI
        have hOy : wr.heap[w.heap.size + 1]? = some (rowT 67 cy) := by rw [hcy]; exact hO
        have HSX : Hid (cx.size = 64 ∧ cx.all (·.oneCell') = true) := Lib.hid (by rw [hcx]; exact ⟨by rw [dgA_size, lX], Array.all_eq_true_iff_forall_mem.2 (fun v hv => dgA_one X v (by simpa using hv))⟩)
        have HSY : Hid (cy.size = 64 ∧ cy.all (·.oneCell') = true) := Lib.hid (by rw [hcy]; exact ⟨by rw [dgA_size, lY], Array.all_eq_true_iff_forall_mem.2 (fun v hv => dgA_one Y v (by simpa using hv))⟩)
        have HEX : Hid (cx = dgA (xorL 54 (padK k)) ∧ cy = dgA (xorL 92 (padK k))) := Lib.hid ⟨by rw [hcx, HXE.out.1], by rw [hcy, HXE.out.2]⟩
        have HH := Lib.hid (And.intro hIx hOy)
        clear hcx hcy hI hO hIx hOy lX lY HX HY HXE hkb HK
        go_upto_region 12 with fail
        refine wp_region_noPanic ?_
        refine wp_region_held_drew (S := fun w' => w'.heap[w.heap.size]? = some (rowT 67 cx) ∧ w'.heap[w.heap.size + 1]? = some (rowT 67 cy)) (by kernel_rfl) (by exact HH.out) (fun hHeld => ?_)
        refine reg_take 0 (v := .agg cx) (by rfl) (by kernel_rfl) (by kernel_rfl) (by kernel_rfl) (fun _ _ _ h => h) (by rfl) ?_ (by assumption) ?_
        · (intro wq hSq; exact exec_loadT 67 Tryd.underlying67 size64 (.tmp 2) rfl _ rfl cx hSq.1 HSX.out.1)
        try simp only [Act.put, List.setIfInBounds_toArray, List.set_cons_zero, List.set_cons_succ]
        refine reg_take 1 (v := .agg cy) (by rfl) (by kernel_rfl) (by kernel_rfl) (by kernel_rfl) (fun _ _ _ h => h) (by rfl) ?_ (by assumption) ?_
        · (intro wq hSq; exact exec_loadT 67 Tryd.underlying67 size64 (.tmp 3) rfl _ rfl cy hSq.2 HSY.out.1)
        try simp only [Act.put, List.setIfInBounds_toArray, List.set_cons_zero, List.set_cons_succ]
        refine reg_one 2 (by rfl) (by kernel_rfl) (by rfl) (fun K hK => ?_)
        (refine wp_storeR 67 (.tmp 2) (.tmp 43) rfl _ rfl cx cx rfl (by exact HH.out.1) (by rw [HSX.out.1]; exact size64) rfl HSX.out.2 ?_; rw [setRow_self _ _ _ _ _ (by exact HH.out.1)])
        refine hK.out _ _ ?_ (fun hHeld => ?_)
        · exact HH.out
        clear hK K
        try simp only [Act.put, List.setIfInBounds_toArray, List.set_cons_zero, List.set_cons_succ]
        refine reg_one 3 (by rfl) (by kernel_rfl) (by rfl) (fun K hK => ?_)
        (refine wp_storeR 67 (.tmp 3) (.tmp 44) rfl _ rfl cy cy rfl (by exact HH.out.2) (by rw [HSY.out.1]; exact size64) rfl HSY.out.2 ?_; rw [setRow_self _ _ _ _ _ (by exact HH.out.2)])
        refine hK.out _ _ ?_ (fun hHeld => ?_)
        · exact HH.out
        clear hK K
        try simp only [Act.put, List.setIfInBounds_toArray, List.set_cons_zero, List.set_cons_succ]
        refine wpAnyH_done (by kernel_rfl) (noPanic_mk ?_) _
        go_wp2_with fail
        exact bodyPost_ret (v := .tuple #[.agg cx, .agg cy]) (res_two Tryd.results36 _ _ _ _ cx cy rfl rfl (by exact HH.out.1) (by exact HH.out.2) HSX.out.1 HSY.out.1) rfl ⟨by rw [HEX.out.1, HEX.out.2], by exact hb.drew⟩
  · have HKS : Hid (K = k) := Lib.hid (by rw [HK0.out]; unfold keyOf64; rw [if_neg hlong])
    have HK : Hid (∀ wy, KeptBut wA wy w.heap.size → SB wy w.heap.size (.slice A k.length c) K) := Lib.hid (fun wy h => by
      rw [HKS.out]
      exact SB.but (hv.below bA) h (by omega) (fun b _ hb => ⟨by omega, by omega⟩))
    have HNK : Hid (k.length = K.length) := Lib.hid (by rw [HKS.out])
    obtain ⟨w5, hw5⟩ : ∃ w5, w5 = wA := ⟨_, rfl⟩
    subst hw5
    have rI5 := rI
    have rO5 := rO
    have b5 := bA
    clear hv rI rO bA
    have HX : Hid (∀ i (hi : i < 64), (xorL 54 (padK k))[i]? = some (if h : i < K.length then xor8 54 (K[i]'h) else 54)) := Lib.hid (fun i hi => by rw [mix_at 54 k i hi]; congr 1; have hK := HK0.out; subst hK; rfl)
    have HY : Hid (∀ i (hi : i < 64), (xorL 92 (padK k))[i]? = some (if h : i < K.length then xor8 92 (K[i]'h) else 92)) := Lib.hid (fun i hi => by rw [mix_at 92 k i hi]; congr 1; have hK := HK0.out; subst hK; rfl)
    have lX : (xorL 54 (padK k)).length = 64 := by rw [xorL_length, padK_length]
    have lY : (xorL 92 (padK k)).length = 64 := by rw [xorL_length, padK_length]
    obtain ⟨X, hXe⟩ : ∃ X, X = xorL 54 (padK k) := ⟨_, rfl⟩
    obtain ⟨Y, hYe⟩ : ∃ Y, Y = xorL 92 (padK k) := ⟨_, rfl⟩
    rw [← hXe] at HX lX
    rw [← hYe] at HY lY
    have HXE := Lib.hid (And.intro hXe hYe)
    clear hXe hYe
    have rI0 : w5.heap[w.heap.size]? = some (rowT 67 (dgA (upTo 64 X 0))) := by rw [upTo_0]; exact rI5
    have rO0 : w5.heap[w.heap.size + 1]? = some (rowT 67 (dgA (upTo 64 Y 0))) := by rw [upTo_0]; exact rO5
    clear rI5 rO5
    go_wp2_with fail
    go_loopw [13] (fun iv wy => ∃ i : Nat, iv = .int .i64 i ∧ i ≤ 64 ∧ wy.heap[w.heap.size]? = some (rowT 67 (dgA (upTo 64 X i))) ∧ wy.heap[w.heap.size + 1]? = some (rowT 67 (dgA (upTo 64 Y i))) ∧ KeptBut w5 wy w.heap.size ∧ Below w.heap.size w wy) (fun iv _ => 64 - (intOf iv).toNat)
    case atStart => exact ⟨0, rfl, by omega, rI0, rO0, fun _ _ _ _ => rfl, b5⟩
    case round =>
      obtain ⟨i, rfl, hi, hI, hO, hkb, hb⟩ := hrel
      clear rI0 rO0
      by_cases hlt : i < 64
      · have lXi : (upTo 64 X i).length = 64 := upTo_len lX hi
        have lYi : (upTo 64 Y i).length = 64 := upTo_len lY hi
        obtain ⟨cI, fI, sI⟩ := rowT_cell hI (k := i) (by omega)
        obtain ⟨cO, fO, sO⟩ := rowT_cell hO (k := i) (by omega)
        have r7I : ((wr.setCell ⟨w.heap.size, i, none⟩ (.int .u8 54)).setCell ⟨w.heap.size + 1, i, none⟩ (.int .u8 92)).heap[w.heap.size]? = some (rowT 67 (dgA ((upTo 64 X i).set i 54))) := (Below.heap_setCell _ _ _ _ (by show w.heap.size ≠ w.heap.size + 1; omega)).trans (sI 54)
        have r7O : ((wr.setCell ⟨w.heap.size, i, none⟩ (.int .u8 54)).setCell ⟨w.heap.size + 1, i, none⟩ (.int .u8 92)).heap[w.heap.size + 1]? = some (rowT 67 (dgA ((upTo 64 Y i).set i 92))) := (rowT_cell ((Below.heap_setCell _ _ _ _ (by show w.heap.size + 1 ≠ w.heap.size; omega)).trans hO) (k := i) (by omega)).2.2 92
        have k7 : KeptBut w5 ((wr.setCell ⟨w.heap.size, i, none⟩ (.int .u8 54)).setCell ⟨w.heap.size + 1, i, none⟩ (.int .u8 92)) w.heap.size := fun j hj h1 h2 => (Below.heap_setCell _ _ _ _ h2).trans ((Below.heap_setCell _ _ _ _ h1).trans (hkb j hj h1 h2))
        have b7 : Below w.heap.size w ((wr.setCell ⟨w.heap.size, i, none⟩ (.int .u8 54)).setCell ⟨w.heap.size + 1, i, none⟩ (.int .u8 92)) := (hb.setCell (Nat.le_refl _) _).setCell (Nat.le_succ _) _
        have HR7 := Lib.hid (And.intro r7I (And.intro r7O (And.intro k7 b7)))
        have HXi := Lib.hid (HX.out i hlt)
        have HYi := Lib.hid (HY.out i hlt)
        generalize (upTo 64 X i)[i]'(by omega) = qI at cI
        generalize (upTo 64 Y i)[i]'(by omega) = qO at cO
        clear r7I r7O k7 b7 sI sO hI hO hkb hb
        go_upto_region 8 with fail
        obtain ⟨r7I, r7O, k7, b7⟩ := HR7.out
        generalize World.setCell _ _ _ = W7 at r7I r7O k7 b7 ⊢
        clear HR7 cI cO fI fO
        have lI7 : ((upTo 64 X i).set i 54).length = 64 := by rw [List.length_set]; exact lXi
        have lO7 : ((upTo 64 Y i).set i 92).length = 64 := by rw [List.length_set]; exact lYi
        by_cases hik : i < k.length
        · have hiK : i < K.length := by have := HNK.out; omega
          have hsb := HK.out W7 k7
          obtain ⟨A9, c9, e9, _, _, hr9⟩ := id hsb
          injection e9 with e91 _ _
          obtain ⟨b9, o9, hA9, _, _⟩ := hr9.at_ (by omega)
          rw [← e91] at hA9
          subst hA9
          clear hsb hr9 e91
          obtain ⟨q, hq⟩ : ∃ q, q = K[i] := ⟨_, rfl⟩
          have HKC : Hid (∀ wy, KeptBut w5 wy w.heap.size → wy.cell? ⟨b9, o9 + i, none⟩ = some (.int .u8 (q.toNat : Int))) := Lib.hid (fun wy h => by
            have := SB.cellAt (HK.out wy h) hiK
            rw [← hq] at this
            exact this)
          have hXi := HXi.out
          have hYi := HYi.out
          rw [dif_pos hiK, ← hq] at hXi hYi
          have x54 : bits .xor .u8 54 (q.toNat : Int) = ((xor8 54 q).toNat : Int) := X_xor 54 q
          have x92 : bits .xor .u8 92 (q.toNat : Int) = ((xor8 92 q).toNat : Int) := X_xor 92 q
          generalize xor8 54 q = z54 at hXi x54
          generalize xor8 92 q = z92 at hYi x92
          have eX : ((upTo 64 X i).set i 54).set i z54 = upTo 64 X (i + 1) := by rw [List.set_set]; exact upTo_step lX hlt hXi
          have eY : ((upTo 64 Y i).set i 92).set i z92 = upTo 64 Y (i + 1) := by rw [List.set_set]; exact upTo_step lY hlt hYi
          obtain ⟨d1, f1, s1⟩ := rowT_cell (w := W7) r7I (k := i) (by omega)
          have d1' : W7.cell? ⟨w.heap.size, i, none⟩ = some (.int .u8 54) := by rw [d1]; simp
          have f1' : W7.frozen? ⟨w.heap.size, i, none⟩ = false := f1
          have r9I : ((W7.setCell ⟨w.heap.size, i, none⟩ (u8v z54)).drew).heap[w.heap.size]? = some (rowT 67 (dgA (upTo 64 X (i + 1)))) := by rw [← eX]; exact s1 z54
          have r9O : ((W7.setCell ⟨w.heap.size, i, none⟩ (u8v z54)).drew).heap[w.heap.size + 1]? = some (rowT 67 (dgA ((upTo 64 Y i).set i 92))) := (Below.heap_setCell _ _ _ _ (by show w.heap.size + 1 ≠ w.heap.size; omega)).trans r7O
          have k9 : KeptBut w5 ((W7.setCell ⟨w.heap.size, i, none⟩ (u8v z54)).drew) w.heap.size := fun j hj h1 h2 => (Below.heap_setCell _ _ _ _ h1).trans (k7 j hj h1 h2)
          have b9' : Below w.heap.size w ((W7.setCell ⟨w.heap.size, i, none⟩ (u8v z54)).drew) := (b7.setCell (Nat.le_refl _) _).drew
          have HR9 := Lib.hid (And.intro r9I (And.intro r9O (And.intro k9 b9')))
          have cK := HKC.out W7 k7
          have HEY := Lib.hid eY
          clear r9I r9O k9 b9' d1 f1 s1 r7I r7O k7 b7 eX eY hXi hYi hq HXi HYi HX HY
          go_upto_region 9 with fail
          go_region
          all_goals
            obtain ⟨r9I, r9O, k9, b9'⟩ := HR9.out
            go_upto_region 10 with fail
            generalize World.drew _ = W9 at r9I r9O k9 b9' ⊢
            clear d1' f1' cK x54
            obtain ⟨d2, f2, s2⟩ := rowT_cell (w := W9) r9O (k := i) (by omega)
            have d2' : W9.cell? ⟨w.heap.size + 1, i, none⟩ = some (.int .u8 92) := by rw [d2]; simp
            have f2' : W9.frozen? ⟨w.heap.size + 1, i, none⟩ = false := f2
            have rAO : ((W9.setCell ⟨w.heap.size + 1, i, none⟩ (u8v z92)).drew).heap[w.heap.size + 1]? = some (rowT 67 (dgA (upTo 64 Y (i + 1)))) := by rw [← HEY.out]; exact s2 z92
            have rAI : ((W9.setCell ⟨w.heap.size + 1, i, none⟩ (u8v z92)).drew).heap[w.heap.size]? = some (rowT 67 (dgA (upTo 64 X (i + 1)))) := (Below.heap_setCell _ _ _ _ (by show w.heap.size ≠ w.heap.size + 1; omega)).trans r9I
            have kA : KeptBut w5 ((W9.setCell ⟨w.heap.size + 1, i, none⟩ (u8v z92)).drew) w.heap.size := fun j hj h1 h2 => (Below.heap_setCell _ _ _ _ h2).trans (k9 j hj h1 h2)
            have bA' : Below w.heap.size w ((W9.setCell ⟨w.heap.size + 1, i, none⟩ (u8v z92)).drew) := (b9'.setCell (Nat.le_succ _) _).drew
            have HRA := Lib.hid (And.intro rAI (And.intro rAO (And.intro kA bA')))
            have cK := HKC.out W9 k9
            clear d2 f2 s2 rAO rAI kA bA' r9I r9O k9 b9' HR9
            go_region
            all_goals
              go_wp2_with fail
              go_roundw
              case rel => exact ⟨i + 1, by go_num, by omega, HRA.out⟩
              case measure => simp [intOf]; omega
        · have hiK : ¬ i < K.length := by have := HNK.out; omega
          have hXi := HXi.out
          have hYi := HYi.out
          rw [dif_neg hiK] at hXi hYi
          have e1 := upTo_step lX hlt hXi
          have e2 := upTo_step lY hlt hYi
          rw [e1] at r7I
          rw [e2] at r7O
          have HR := Lib.hid (And.intro r7I (And.intro r7O (And.intro k7 b7)))
          clear r7I r7O k7 b7 e1 e2 hXi hYi
          go_wp2_with fail
          go_roundw
          case rel => exact ⟨i + 1, by go_num, by omega, HR.out⟩
          case measure => simp [intOf]; omega
      · have hi64 : i = 64 := by omega
        subst hi64
        rw [upTo_n lX] at hI
        rw [upTo_n lY] at hO
        obtain ⟨cx, hcx⟩ : ∃ cx, cx = dgA X := ⟨_, rfl⟩
        obtain ⟨cy, hcy⟩ : ∃ cy, cy = dgA Y := ⟨_, rfl⟩
        have hIx : wr.heap[w.heap.size]? = some (rowT 67 cx) := by rw [hcx]; exact hI
        have hOy : wr.heap[w.heap.size + 1]? = some (rowT 67 cy) := by rw [hcy]; exact hO
        have HSX : Hid (cx.size = 64 ∧ cx.all (·.oneCell') = true) := Lib.hid (by rw [hcx]; exact ⟨by rw [dgA_size, lX], Array.all_eq_true_iff_forall_mem.2 (fun v hv => dgA_one X v (by simpa using hv))⟩)
        have HSY : Hid (cy.size = 64 ∧ cy.all (·.oneCell') = true) := Lib.hid (by rw [hcy]; exact ⟨by rw [dgA_size, lY], Array.all_eq_true_iff_forall_mem.2 (fun v hv => dgA_one Y v (by simpa using hv))⟩)
        have HEX : Hid (cx = dgA (xorL 54 (padK k)) ∧ cy = dgA (xorL 92 (padK k))) := Lib.hid ⟨by rw [hcx, HXE.out.1], by rw [hcy, HXE.out.2]⟩
        have HH := Lib.hid (And.intro hIx hOy)
        clear hcx hcy hI hO hIx hOy lX lY HX HY HXE hkb HK
        go_upto_region 12 with fail
        refine wp_region_noPanic ?_
        refine wp_region_held_drew (S := fun w' => w'.heap[w.heap.size]? = some (rowT 67 cx) ∧ w'.heap[w.heap.size + 1]? = some (rowT 67 cy)) (by kernel_rfl) (by exact HH.out) (fun hHeld => ?_)
        refine reg_take 0 (v := .agg cx) (by rfl) (by kernel_rfl) (by kernel_rfl) (by kernel_rfl) (fun _ _ _ h => h) (by rfl) ?_ (by assumption) ?_
        · (intro wq hSq; exact exec_loadT 67 Tryd.underlying67 size64 (.tmp 2) rfl _ rfl cx hSq.1 HSX.out.1)
        try simp only [Act.put, List.setIfInBounds_toArray, List.set_cons_zero, List.set_cons_succ]
        refine reg_take 1 (v := .agg cy) (by rfl) (by kernel_rfl) (by kernel_rfl) (by kernel_rfl) (fun _ _ _ h => h) (by rfl) ?_ (by assumption) ?_
        · (intro wq hSq; exact exec_loadT 67 Tryd.underlying67 size64 (.tmp 3) rfl _ rfl cy hSq.2 HSY.out.1)
        try simp only [Act.put, List.setIfInBounds_toArray, List.set_cons_zero, List.set_cons_succ]
        refine reg_one 2 (by rfl) (by kernel_rfl) (by rfl) (fun K hK => ?_)
        (refine wp_storeR 67 (.tmp 2) (.tmp 43) rfl _ rfl cx cx rfl (by exact HH.out.1) (by rw [HSX.out.1]; exact size64) rfl HSX.out.2 ?_; rw [setRow_self _ _ _ _ _ (by exact HH.out.1)])
        refine hK.out _ _ ?_ (fun hHeld => ?_)
        · exact HH.out
        clear hK K
        try simp only [Act.put, List.setIfInBounds_toArray, List.set_cons_zero, List.set_cons_succ]
        refine reg_one 3 (by rfl) (by kernel_rfl) (by rfl) (fun K hK => ?_)
        (refine wp_storeR 67 (.tmp 3) (.tmp 44) rfl _ rfl cy cy rfl (by exact HH.out.2) (by rw [HSY.out.1]; exact size64) rfl HSY.out.2 ?_; rw [setRow_self _ _ _ _ _ (by exact HH.out.2)])
        refine hK.out _ _ ?_ (fun hHeld => ?_)
        · exact HH.out
        clear hK K
        try simp only [Act.put, List.setIfInBounds_toArray, List.set_cons_zero, List.set_cons_succ]
        refine wpAnyH_done (by kernel_rfl) (noPanic_mk ?_) _
        go_wp2_with fail
        exact bodyPost_ret (v := .tuple #[.agg cx, .agg cy]) (res_two Tryd.results36 _ _ _ _ cx cy rfl rfl (by exact HH.out.1) (by exact HH.out.2) HSX.out.1 HSY.out.1) rfl ⟨by rw [HEX.out.1, HEX.out.2], by exact hb.drew⟩
end Go.Proofs.YtjkcdnangmjoeaaDoor
