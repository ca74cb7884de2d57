/-
  What is proved here: what Take of the reference comes to, at this seat's numbers. Condition: the bytes' length.
-/
import Derived.Test.YtjkcdnangmjoeaaNameW11
namespace Go.Proofs.Ytjkcdnangmjoeaa
open Go.RowKit

section
variable {P : Program} {ops : Array Oper} {Q : Exit → Act → World → Prop} {md : Region.Mode} {S : World → Prop}
/-- a guarded operation that is not wanted -/
theorem reg_skip (i : Nat) {oi : Oper} {r : List Oper} {fuel : Nat} {listed : Array Bool} {a : Act} {w : World} (hi : ops.toList.drop i = oi :: r)
    (hs : Region.noSelect ops = true) (hf : Region.free md ops listed i = true) (hr : (Region.ready md ops listed).contains i = true)
    (hQ : ∀ c a w, Q (.panic c) (a.put oi.dst undef) w → Q (.panic c) a w) (hw : Region.wanted oi (yielded ops a.tmps) = false) (hS : S w)
    (h : wpAnyH P md ops Q S fuel (listed.setIfInBounds i true) (a.put oi.dst undef) w) : wpAnyH P md ops Q S (fuel + 1) listed a w :=
  wpAnyH_take (get_of_drop hi) hs hf hr hQ (.inr ⟨hw, rfl⟩) hS h
end
theorem take_ref {l : List UInt8} {h : Hd} (h30 : ¬ l.length < 30) (hh : h = readH l) (hR : rightH h = true) (he : layH h = l.take 30) : takeV l = .tuple #[hdV h, .int .i64 0] := by
  unfold takeV; rw [takeH_ref l (by omega), ← hh, if_pos ⟨hR, he⟩]; rfl
theorem take_refN {l : List UInt8} {h : Hd} (h30 : ¬ l.length < 30) (hh : h = readH l) (he : ¬ layH h = l.take 30) : takeV l = .tuple #[.agg #[.int .u8 0, .int .u8 0, .int .u64 0, .int .u64 0, .int .u64 0], .int .i64 70] := by
  unfold takeV; rw [takeH_ref l (by omega), ← hh, if_neg (fun x => he x.2)]; rfl
theorem exec_b2sN {o : Oper} {a : Act} {w : World} (x : Operand) (ho : o.op = .convert 37 9 x) (v : Value) (hx : a.eval x = v) (B : Nat) (l : List UInt8) (hr : SB w B v l) : (execOp a.eval o).run Try.prog w = .ok (.value (.string ⟨l.toArray⟩)) w := by
  unfold execOp
  simp only [ho, hx, Sem.run_bind, Sem.run_pure, Result.andThen_ok, run_b2s w v B l hr]
/-- the reference's reader stands at j -/
def RefX (base R : Nat) (T : List UInt8) (j : Nat) (W : World) : Prop := ∃ i, RefAt W base R T i 0 ∧ T.drop i = T.drop j
set_option maxHeartbeats 2000000 in
theorem rTake_any (v : Value) (l : List UInt8) (w : World) (hv : SB w w.heap.size v l) (hl : l.length ≤ 140737488355328) :
    Calls Try.prog 16 #[v] w fun e w' => e = .returned (takeV l) ∧ Below w.heap.size w w' := by
  obtain ⟨A, c, rfl, hc, hm, hr⟩ := hv
  by_cases h30 : l.length < 30
  · have HT : Hid (takeV l = .tuple #[.agg #[.int .u8 0, .int .u8 0, .int .u64 0, .int .u64 0, .int .u64 0], .int .i64 10]) := Lib.hid (by unfold takeV takeH; rw [if_pos h30]; rfl)
    go_enter Try.func16, Try.ntmps16
    go_wp2
    exact bodyPost_ret (v := .tuple #[.agg #[.int .u8 0, .int .u8 0, .int .u64 0, .int .u64 0, .int .u64 0], .int .i64 10]) (by simp [results, Try.results16, go_sem] <;> rfl) rfl ⟨by rw [HT.out], balloc (bself w) _⟩
  · obtain ⟨b, o, rfl, hb, hcell⟩ := hr.at_ (by omega)
    have hm' : c ≤ 9223372036854775807 := by unfold maxLen at hm; omega
    obtain ⟨h, hh⟩ : ∃ h, h = readH l := ⟨_, rfl⟩
    obtain ⟨k, lv, g, e, n⟩ := h
    have hk : k = (l.getD 4 0).toNat ∧ lv = (l.getD 5 0).toNat ∧ g = leN ((l.drop 6).take 8) ∧ e = leN ((l.drop 14).take 8) ∧ n = leN ((l.drop 22).take 8) := by
      injection hh with e1 e2 e3 e4 e5
      exact ⟨e1, e2, e3, e4, e5⟩
    obtain ⟨hk1, hk2, hk3, hk4, hk5⟩ := hk
    have c4 := head4 l hcell 4 (by omega)
    have c5 := head4 l hcell 5 (by omega)
    rw [← hk1] at c4
    rw [← hk2] at c5
    have KS : Hid (∀ w', Below w.heap.size w w' → w'.cell? ⟨b, o + 4, none⟩ = some (.int .u8 (k : Int)) ∧ w'.cell? ⟨b, o + 5, none⟩ = some (.int .u8 (lv : Int))) := Lib.hid (fun w' h => ⟨(h.cell (by simpa using hb)).trans c4, (h.cell (by simpa using hb)).trans c5⟩)
    clear c4 c5
    have HF : Hid (∀ R W x j, leN ((l.drop (6 + j)).take 8) = x → j + 8 ≤ 24 → RefX w.heap.size R (tl24 l) j W → Calls Try.prog 29 #[.pointer (some ⟨R, 0, none⟩), .int .i64 8] W fun en w' => en = .returned (.int .u64 (x : Int)) ∧ RefX w.heap.size R (tl24 l) (j + 8) w' ∧ W.grownBy w' (some R)) := Lib.hid (fun R W x j hx hj hrd => by
      obtain ⟨i, hrd, hij⟩ := hrd
      have h := qFix_any w.heap.size R _ i 0 8 W hrd (by rw [tl24_len l (by omega)]; omega) (by omega) (by omega)
      rw [hij, sFix_24 l (by omega) j hj, hx] at h
      exact h)
    have HX := Lib.hid (And.intro hk3.symm (And.intro hk4.symm hk5.symm))
    have HH := Lib.hid hh
    clear hk1 hk2 hk3 hk4 hk5 hh
    go_enter Try.func16, Try.ntmps16
    go_upto_region 4 with (first
      | (refine wl_takeB (o := ⟨some 11, _, _, _, _, _⟩) rfl (.tmp 10) (.const (.int .i64 6)) (.const (.int .i64 30)) rfl (some ⟨b, o, none⟩) c 6 30 w.heap.size .i64 .i64 l rfl rfl rfl (by omega) (by omega) hc hm (hr.alloc (Nat.le_refl _) _) ?_; intro v1 hs1; obtain ⟨A1, c1, rfl, hc1, hm1, hr1⟩ := hs1))
    have h24 : ((l.take 30).drop 6).length = 24 := tl24_len l (by omega)
    have hmin : min 30 l.length - 6 = 24 := by omega
    rw [hmin]
    rw [h24] at hc1 hr1
    generalize hW1 : World.alloc _ _ = w1
    have b1 : Below w.heap.size w w1 := by rw [← hW1]; exact balloc (balloc (bself w) _) _
    have r1 : HdAt w1 w.heap.size hd0 := by rw [← hW1]; exact heap_alloc2_old w _ _
    have rd1 : RefX w.heap.size (w.heap.size + 1) (tl24 l) 0 w1 := by
      refine ⟨0, ⟨A1, c1, ?_, by unfold tl24; rw [h24]; exact hc1, hm1, Nat.zero_le _, Nat.le_succ _, ?_⟩, rfl⟩
      · unfold tl24; rw [h24, ← hW1]; exact heap_alloc2_new w _ _
      · unfold tl24; rw [h24, ← hW1]; exact hr1.alloc (by simp) _
    have z0 : w.heap.size + 2 ≤ w1.heap.size := by rw [← hW1]; simp
    clear hr1 hc1 hm1 h24 hmin hW1
    obtain ⟨R, hRe⟩ : ∃ R, R = w.heap.size + 1 := ⟨_, rfl⟩
    have z1 : w.heap.size + 1 ≤ R := by omega
    rw [← hRe] at rd1 ⊢
    have z2 : R < w1.heap.size := by omega
    clear hRe
    have hlt4 : (4 : Int) < (l.length : Int) := by omega
    have hlt5 : (5 : Int) < (l.length : Int) := by omega
    refine wp_region_noPanic ?_
    refine wp_region_held_drew (S := fun w' => w'.cell? ⟨b, o + 4, none⟩ = some (.int .u8 (k : Int)) ∧ w'.cell? ⟨b, o + 5, none⟩ = some (.int .u8 (lv : Int))) (by kernel_rfl) (KS.out _ (bdrew b1)) (fun hHeld => ?_)
    refine reg_take 0 (v := ?_) (by rfl) (by kernel_rfl) (by kernel_rfl) (by kernel_rfl) (fun _ _ _ h => h) (by rfl) ?_ (by assumption) ?_
    rotate_left
    · (intro wq hSq; (try dsimp only at hSq); go_split_ands; go_simp; (try with_reducible rfl))
    try simp only [Act.put, List.setIfInBounds_toArray, List.set_cons_zero, List.set_cons_succ]
    refine reg_take 1 (v := ?_) (by rfl) (by kernel_rfl) (by kernel_rfl) (by kernel_rfl) (fun _ _ _ h => h) (by rfl) ?_ (by assumption) ?_
    rotate_left
    · (intro wq hSq; (try dsimp only at hSq); go_split_ands; go_simp; (try with_reducible rfl))
    try simp only [Act.put, List.setIfInBounds_toArray, List.set_cons_zero, List.set_cons_succ]
    refine reg_take 2 (v := ?_) (by rfl) (by kernel_rfl) (by kernel_rfl) (by kernel_rfl) (fun _ _ _ h => h) (by rfl) ?_ (by assumption) ?_
    rotate_left
    · (intro wq hSq; (try dsimp only at hSq); go_split_ands; go_simp; (try with_reducible rfl))
    try simp only [Act.put, List.setIfInBounds_toArray, List.set_cons_zero, List.set_cons_succ]
    refine reg_take 3 (v := ?_) (by rfl) (by kernel_rfl) (by kernel_rfl) (by kernel_rfl) (fun _ _ _ h => h) (by rfl) ?_ (by assumption) ?_
    rotate_left
    · (intro wq hSq; (try dsimp only at hSq); go_split_ands; go_simp; (try with_reducible rfl))
    try simp only [Act.put, List.setIfInBounds_toArray, List.set_cons_zero, List.set_cons_succ]
    refine reg_take 4 (v := ?_) (by rfl) (by kernel_rfl) (by kernel_rfl) (by kernel_rfl) (fun _ _ _ h => h) (by rfl) ?_ (by assumption) ?_
    rotate_left
    · (intro wq hSq; (try dsimp only at hSq); go_split_ands; go_simp; (try with_reducible rfl))
    try simp only [Act.put, List.setIfInBounds_toArray, List.set_cons_zero, List.set_cons_succ]
    refine reg_take 5 (v := ?_) (by rfl) (by kernel_rfl) (by kernel_rfl) (by kernel_rfl) (fun _ _ _ h => h) (by rfl) ?_ (by assumption) ?_
    rotate_left
    · (intro wq hSq; (try dsimp only at hSq); go_split_ands; go_simp; (try with_reducible rfl))
    try simp only [Act.put, List.setIfInBounds_toArray, List.set_cons_zero, List.set_cons_succ]
    refine reg_take 6 (v := ?_) (by rfl) (by kernel_rfl) (by kernel_rfl) (by kernel_rfl) (fun _ _ _ h => h) (by rfl) ?_ (by assumption) ?_
    rotate_left
    · (intro wq hSq; (try dsimp only at hSq); go_split_ands; go_simp; (try with_reducible rfl))
    try simp only [Act.put, List.setIfInBounds_toArray, List.set_cons_zero, List.set_cons_succ]
    refine reg_one 7 (by rfl) (by kernel_rfl) (by rfl) (fun K hK => ?_)
    (go_simp)
    refine hK.out _ _ ?_ (fun hHeld => ?_)
    · exact KS.out _ (balloc (bdrew b1) _)
    clear hK K
    try simp only [Act.put, List.setIfInBounds_toArray, List.set_cons_zero, List.set_cons_succ]
    refine reg_one 8 (by rfl) (by kernel_rfl) (by rfl) (fun K hK => ?_)
    (go_simp)
    refine hK.out _ _ ?_ (fun hHeld => ?_)
    · exact KS.out _ (balloc (bdrew b1) _)
    clear hK K
    try simp only [Act.put, List.setIfInBounds_toArray, List.set_cons_zero, List.set_cons_succ]
    refine wpAnyH_done (by kernel_rfl) (noPanic_mk ?_) _
    obtain ⟨H, hH⟩ : ∃ H, H = w1.heap.size := ⟨_, rfl⟩
    have zR : R < H := by omega
    have KX : Hid (∀ j W, RefX w.heap.size R (tl24 l) j W → ∀ i u, RefX w.heap.size R (tl24 l) j (W.setCell ⟨H, i, none⟩ u)) := Lib.hid (fun j W hr i u => by
      obtain ⟨i', h1, h2⟩ := hr
      exact ⟨i', h1.far (g := H) (grown_set (p := ⟨H, i, none⟩) W rfl u) (by omega) (by omega), h2⟩)
    have t2 : TkSt (RefX w.heap.size R (tl24 l) 0) w (w1.alloc (.cells #[.int .u8 (k : Int), .int .u8 (lv : Int), .int .u64 0, .int .u64 0, .int .u64 0] 36)).drew H ⟨k, lv, 0, 0, 0⟩ := by
      refine ⟨by rw [hH]; exact heap_alloc_new w1 _, ?_, ?_, bdrew (balloc b1 _), by omega⟩
      · obtain ⟨i', h1, h2⟩ := rd1
        exact ⟨i', (h1.far (g := w1.heap.size) (World.grownBy_alloc w1 _ _) (by omega) (by omega)).drewN 1, h2⟩
      · exact (heap_alloc_old w1 _ (by omega)).trans r1
    rw [← hH]
    generalize World.drew _ = w2 at t2 ⊢
    clear rd1 r1 hH b1 hHeld
    go_upto_region 6 with (go_at_call 29; refine (HF.out R _ g 0 HX.out.1 (by omega) t2.rd).mono ?_; rintro _ w3 ⟨rfl, hx3, hg3⟩; have t3 := t2.call (X' := RefX w.heap.size R (tl24 l) 8) hg3 (Nat.ne_of_lt zR) z1 hx3; obtain ⟨_, _, c2, c3, c4⟩ := t3.hd.cells; have f2 := t3.hd.free 2)
    have t4 := t3.setG (fun W h i u => KX.out _ W h i u) g
    clear t2 t3 hg3 hx3 c2 c3 c4 f2
    generalize World.setCell w3 _ _ = w4 at t4 ⊢
    go_upto_region 7 with (go_at_call 29; refine (HF.out R _ e 8 HX.out.2.1 (by omega) t4.rd).mono ?_; rintro _ w5 ⟨rfl, hx5, hg5⟩; have t5 := t4.call (X' := RefX w.heap.size R (tl24 l) 16) hg5 (Nat.ne_of_lt zR) z1 hx5; obtain ⟨_, _, c2, c3, c4⟩ := t5.hd.cells; have f2 := t5.hd.free 3)
    have t6 := t5.setE (fun W h i u => KX.out _ W h i u) e
    clear t4 t5 hg5 hx5 c2 c3 c4 f2
    generalize World.setCell w5 _ _ = w6 at t6 ⊢
    go_upto_region 8 with (go_at_call 29; refine (HF.out R _ n 16 HX.out.2.2 (by omega) t6.rd).mono ?_; rintro _ w7 ⟨rfl, hx7, hg7⟩; have t7 := t6.call (X' := RefX w.heap.size R (tl24 l) 24) hg7 (Nat.ne_of_lt zR) z1 hx7; obtain ⟨_, _, c2, c3, c4⟩ := t7.hd.cells; have f2 := t7.hd.free 4)
    have t8 := t7.setN (fun W h i u => KX.out _ W h i u) n
    clear t6 t7 hg7 hx7 c2 c3 c4 f2
    generalize World.setCell w7 _ _ = w8 at t8 ⊢
    have bt := t8.be
    have g5 : (Addr.add ⟨b, o, none⟩ 0) = ⟨b, o, none⟩ := by simp [Addr.add]
    have h30l : (l.take 30).length = 30 := by rw [List.length_take]; omega
    have h30s : SB w8 w.heap.size (.slice (some ⟨b, o, none⟩) 30 c) (l.take 30) := by
      have h := (hr.below bt).take (k := 30) (by omega)
      rw [Nat.mul_one, ← bv_take] at h
      refine ⟨_, c, by rw [h30l], by omega, hm, ?_⟩
      rw [h30l]; exact h
    have hok := readH_ok l
    rw [← HH.out] at hok
    have HR := Lib.hid (fun W => rRight_any ⟨k, lv, g, e, n⟩ W hok)
    have HL := Lib.hid (fun W => rLay_any ⟨k, lv, g, e, n⟩ W hok)
    have HS : Hid (∀ w9, Below w8.heap.size w8 w9 → (w9.cell? ⟨H, 0, none⟩ = some (.int .u8 (k : Int)) ∧ w9.cell? ⟨H, 1, none⟩ = some (.int .u8 (lv : Int)) ∧ w9.cell? ⟨H, 2, none⟩ = some (.int .u64 (g : Int)) ∧ w9.cell? ⟨H, 3, none⟩ = some (.int .u64 (e : Int)) ∧ w9.cell? ⟨H, 4, none⟩ = some (.int .u64 (n : Int))) ∧ SB w9 w.heap.size (.slice (some ⟨b, o, none⟩) 30 c) (l.take 30)) := Lib.hid (fun w9 hb9 => ⟨(t8.fin hb9).1, h30s.below (hb9.mono bt.size)⟩)
    obtain ⟨P30, hP30⟩ : ∃ P, l.take 30 = P := ⟨_, rfl⟩
    obtain ⟨LH, hLH⟩ : ∃ P, layH ⟨k, lv, g, e, n⟩ = P := ⟨_, rfl⟩
    rw [hP30] at HS
    rw [hLH] at HL
    clear h30s h30l hok KX HF HX KS hcell
    have hm30 : (30 : Int) ≤ (c : Int) := by omega
    clear hm hr
    cases hRt : rightH ⟨k, lv, g, e, n⟩ with
    | false =>
      have HT := Lib.hid (take_badR h30 HH.out hRt)
      have HR2 : Hid (∀ W, Calls Try.prog 18 #[.agg #[.int .u8 (k : Int), .int .u8 (lv : Int), .int .u64 (g : Int), .int .u64 (e : Int), .int .u64 (n : Int)]] W fun en w' => en = .returned (.bool false) ∧ Below W.heap.size W w') := Lib.hid (fun W => by have := HR.out W; rw [hRt] at this; exact this)
      clear HR hRt
      refine wp_region_noPanic ?_
      refine wp_region_held_drew (S := fun w9 => (w9.cell? ⟨H, 0, none⟩ = some (.int .u8 (k : Int)) ∧ w9.cell? ⟨H, 1, none⟩ = some (.int .u8 (lv : Int)) ∧ w9.cell? ⟨H, 2, none⟩ = some (.int .u64 (g : Int)) ∧ w9.cell? ⟨H, 3, none⟩ = some (.int .u64 (e : Int)) ∧ w9.cell? ⟨H, 4, none⟩ = some (.int .u64 (n : Int))) ∧ SB w9 w.heap.size (.slice (some ⟨b, o, none⟩) 30 c) P30) (by kernel_rfl) (HS.out _ (bdrew (bself w8))) (fun hHeld => ?_)
      refine reg_take 0 (v := ?_) (by rfl) (by kernel_rfl) (by kernel_rfl) (by kernel_rfl) (fun _ _ _ h => h) (by rfl) ?_ (by assumption) ?_
      rotate_left
      · (intro wq hSq; (try dsimp only at hSq); go_split_ands; go_simp; (try with_reducible rfl))
      try simp only [Act.put, List.setIfInBounds_toArray, List.set_cons_zero, List.set_cons_succ]
      refine reg_one 1 (by rfl) (by kernel_rfl) (by rfl) (fun K hK => ?_)
      (go_simp; go_at_call 18; refine (HR2.out _).mono ?_; rintro _ w9 ⟨rfl, hb9⟩; have hb9' := bstep (bdrew (bself w8)) hb9; go_wp2_with fail)
      refine hK.out _ _ ?_ (fun hHeld => ?_)
      · exact HS.out _ hb9'
      clear hK K
      try simp only [Act.put, List.setIfInBounds_toArray, List.set_cons_zero, List.set_cons_succ]
      refine reg_take 2 (v := ?_) (by rfl) (by kernel_rfl) (by kernel_rfl) (by kernel_rfl) (fun _ _ _ h => h) (by rfl) ?_ (by assumption) ?_
      rotate_left
      · (intro wq hSq; (try dsimp only at hSq); go_split_ands; go_simp; (try with_reducible rfl))
      try simp only [Act.put, List.setIfInBounds_toArray, List.set_cons_zero, List.set_cons_succ]
      refine reg_take 3 (v := ?_) (by rfl) (by kernel_rfl) (by kernel_rfl) (by kernel_rfl) (fun _ _ _ h => h) (by rfl) ?_ (by assumption) ?_
      rotate_left
      · (intro wq hSq; (try dsimp only at hSq); go_split_ands; go_simp; (try with_reducible rfl))
      try simp only [Act.put, List.setIfInBounds_toArray, List.set_cons_zero, List.set_cons_succ]
      refine reg_skip 4 (by rfl) (by kernel_rfl) (by kernel_rfl) (by kernel_rfl) (fun _ _ _ h => h) (by rfl) (by assumption) ?_
      try simp only [Act.put, List.setIfInBounds_toArray, List.set_cons_zero, List.set_cons_succ]
      refine reg_skip 5 (by rfl) (by kernel_rfl) (by kernel_rfl) (by kernel_rfl) (fun _ _ _ h => h) (by rfl) (by assumption) ?_
      try simp only [Act.put, List.setIfInBounds_toArray, List.set_cons_zero, List.set_cons_succ]
      refine reg_skip 6 (by rfl) (by kernel_rfl) (by kernel_rfl) (by kernel_rfl) (fun _ _ _ h => h) (by rfl) (by assumption) ?_
      try simp only [Act.put, List.setIfInBounds_toArray, List.set_cons_zero, List.set_cons_succ]
      refine reg_skip 7 (by rfl) (by kernel_rfl) (by kernel_rfl) (by kernel_rfl) (fun _ _ _ h => h) (by rfl) (by assumption) ?_
      try simp only [Act.put, List.setIfInBounds_toArray, List.set_cons_zero, List.set_cons_succ]
      refine reg_skip 8 (by rfl) (by kernel_rfl) (by kernel_rfl) (by kernel_rfl) (fun _ _ _ h => h) (by rfl) (by assumption) ?_
      try simp only [Act.put, List.setIfInBounds_toArray, List.set_cons_zero, List.set_cons_succ]
      refine reg_skip 9 (by rfl) (by kernel_rfl) (by kernel_rfl) (by kernel_rfl) (fun _ _ _ h => h) (by rfl) (by assumption) ?_
      try simp only [Act.put, List.setIfInBounds_toArray, List.set_cons_zero, List.set_cons_succ]
      refine reg_skip 10 (by rfl) (by kernel_rfl) (by kernel_rfl) (by kernel_rfl) (fun _ _ _ h => h) (by rfl) (by assumption) ?_
      try simp only [Act.put, List.setIfInBounds_toArray, List.set_cons_zero, List.set_cons_succ]
      refine reg_take 11 (v := ?_) (by rfl) (by kernel_rfl) (by kernel_rfl) (by kernel_rfl) (fun _ _ _ h => h) (by rfl) ?_ (by assumption) ?_
      rotate_left
      · (intro wq hSq; (try dsimp only at hSq); go_split_ands; go_simp; (try with_reducible rfl))
      try simp only [Act.put, List.setIfInBounds_toArray, List.set_cons_zero, List.set_cons_succ]
      refine wpAnyH_done (by kernel_rfl) (noPanic_mk ?_) _
      obtain ⟨_, ⟨⟨b0, b1, b2, b3, b4⟩, d0, d1, d2, d3, d4⟩, bu⟩ := t8.fin hb9'
      go_wp2_with fail
      exact bodyPost_ret (v := .tuple #[.agg #[.int .u8 0, .int .u8 0, .int .u64 0, .int .u64 0, .int .u64 0], .int .i64 70]) (by simp [results, Try.results16, go_sem, b0, b1, b2, b3, b4]) rfl ⟨by rw [HT.out], set5 bu (Nat.le_refl _) _ _ _ _ _⟩
    | true =>
      have HR2 : Hid (∀ W, Calls Try.prog 18 #[.agg #[.int .u8 (k : Int), .int .u8 (lv : Int), .int .u64 (g : Int), .int .u64 (e : Int), .int .u64 (n : Int)]] W fun en w' => en = .returned (.bool true) ∧ Below W.heap.size W w') := Lib.hid (fun W => by have := HR.out W; rw [hRt] at this; exact this)
      clear HR
      refine wp_region_noPanic ?_
      refine wp_region_held_drew (S := fun w9 => (w9.cell? ⟨H, 0, none⟩ = some (.int .u8 (k : Int)) ∧ w9.cell? ⟨H, 1, none⟩ = some (.int .u8 (lv : Int)) ∧ w9.cell? ⟨H, 2, none⟩ = some (.int .u64 (g : Int)) ∧ w9.cell? ⟨H, 3, none⟩ = some (.int .u64 (e : Int)) ∧ w9.cell? ⟨H, 4, none⟩ = some (.int .u64 (n : Int))) ∧ SB w9 w.heap.size (.slice (some ⟨b, o, none⟩) 30 c) P30) (by kernel_rfl) (HS.out _ (bdrew (bself w8))) (fun hHeld => ?_)
      refine reg_take 0 (v := ?_) (by rfl) (by kernel_rfl) (by kernel_rfl) (by kernel_rfl) (fun _ _ _ h => h) (by rfl) ?_ (by assumption) ?_
      rotate_left
      · (intro wq hSq; (try dsimp only at hSq); go_split_ands; go_simp; (try with_reducible rfl))
      try simp only [Act.put, List.setIfInBounds_toArray, List.set_cons_zero, List.set_cons_succ]
      refine reg_one 1 (by rfl) (by kernel_rfl) (by rfl) (fun K hK => ?_)
      (go_simp; go_at_call 18; refine (HR2.out _).mono ?_; rintro _ w9 ⟨rfl, hb9⟩; have hb9' := bstep (bdrew (bself w8)) hb9; go_wp2_with fail)
      refine hK.out _ _ ?_ (fun hHeld => ?_)
      · exact HS.out _ hb9'
      clear hK K
      try simp only [Act.put, List.setIfInBounds_toArray, List.set_cons_zero, List.set_cons_succ]
      refine reg_take 2 (v := ?_) (by rfl) (by kernel_rfl) (by kernel_rfl) (by kernel_rfl) (fun _ _ _ h => h) (by rfl) ?_ (by assumption) ?_
      rotate_left
      · (intro wq hSq; (try dsimp only at hSq); go_split_ands; go_simp; (try with_reducible rfl))
      try simp only [Act.put, List.setIfInBounds_toArray, List.set_cons_zero, List.set_cons_succ]
      refine reg_take 3 (v := ?_) (by rfl) (by kernel_rfl) (by kernel_rfl) (by kernel_rfl) (fun _ _ _ h => h) (by rfl) ?_ (by assumption) ?_
      rotate_left
      · (intro wq hSq; (try dsimp only at hSq); go_split_ands; go_simp; (try with_reducible rfl))
      try simp only [Act.put, List.setIfInBounds_toArray, List.set_cons_zero, List.set_cons_succ]
      refine reg_take 4 (v := ?_) (by rfl) (by kernel_rfl) (by kernel_rfl) (by kernel_rfl) (fun _ _ _ h => h) (by rfl) ?_ (by assumption) ?_
      rotate_left
      · (intro wq hSq; (try dsimp only at hSq); go_split_ands; go_simp; (try with_reducible rfl))
      try simp only [Act.put, List.setIfInBounds_toArray, List.set_cons_zero, List.set_cons_succ]
      refine reg_take 7 (v := ?_) (by rfl) (by kernel_rfl) (by kernel_rfl) (by kernel_rfl) (fun _ _ _ h => h) (by rfl) ?_ (by assumption) ?_
      rotate_left
      · (intro wq hSq; (try dsimp only at hSq); go_split_ands; go_simp; (try with_reducible rfl))
      try simp only [Act.put, List.setIfInBounds_toArray, List.set_cons_zero, List.set_cons_succ]
      refine reg_take 8 (v := ?_) (by rfl) (by kernel_rfl) (by kernel_rfl) (by kernel_rfl) (fun _ _ _ h => h) (by rfl) ?_ (by assumption) ?_
      rotate_left
      · (intro wq hSq; (try dsimp only at hSq); go_split_ands; go_simp; (try with_reducible rfl))
      try simp only [Act.put, List.setIfInBounds_toArray, List.set_cons_zero, List.set_cons_succ]
      refine reg_take 9 (v := .string ⟨P30.toArray⟩) (by rfl) (by kernel_rfl) (by kernel_rfl) (by kernel_rfl) (fun _ _ _ h => h) (by rfl) ?_ (by assumption) ?_
      · (intro wq hSq; exact exec_b2sN (.tmp 34) rfl _ rfl _ _ hSq.2)
      try simp only [Act.put, List.setIfInBounds_toArray, List.set_cons_zero, List.set_cons_succ]
      refine reg_one 5 (by rfl) (by kernel_rfl) (by rfl) (fun K hK => ?_)
      (go_simp; go_at_call 20; refine (HL.out _).mono ?_; rintro _ w10 ⟨r10, rfl, ho10, hb10⟩; have hb10' := bstep hb9' hb10; go_wp2_with fail)
      refine hK.out _ _ ?_ (fun hHeld => ?_)
      · exact HS.out _ hb10'
      clear hK K
      try simp only [Act.put, List.setIfInBounds_toArray, List.set_cons_zero, List.set_cons_succ]
      refine reg_add (fun w' => (convert 37 9 r10).run Try.prog w' = .ok (.string ⟨LH.toArray⟩) w') (by assumption) (run_b2s w10 r10 _ _ ho10.sb) (fun hHeld => ?_)
      by_cases he : LH = P30
      · have HT := Lib.hid (take_ref h30 HH.out hRt (by rw [hLH, hP30, he]))
        have ge : (LH == P30) = true := by rw [beq_iff_eq]; exact he
        subst he
        clear hRt hLH hP30
        refine reg_take 6 (v := ?_) (by rfl) (by kernel_rfl) (by kernel_rfl) (by kernel_rfl) (fun _ _ _ h => h) (by rfl) ?_ (by assumption) ?_
        rotate_left
        · (intro wq hSq; (try dsimp only at hSq); go_split_ands; go_simp; (try with_reducible rfl))
        try simp only [Act.put, List.setIfInBounds_toArray, List.set_cons_zero, List.set_cons_succ]
        refine reg_take 10 (v := ?_) (by rfl) (by kernel_rfl) (by kernel_rfl) (by kernel_rfl) (fun _ _ _ h => h) (by rfl) ?_ (by assumption) ?_
        rotate_left
        · (intro wq hSq; (try dsimp only at hSq); go_split_ands; go_simp; (try with_reducible rfl))
        try simp only [Act.put, List.setIfInBounds_toArray, List.set_cons_zero, List.set_cons_succ]
        refine reg_take 11 (v := ?_) (by rfl) (by kernel_rfl) (by kernel_rfl) (by kernel_rfl) (fun _ _ _ h => h) (by rfl) ?_ (by assumption) ?_
        rotate_left
        · (intro wq hSq; (try dsimp only at hSq); go_split_ands; go_simp; (try with_reducible rfl))
        try simp only [Act.put, List.setIfInBounds_toArray, List.set_cons_zero, List.set_cons_succ]
        refine wpAnyH_done (by kernel_rfl) (noPanic_mk ?_) _
        obtain ⟨⟨a0, a1, a2, a3, a4⟩, ⟨⟨b0, b1, b2, b3, b4⟩, d0, d1, d2, d3, d4⟩, bu⟩ := t8.fin hb10'
        go_wp2_with fail
        exact bodyPost_ret (v := .tuple #[.agg #[.int .u8 (k : Int), .int .u8 (lv : Int), .int .u64 (g : Int), .int .u64 (e : Int), .int .u64 (n : Int)], .int .i64 0]) (by simp [results, Try.results16, go_sem, b0, b1, b2, b3, b4]) rfl ⟨by rw [HT.out], set5 bu (Nat.le_refl _) _ _ _ _ _⟩
      · have HT := Lib.hid (take_refN h30 HH.out (by rw [hLH, hP30]; exact he))
        have ge : (LH == P30) = false := by rw [beq_eq_false_iff_ne]; exact he
        clear hRt hLH hP30
        refine reg_take 6 (v := ?_) (by rfl) (by kernel_rfl) (by kernel_rfl) (by kernel_rfl) (fun _ _ _ h => h) (by rfl) ?_ (by assumption) ?_
        rotate_left
        · (intro wq hSq; (try dsimp only at hSq); go_split_ands; go_simp; (try with_reducible rfl))
        try simp only [Act.put, List.setIfInBounds_toArray, List.set_cons_zero, List.set_cons_succ]
        refine reg_take 10 (v := ?_) (by rfl) (by kernel_rfl) (by kernel_rfl) (by kernel_rfl) (fun _ _ _ h => h) (by rfl) ?_ (by assumption) ?_
        rotate_left
        · (intro wq hSq; (try dsimp only at hSq); go_split_ands; go_simp; (try with_reducible rfl))
        try simp only [Act.put, List.setIfInBounds_toArray, List.set_cons_zero, List.set_cons_succ]
        refine reg_take 11 (v := ?_) (by rfl) (by kernel_rfl) (by kernel_rfl) (by kernel_rfl) (fun _ _ _ h => h) (by rfl) ?_ (by assumption) ?_
        rotate_left
        · (intro wq hSq; (try dsimp only at hSq); go_split_ands; go_simp; (try with_reducible rfl))
        try simp only [Act.put, List.setIfInBounds_toArray, List.set_cons_zero, List.set_cons_succ]
        refine wpAnyH_done (by kernel_rfl) (noPanic_mk ?_) _
        obtain ⟨⟨a0, a1, a2, a3, a4⟩, ⟨⟨b0, b1, b2, b3, b4⟩, d0, d1, d2, d3, d4⟩, bu⟩ := t8.fin hb10'
        go_wp2_with fail
        exact bodyPost_ret (v := .tuple #[.agg #[.int .u8 0, .int .u8 0, .int .u64 0, .int .u64 0, .int .u64 0], .int .i64 70]) (by simp [results, Try.results16, go_sem, b0, b1, b2, b3, b4]) rfl ⟨by rw [HT.out], set5 bu (Nat.le_refl _) _ _ _ _ _⟩
end Go.Proofs.Ytjkcdnangmjoeaa
