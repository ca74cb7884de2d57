/-
  What is proved here: what the reference list's Put comes to, at this seat's numbers. Conditions: the list's length.
-/
import Derived.Test.YtlphbkhcdnbbnaaSkipRefW
import Derived.Deep.DeepCutAuto
import Derived.Deep.CutBlock
import Derived.BigQuiet
namespace Go.Proofs.Ytlphbkhcdnbbnaa
open Go.RowKit

/-- the reference's list lies where it lay, or in a block of the call's own -/
def RefFr (w w' : World) (R : Nat) : Prop := ∀ v', w'.cell? ⟨R, 0, none⟩ = some v' → w.cell? ⟨R, 0, none⟩ = some v' ∨ ∀ g, v'.ownBlock = some g → w.heap.size ≤ g
theorem RefFr.of_below {w w' : World} {R : Nat} (h : Below w.heap.size w w') (hR : R < w.heap.size) : RefFr w w' R := fun v' hv => .inl ((h.cell (p := ⟨R, 0, none⟩) hR).symm.trans hv)
/-- where an entry is put: the entries ahead of it are taken, the next is not ahead -/
theorem put_at {E : List Ent} {e : Ent} {k : Nat} (hk : k ≤ E.length) (h : ∀ i (hi : i < E.length), i < k → aheadE E[i] e = true) (hx : ∀ (hlt : k < E.length), aheadE E[k] e = false) : E.takeWhile (fun x => aheadE x e) = E.take k ∧ E.dropWhile (fun x => aheadE x e) = E.drop k := by
  induction E generalizing k with
  | nil => simp
  | cons a E ih =>
    cases k with
    | zero =>
      have := hx (by simp)
      simp only [List.getElem_cons_zero] at this
      simp [List.takeWhile_cons, List.dropWhile_cons, this]
    | succ k =>
      have h0 := h 0 (by simp) (by omega)
      simp only [List.getElem_cons_zero] at h0
      have h1 := ih (k := k) (by simpa using hk) (fun i hi hik => h (i + 1) (by simpa using hi) (by omega)) (fun hlt => hx (by simpa using hlt))
      simp [List.takeWhile_cons, List.dropWhile_cons, h0, h1.1, h1.2]
set_option maxRecDepth 100000 in
set_option maxHeartbeats 4000000 in
theorem rPut_any (base R : Nat) (E : List Ent) (e : Ent) (w : World) (h : RL w base R E) (hn : E.length ≤ 1000) (hu : e.user.size ≤ 9223372036854775807) (hv : e.value.size ≤ 9223372036854775807) (hbase : base ≤ w.heap.size) :
    Calls Try.prog 14 #[.pointer (some ⟨R, 0, none⟩), entV e] w fun en w' => en = .returned (.int .i64 ((putE E e).1 : Int)) ∧ RL w' base R (putE E e).2 ∧ RefFr w w' R ∧ w.grownBy w' (some R) := by
  have hRlt := h.lt
  obtain ⟨v, hc0, hown, hne, hRb⟩ := h.cell0
  obtain ⟨A, c, rfl, hlc, hcm, hr⟩ := hown.se.form
  have hcm2 : c ≤ 9223372036854775807 := by unfold maxLen at hcm; omega
  clear hcm
  go_enter Try.func14, Try.ntmps14
  go_wp2_with fail
  have b1 : Below w.heap.size w (w.alloc (entObj e)) := balloc (bself w) _
  have rE1 := heap_alloc_new w (entObj e)
  obtain ⟨⟨a0, a1, a2, a3⟩, _, _, _, _⟩ := kcells4 rE1
  go_wp2_with fail
  refine (rRight_any e _ hu hv).mono ?_
  rintro en w2 ⟨rfl, hb2⟩
  have b2 := bstep b1 hb2
  have rE2 := keep13 hb2
  have z2 := hb2.size
  simp only [World.size_alloc] at z2
  clear a0 a1 a2 a3
  cases hri : rightE e with
  | false =>
    have HP : Hid (putE E e = (1, E)) := Lib.hid (by unfold putE; rw [hri]; rfl)
    go_wp2_with fail
    go_ret
    exact ⟨by rw [HP.out]; rfl, by rw [HP.out]; exact h.on b2 (Nat.le_refl _), RefFr.of_below b2 hRlt, b2.os, b2.tape, b2.output, b2.size, fun k hk _ => b2.block k hk⟩
  | true =>
    go_wp2_with fail
    have hr2 := hr.below b2
    have hc2 : w2.cell? ⟨R, 0, none⟩ = some (.slice A E.length c) := (b2.cell (p := ⟨R, 0, none⟩) hRlt).trans hc0
    go_loopw [5] (fun iv wr => ∃ k : Nat, iv = .int .i64 k ∧ k ≤ E.length ∧ Hid (∀ i (hi : i < E.length), i < k → aheadE E[i] e = true) ∧ Below w2.heap.size w2 wr) (fun iv _ => E.length - (intOf iv).toNat)
    case atStart => exact ⟨0, rfl, Nat.zero_le _, Lib.hid (fun i _ h => by omega), bself w2⟩
    case round =>
      obtain ⟨k, rfl, hk, HA, hbr⟩ := hrel
      have b3 := bstep b2 hbr
      have hc3 : wr.cell? ⟨R, 0, none⟩ = some (.slice A E.length c) := (hbr.cell (p := ⟨R, 0, none⟩) (by simp; omega)).trans hc2
      have rE3 := (hbr.block _ (by omega)).trans rE2
      have z3 := hbr.size
      obtain ⟨⟨a0, a1, a2, a3⟩, _, _, _, _⟩ := kcells4 rE3
      go_upto_region 4 with fail
      go_cut [27] (fun cv wx => ∃ bk : Bool, cv = .bool bk ∧ Hid ((bk = true → ∃ hlt : k < E.length, aheadE E[k] e = true) ∧ (bk = false → ∀ hlt : k < E.length, aheadE E[k] e = false)) ∧ Below wr.heap.size wr wx)
      case first =>
        by_cases hlt : k < E.length
        · obtain ⟨b, o, rfl, hb, c0, c1, c2, c3⟩ := (hr2.below (hbr.mono (by omega))).ent rfl hlt
          obtain ⟨x, hx⟩ : ∃ x, x = E[k] := ⟨_, rfl⟩
          rw [← hx] at c0 c1 c2 c3
          have HX := Lib.hid hx
          clear hx
          have KS : Hid (∀ w', Below wr.heap.size wr w' → (w'.cell? ⟨R, 0, none⟩ = some (.slice (some ⟨b, o, none⟩) E.length c) ∧ w'.cell? ⟨b, o + k * 4, none⟩ = some (.string x.user) ∧ w'.cell? ⟨b, o + k * 4 + 1, none⟩ = some (.int .u64 (x.seq.toNat : Int)) ∧ w'.cell? ⟨b, o + k * 4 + 2, none⟩ = some (.int .u8 (x.kind.toNat : Int)) ∧ w'.cell? ⟨b, o + k * 4 + 3, none⟩ = some (.string x.value) ∧ w'.cell? ⟨w.heap.size, 0, none⟩ = some (.string e.user) ∧ w'.cell? ⟨w.heap.size, 1, none⟩ = some (.int .u64 (e.seq.toNat : Int)) ∧ w'.cell? ⟨w.heap.size, 2, none⟩ = some (.int .u8 (e.kind.toNat : Int)) ∧ w'.cell? ⟨w.heap.size, 3, none⟩ = some (.string e.value))) := Lib.hid (fun w' h' =>
            ⟨(h'.cell (p := ⟨R, 0, none⟩) (by simp; omega)).trans hc3, (h'.cell (by simp; omega)).trans c0, (h'.cell (by simp; omega)).trans c1, (h'.cell (by simp; omega)).trans c2, (h'.cell (by simp; omega)).trans c3, (h'.cell (by simp; omega)).trans a0, (h'.cell (by simp; omega)).trans a1, (h'.cell (by simp; omega)).trans a2, (h'.cell (by simp; omega)).trans a3⟩)
          refine wp_region_noPanic ?_
          refine wp_region_held_drew (S := fun w' => w'.cell? ⟨R, 0, none⟩ = some (.slice (some ⟨b, o, none⟩) E.length c) ∧ w'.cell? ⟨b, o + k * 4, none⟩ = some (.string x.user) ∧ w'.cell? ⟨b, o + k * 4 + 1, none⟩ = some (.int .u64 (x.seq.toNat : Int)) ∧ w'.cell? ⟨b, o + k * 4 + 2, none⟩ = some (.int .u8 (x.kind.toNat : Int)) ∧ w'.cell? ⟨b, o + k * 4 + 3, none⟩ = some (.string x.value) ∧ w'.cell? ⟨w.heap.size, 0, none⟩ = some (.string e.user) ∧ w'.cell? ⟨w.heap.size, 1, none⟩ = some (.int .u64 (e.seq.toNat : Int)) ∧ w'.cell? ⟨w.heap.size, 2, none⟩ = some (.int .u8 (e.kind.toNat : Int)) ∧ w'.cell? ⟨w.heap.size, 3, none⟩ = some (.string e.value)) (by kernel_rfl) (KS.out _ (bdrew (bself wr))) (fun hHeld => ?_)
          clear c0 c1 c2 c3 a0 a1 a2 a3
          refine reg_take 0 (v := ?_) (by rfl) (by kernel_rfl) (by kernel_rfl) (by kernel_rfl) (fun _ _ _ h => h) (by rfl) ?_ (by assumption) ?_
          rotate_left
          · (intro wq hSq; (try dsimp only at hSq); go_split_ands; go_simp; (try with_reducible rfl))
          try simp only [Act.put, List.setIfInBounds_toArray, List.set_cons_zero, List.set_cons_succ]
          refine reg_take 1 (v := ?_) (by rfl) (by kernel_rfl) (by kernel_rfl) (by kernel_rfl) (fun _ _ _ h => h) (by rfl) ?_ (by assumption) ?_
          rotate_left
          · (intro wq hSq; (try dsimp only at hSq); go_split_ands; go_simp; (try with_reducible rfl))
          try simp only [Act.put, List.setIfInBounds_toArray, List.set_cons_zero, List.set_cons_succ]
          refine reg_take 2 (v := ?_) (by rfl) (by kernel_rfl) (by kernel_rfl) (by kernel_rfl) (fun _ _ _ h => h) (by rfl) ?_ (by assumption) ?_
          rotate_left
          · (intro wq hSq; (try dsimp only at hSq); go_split_ands; go_simp; (try with_reducible rfl))
          try simp only [Act.put, List.setIfInBounds_toArray, List.set_cons_zero, List.set_cons_succ]
          refine reg_take 3 (v := ?_) (by rfl) (by kernel_rfl) (by kernel_rfl) (by kernel_rfl) (fun _ _ _ h => h) (by rfl) ?_ (by assumption) ?_
          rotate_left
          · (intro wq hSq; (try dsimp only at hSq); go_split_ands; go_simp; (try with_reducible rfl))
          try simp only [Act.put, List.setIfInBounds_toArray, List.set_cons_zero, List.set_cons_succ]
          refine reg_take 4 (v := ?_) (by rfl) (by kernel_rfl) (by kernel_rfl) (by kernel_rfl) (fun _ _ _ h => h) (by rfl) ?_ (by assumption) ?_
          rotate_left
          · (intro wq hSq; (try dsimp only at hSq); go_split_ands; go_simp; (try with_reducible rfl))
          try simp only [Act.put, List.setIfInBounds_toArray, List.set_cons_zero, List.set_cons_succ]
          refine reg_take 5 (v := ?_) (by rfl) (by kernel_rfl) (by kernel_rfl) (by kernel_rfl) (fun _ _ _ h => h) (by rfl) ?_ (by assumption) ?_
          rotate_left
          · (intro wq hSq; (try dsimp only at hSq); go_split_ands; go_simp; (try with_reducible rfl))
          try simp only [Act.put, List.setIfInBounds_toArray, List.set_cons_zero, List.set_cons_succ]
          refine reg_take 6 (v := ?_) (by rfl) (by kernel_rfl) (by kernel_rfl) (by kernel_rfl) (fun _ _ _ h => h) (by rfl) ?_ (by assumption) ?_
          rotate_left
          · (intro wq hSq; (try dsimp only at hSq); go_split_ands; go_simp; (try with_reducible rfl))
          try simp only [Act.put, List.setIfInBounds_toArray, List.set_cons_zero, List.set_cons_succ]
          refine reg_take 7 (v := ?_) (by rfl) (by kernel_rfl) (by kernel_rfl) (by kernel_rfl) (fun _ _ _ h => h) (by rfl) ?_ (by assumption) ?_
          rotate_left
          · (intro wq hSq; (try dsimp only at hSq); go_split_ands; go_simp; (try with_reducible rfl))
          try simp only [Act.put, List.setIfInBounds_toArray, List.set_cons_zero, List.set_cons_succ]
          refine reg_take 8 (v := ?_) (by rfl) (by kernel_rfl) (by kernel_rfl) (by kernel_rfl) (fun _ _ _ h => h) (by rfl) ?_ (by assumption) ?_
          rotate_left
          · (intro wq hSq; (try dsimp only at hSq); go_split_ands; go_simp; (try with_reducible rfl))
          try simp only [Act.put, List.setIfInBounds_toArray, List.set_cons_zero, List.set_cons_succ]
          refine reg_take 9 (v := ?_) (by rfl) (by kernel_rfl) (by kernel_rfl) (by kernel_rfl) (fun _ _ _ h => h) (by rfl) ?_ (by assumption) ?_
          rotate_left
          · (intro wq hSq; (try dsimp only at hSq); go_split_ands; go_simp; (try with_reducible rfl))
          try simp only [Act.put, List.setIfInBounds_toArray, List.set_cons_zero, List.set_cons_succ]
          refine reg_take 10 (v := ?_) (by rfl) (by kernel_rfl) (by kernel_rfl) (by kernel_rfl) (fun _ _ _ h => h) (by rfl) ?_ (by assumption) ?_
          rotate_left
          · (intro wq hSq; (try dsimp only at hSq); go_split_ands; go_simp; (try with_reducible rfl))
          try simp only [Act.put, List.setIfInBounds_toArray, List.set_cons_zero, List.set_cons_succ]
          refine reg_take 11 (v := ?_) (by rfl) (by kernel_rfl) (by kernel_rfl) (by kernel_rfl) (fun _ _ _ h => h) (by rfl) ?_ (by assumption) ?_
          rotate_left
          · (intro wq hSq; (try dsimp only at hSq); go_split_ands; go_simp; (try with_reducible rfl))
          try simp only [Act.put, List.setIfInBounds_toArray, List.set_cons_zero, List.set_cons_succ]
          refine reg_take 12 (v := ?_) (by rfl) (by kernel_rfl) (by kernel_rfl) (by kernel_rfl) (fun _ _ _ h => h) (by rfl) ?_ (by assumption) ?_
          rotate_left
          · (intro wq hSq; (try dsimp only at hSq); go_split_ands; go_simp; (try with_reducible rfl))
          try simp only [Act.put, List.setIfInBounds_toArray, List.set_cons_zero, List.set_cons_succ]
          refine reg_take 13 (v := ?_) (by rfl) (by kernel_rfl) (by kernel_rfl) (by kernel_rfl) (fun _ _ _ h => h) (by rfl) ?_ (by assumption) ?_
          rotate_left
          · (intro wq hSq; (try dsimp only at hSq); go_split_ands; go_simp; (try with_reducible rfl))
          try simp only [Act.put, List.setIfInBounds_toArray, List.set_cons_zero, List.set_cons_succ]
          refine reg_take 14 (v := ?_) (by rfl) (by kernel_rfl) (by kernel_rfl) (by kernel_rfl) (fun _ _ _ h => h) (by rfl) ?_ (by assumption) ?_
          rotate_left
          · (intro wq hSq; (try dsimp only at hSq); go_split_ands; go_simp; (try with_reducible rfl))
          try simp only [Act.put, List.setIfInBounds_toArray, List.set_cons_zero, List.set_cons_succ]
          refine reg_take 15 (v := ?_) (by rfl) (by kernel_rfl) (by kernel_rfl) (by kernel_rfl) (fun _ _ _ h => h) (by rfl) ?_ (by assumption) ?_
          rotate_left
          · (intro wq hSq; (try dsimp only at hSq); go_split_ands; go_simp; (try with_reducible rfl))
          try simp only [Act.put, List.setIfInBounds_toArray, List.set_cons_zero, List.set_cons_succ]
          refine reg_one 16 (by rfl) (by kernel_rfl) (by rfl) (fun K hK => ?_)
          (go_simp; go_at_call 27; refine (rAhead_any x e _).mono ?_; rintro e1 w5 ⟨rfl, hb5⟩; go_wp2_with fail)
          refine hK.out _ _ ?_ (fun hHeld => ?_)
          · exact KS.out _ (bstep (bdrew (bself wr)) hb5)
          clear hK K
          try simp only [Act.put, List.setIfInBounds_toArray, List.set_cons_zero, List.set_cons_succ]
          refine reg_take 17 (v := ?_) (by rfl) (by kernel_rfl) (by kernel_rfl) (by kernel_rfl) (fun _ _ _ h => h) (by rfl) ?_ (by assumption) ?_
          rotate_left
          · (intro wq hSq; (try dsimp only at hSq); go_split_ands; go_simp; (try with_reducible rfl))
          try simp only [Act.put, List.setIfInBounds_toArray, List.set_cons_zero, List.set_cons_succ]
          refine wpAnyH_done (by kernel_rfl) (noPanic_mk ?_) _
          go_wp2_with fail
          go_meet
          exact ⟨_, rfl, Lib.hid ⟨fun h => ⟨hlt, by rw [← HX.out]; exact h⟩, fun h _ => by rw [← HX.out]; exact h⟩, bstep (bdrew (bself wr)) hb5⟩
        · go_quiet (fail)
          go_wp2_with fail
          go_meet
          exact ⟨false, rfl, Lib.hid ⟨fun h => absurd h (by decide), fun _ h => absurd h hlt⟩, bdrewN (bself wr) _⟩
      case rest =>
        obtain ⟨bk, rfl, HB, hbc⟩ := hcut
        have b4 := bstep b3 hbc
        have hc4 : wc.cell? ⟨R, 0, none⟩ = some (.slice A E.length c) := (hbc.cell (p := ⟨R, 0, none⟩) (by simp; omega)).trans hc3
        have rE4 := (hbc.block _ (by omega)).trans rE3
        have z4 := hbc.size
        clear a0 a1 a2 a3 hc3
        obtain ⟨⟨a0, a1, a2, a3⟩, _, _, _, _⟩ := kcells4 rE4
        cases bk with
        | true =>
          obtain ⟨hlt, hah⟩ := HB.out.1 rfl
          have HAH := Lib.hid hah
          clear hah
          go_wp2_with fail
          go_roundw
          case rel => exact ⟨k + 1, by go_num, by omega, Lib.hid (fun i hi hik => by
            rcases Nat.lt_or_ge i k with h | h
            · exact HA.out i hi h
            · obtain rfl : i = k := by omega
              exact HAH.out), bstep hbr hbc⟩
          case measure => simp [intOf]; omega
        | false =>
          have HW := Lib.hid (put_at hk HA.out (HB.out.2 rfl))
          go_upto_region 6 with fail
          go_cut [62] (fun cv wx => cv = .bool (there e E) ∧ DrewOf wc wx)
          case first =>
            by_cases hlt : k < E.length
            · obtain ⟨b, o, rfl, hb, c0, c1, c2, c3⟩ := (hr2.below ((hbr.trans (hbc.mono (by omega))).mono (by omega))).ent rfl hlt
              have HT : Hid (there e E = ((E[k].user.toList == e.user.toList) && decide (E[k].seq.toNat = e.seq.toNat))) := Lib.hid (by
                unfold there
                rw [HW.out.2, List.drop_eq_getElem_cons hlt]
                rfl)
              generalize hx : E[k] = x at c0 c1 c2 c3 HT
              clear hx
              cases hu1 : (x.user.toList == e.user.toList) with
              | false =>
                go_quiet (fail)
                go_wp2_with fail
                go_meet
                exact ⟨by rw [HT.out, hu1]; rfl, ⟨_, rfl⟩⟩
              | true =>
                go_quiet (fail)
                all_goals go_wp2_with fail
                all_goals go_meet
                all_goals exact ⟨by rw [HT.out, hu1, natEqB]; rfl, ⟨_, rfl⟩⟩
            · have HT : Hid (there e E = false) := Lib.hid (by
                unfold there
                rw [HW.out.2, List.drop_eq_nil_of_le (by omega)]
                rfl)
              go_quiet (fail)
              go_wp2_with fail
              go_meet
              exact ⟨by rw [HT.out], ⟨_, rfl⟩⟩
          case rest =>
            obtain ⟨rfl, hdr⟩ := hcut
            obtain ⟨nq, rfl⟩ := hdr
            cases hth : there e E with
            | true =>
              have HP : Hid (putE E e = (3, E)) := Lib.hid (by unfold putE; rw [hri, hth]; rfl)
              go_wp2_with fail
              go_ret
              have bZ := bdrewN b4 nq
              exact ⟨by rw [HP.out]; rfl, by rw [HP.out]; exact h.on bZ (Nat.le_refl _), RefFr.of_below bZ hRlt, bZ.os, bZ.tape, bZ.output, bZ.size, fun k hk _ => bZ.block k hk⟩
            | false =>
              have HP : Hid (putE E e = (0, insE e E)) := Lib.hid (by unfold putE; rw [hri, hth]; rfl)
              clear hth
              clear a0 a1 a2 a3
              have bZ := bdrewN b4 nq
              have hzW : w.heap.size + 1 ≤ (wc.drewN nq).heap.size := by show w.heap.size + 1 ≤ wc.heap.size; omega
              have rE5 : (wc.drewN nq).heap[w.heap.size]? = some (entObj e) := rE4
              generalize wc.drewN nq = W at bZ rE5 hzW
              have q0 : (W.alloc (.cells #[] 25)).cell? ⟨R, 0, none⟩ = some (.slice A E.length c) := ((balloc bZ (.cells #[] 25)).cell (p := ⟨R, 0, none⟩) hRlt).trans hc0
              have own0 : OE (W.alloc (.cells #[] 25)) w.heap.size (.slice (some ⟨W.heap.size, 0, none⟩) 0 0) [] := World.ownsRow_made W #[] 0 (by omega) (by simp [maxLen]) rfl
              have srcT : SE (W.alloc (.cells #[] 25)) w.heap.size (.slice A k c) (E.take k) := by
                exact SE.takeR ⟨A, c, rfl, hlc, by unfold maxLen; omega, hr.below (balloc bZ (.cells #[] 25))⟩ hk
              obtain ⟨T, hT⟩ : ∃ T, T = E.take k := ⟨_, rfl⟩
              have hk8 : T.length ≤ 1000 := by rw [hT, List.length_take]; omega
              rw [← hT] at srcT
              have HT := Lib.hid hT
              clear hT
              have hq8 : ∀ (v8 : Value) (w8 : World), (W.alloc (.cells #[] 25)).grownBy w8 (Value.slice (some ⟨W.heap.size, 0, none⟩) 0 0).ownBlock → Below w.heap.size (W.alloc (.cells #[] 25)) w8 → Below w.heap.size w w8 ∧ w.heap.size + 1 ≤ w8.heap.size ∧ w8.heap[w.heap.size]? = some (entObj e) := fun v8 w8 hg8 hb8 => by
                have h1 := (balloc bZ (.cells #[] 25)).trans hb8
                have h2 := hb8.size
                rw [World.size_alloc] at h2
                refine ⟨h1, by omega, (hg8.block w.heap.size (by rw [World.size_alloc]; omega) ?_).trans ((Below.heap_alloc W (.cells #[] 25) _ (by omega)).trans rE5)⟩
                show some w.heap.size ≠ some W.heap.size
                intro e
                injection e with e
                omega
              have HQ := Lib.hid hq8
              clear hq8
              go_upto_region 9 with (at_builtin; go_loud (refine wl_appEs rfl (.tmp 63) (.tmp 69) rfl w.heap.size _ [] rfl own0 _ _ T rfl srcT (by simp only [List.length_nil, maxLen]; omega) (Fits.of _ _ _ (by simp only [List.length_nil]; omega)) (by rw [World.size_alloc]; omega) ?_); intro v8 w8 hown8 hg8 ho8 hb8; obtain ⟨b8, z8, rE8⟩ := HQ.out v8 w8 hg8 hb8; obtain ⟨⟨a0, a1, a2, a3⟩, _, _, _, _⟩ := kcells4 rE8; rw [List.nil_append] at hown8; obtain ⟨A8, c8, hv8, hl8, hm8, hr8⟩ := hown8.se.form; subst hv8)
              clear own0 srcT HQ q0
              go_upto_region 10 with (at_builtin; go_loud (refine wl_appE rfl (.tmp 71) (.tmp 73) rfl w.heap.size _ T rfl hown8 e rfl rfl (by simp only [maxLen]; omega) (Fits.one _ _ (by omega)) (by omega) ?_); intro v9 w9 hown9 hg9 hb9; have b9 := b8.trans hb9; obtain ⟨A9, c9, hv9, hl9, hm9, hr9⟩ := hown9.se.form; subst hv9)
              have hownA : OE w9 w.heap.size (.slice A9 (T.length + 1) c9) (T ++ [e]) := by have := hown9; rw [List.length_append, List.length_singleton] at this; exact this
              have q9 : w9.cell? ⟨R, 0, none⟩ = some (.slice A E.length c) := (b9.cell (p := ⟨R, 0, none⟩) hRlt).trans hc0
              have r9 : w9.heap[R]? = some (refObj (.slice A E.length c)) := (b9.block R hRlt).trans hRb
              have f9 : w9.frozen? ⟨R, 0, none⟩ = false := by simp [World.frozen?, r9]
              have z9 := b9.size
              have srcD := SE.cutR (w := w9) (B := w.heap.size) (A := A) (c := c) (E := E) ⟨A, c, rfl, hlc, by unfold maxLen; omega, hr.below b9⟩ hk
              clear hown9 hl9 hm9 hr9 hr8 hl8 hm8 hown8 rE8 a0 a1 a2 a3
              have hD8 : (E.drop k).length ≤ 1000 := by rw [List.length_drop]; omega
              have HF : Hid (∀ (v10 : Value) (w10 : World), OE w10 w.heap.size v10 ((T ++ [e]) ++ E.drop k) → Below w.heap.size w9 w10 → ∃ A10 n10 c10, v10 = .slice A10 n10 c10 ∧ w10.heap[R]? = some (refObj (.slice A E.length c)) ∧ w10.cell? ⟨R, 0, none⟩ = some (.slice A E.length c) ∧ w10.frozen? ⟨R, 0, none⟩ = false ∧ RL (w10.setCell ⟨R, 0, none⟩ v10) base R (insE e E) ∧ RefFr w (w10.setCell ⟨R, 0, none⟩ v10) R ∧ w.grownBy (w10.setCell ⟨R, 0, none⟩ v10) (some R)) := Lib.hid (fun v10 w10 hown10 hb10 => by
                have b10 := b9.trans hb10
                have hR10 := (b10.block R hRlt).trans hRb
                have hZ : insE e E = (T ++ [e]) ++ E.drop k := by
                  unfold insE
                  rw [HW.out.1, HW.out.2, HT.out]
                  simp
                obtain ⟨A10, c10, hv10, _, _, _⟩ := hown10.se.form
                have hlt10 := hown10.lt
                refine ⟨A10, _, c10, hv10, hR10, cell_of_row w10 R 0 _ _ _ hR10, by simp [World.frozen?, hR10], ⟨v10, by simp [World.setCell, Array.getElem?_modify, hR10], ?_, ?_⟩, ?_, ?_⟩
                · rw [hZ]
                  exact (hown10.grown (grown_set w10 (g := R) (p := ⟨R, 0, none⟩) rfl v10) (by
                    cases ho : v10.ownBlock with
                    | none => exact .inl rfl
                    | some x => right; intro e2; injection e2 with e2; have := (hlt10 x ho).1; omega)).rebase hbase
                · intro e2
                  have := (hlt10 R e2).1
                  omega
                · intro v' hv'
                  have hc : (w10.setCell ⟨R, 0, none⟩ v10).heap[R]? = some (refObj v10) := by simp [World.setCell, Array.getElem?_modify, hR10]
                  rw [cell_of_row _ R 0 _ _ _ hc] at hv'
                  obtain rfl : v10 = v' := by simpa using hv'
                  exact .inr (fun g hg => (hlt10 g hg).1)
                · exact ⟨b10.os, b10.tape, b10.output, by rw [World.size_setCell]; exact b10.size, fun j hj hne => (Below.heap_setCell _ _ _ _ (fun e2 => hne (by rw [e2]))).trans (b10.block j hj)⟩)
              by_cases hck : k = c
              · have hd : E.drop k = [] := List.drop_eq_nil_of_le (by omega)
                rw [if_pos hck.symm, show E.length - k = 0 from by omega, show c - k = 0 from by omega] at srcD
                go_wp2_with (at_builtin; go_loud (refine wl_appEs rfl (.tmp 76) (.tmp 82) rfl w.heap.size _ (T ++ [e]) rfl hownA _ _ (E.drop k) rfl srcD (by rw [List.length_append, List.length_singleton]; simp only [maxLen]; omega) (Fits.of _ _ _ (by rw [List.length_append, List.length_singleton]; omega)) (by omega) ?_); intro v10 w10 hown10 hg10 ho10 hb10; obtain ⟨A10, n10, c10, hv10, hR10, q10, f10, hfin⟩ := HF.out v10 w10 hown10 hb10; subst hv10)
                go_ret
                exact ⟨by rw [HP.out]; rfl, by rw [HP.out]; exact hfin.1, hfin.2.1, hfin.2.2⟩
              · have hck2 : ¬ c = k := fun e => hck e.symm
                clear hck
                rw [if_neg hck2] at srcD
                go_wp2_with (at_builtin; go_loud (refine wl_appEs rfl (.tmp 76) (.tmp 82) rfl w.heap.size _ (T ++ [e]) rfl hownA _ _ (E.drop k) rfl srcD (by rw [List.length_append, List.length_singleton]; simp only [maxLen]; omega) (Fits.of _ _ _ (by rw [List.length_append, List.length_singleton]; omega)) (by omega) ?_); intro v10 w10 hown10 hg10 ho10 hb10; obtain ⟨A10, n10, c10, hv10, hR10, q10, f10, hfin⟩ := HF.out v10 w10 hown10 hb10; subst hv10)
                go_ret
                exact ⟨by rw [HP.out]; rfl, by rw [HP.out]; exact hfin.1, hfin.2.1, hfin.2.2⟩
end Go.Proofs.Ytlphbkhcdnbbnaa
