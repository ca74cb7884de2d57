/-
  What is proved here: what the reference list's Put, From, Get and Size come to, at this seat's numbers. Conditions: the lists' lengths.
-/
import Derived.Test.YtlphbkhcdnbbnaaRisesW
import Derived.Test.YtlphbkhcdnbbnaaRegion
import Derived.Test.YtlphbkhcdnbbnaaSkipArgs
import Derived.Test.YtlphbkhcdnbbnaaShown13
namespace Go.Proofs.Ytlphbkhcdnbbnaa
open Go.RowKit

abbrev refObj (v : Value) : Obj := .cells #[v] 43 (0, 0)
/-- block R is the reference's list of the entries E -/
def RL (w : World) (base R : Nat) (E : List Ent) : Prop := ∃ v, w.heap[R]? = some (refObj v) ∧ OE w base v E ∧ v.ownBlock ≠ some R
theorem RL.lt {w : World} {base R : Nat} {E : List Ent} (h : RL w base R E) : R < w.heap.size := by
  obtain ⟨v, h, _, _⟩ := h
  exact (Array.getElem?_eq_some_iff.1 h).1
theorem RL.on {w w' : World} {base B R : Nat} {E : List Ent} (h : RL w base R E) (hb : Below B w w') (hB : w.heap.size ≤ B) : RL w' base R E := by
  have hlt := h.lt
  obtain ⟨v, h1, h2, h3⟩ := h
  exact ⟨v, (hb.block R (by omega)).trans h1, h2.below hb hB, h3⟩
theorem RL.cell0 {w : World} {base R : Nat} {E : List Ent} (h : RL w base R E) : ∃ v, w.cell? ⟨R, 0, none⟩ = some v ∧ OE w base v E ∧ v.ownBlock ≠ some R ∧ w.heap[R]? = some (refObj v) := by
  obtain ⟨v, h1, h2, h3⟩ := h
  exact ⟨v, cell_of_row w R 0 _ _ _ h1, h2, h3, h1⟩
theorem sumE_take (E : List Ent) (k : Nat) (hk : k < E.length) : sizeE (E.take (k + 1)) = sizeE (E.take k) + (E[k].user.size + E[k].value.size + 8) := by
  unfold sizeE
  rw [← List.take_append_getElem hk, List.map_append, List.sum_append]
  simp
theorem sumE_le (E : List Ent) (k : Nat) : sizeE (E.take k) ≤ sizeE E := by
  unfold sizeE
  conv => rhs; rw [← List.take_append_drop k E]
  rw [List.map_append, List.sum_append]; omega
set_option maxHeartbeats 2000000 in
theorem rSize_any (v : Value) (E : List Ent) (w : World) (hv : SE w w.heap.size v E) (hE : OkE E) (hn : E.length ≤ 1000) : Calls Try.prog 17 #[v] w fun e w' => e = .returned (.int .i64 (sizeE E : Int)) ∧ Below w.heap.size w w' := by
  have hs := hE.size
  obtain ⟨A, c, rfl, hlc, hcm, hr⟩ := hv
  have hcm2 : c ≤ 9223372036854775807 := by unfold maxLen at hcm; omega
  clear hcm
  go_enter Try.func17, Try.ntmps17
  go_wp2
  go_loopw [3, 4] (fun sv iv wr => ∃ k : Nat, iv = .int .i64 k ∧ sv = .int .i64 (sizeE (E.take k) : Int) ∧ k ≤ E.length ∧ Below w.heap.size w wr) (fun _ iv _ => E.length - (intOf iv).toNat)
  case atStart => exact ⟨0, rfl, rfl, Nat.zero_le _, Below.refl _ _⟩
  case round =>
    obtain ⟨k, rfl, rfl, hk, hbr⟩ := hrel
    have hle := sumE_le E k
    by_cases hlt : k < E.length
    · obtain ⟨b, o, rfl, hb, c0, c1, c2, c3⟩ := (hr.below hbr).ent rfl hlt
      have hst := sumE_take E k hlt
      have hle2 := sumE_le E (k + 1)
      obtain ⟨x, hx⟩ : ∃ x, x = E[k] := ⟨_, rfl⟩
      rw [← hx] at c0 c1 c2 c3 hst
      have HX := Lib.hid (And.intro hst hle2)
      have hxu : x.user.size + x.value.size + 8 ≤ 66568000 := by omega
      clear hx hst hle2
      generalize hS : sizeE (E.take k) = S at *
      have g1 : IntKind.i64.wrap ((S : Int) + (x.user.size : Int)) = (S : Int) + (x.user.size : Int) := IntWalk.i64_in _ (by omega)
      have g2 : IntKind.i64.wrap ((S : Int) + (x.user.size : Int) + (x.value.size : Int)) = (S : Int) + (x.user.size : Int) + (x.value.size : Int) := IntWalk.i64_in _ (by omega)
      have g3 : IntKind.i64.wrap ((S : Int) + (x.user.size : Int) + (x.value.size : Int) + 8) = (S : Int) + (x.user.size : Int) + (x.value.size : Int) + 8 := IntWalk.i64_in _ (by omega)
      go_wp2
      go_quiet (fail)
      go_wp2
      go_roundw
      case rel => exact ⟨k + 1, by go_num, by rw [HX.out.1]; push_cast; congr 1; omega, by omega, bdrewN hbr _⟩
      case measure => simp [intOf]; omega
    · have hke : k = E.length := by omega
      subst hke
      rw [List.take_length] at *
      go_wp2
      go_ret
      exact ⟨rfl, hbr⟩
theorem filter_rest {E : List Ent} (hE : OkE E) (q : Ent) : E.filter (fun x => !aheadE x q) = restE E q := by
  have h := List.takeWhile_append_dropWhile (p := fun x => aheadE x q) (l := E)
  unfold restE
  conv => lhs; rw [← h]
  rw [List.filter_append, List.filter_eq_nil_iff.2 (fun x hx => by rw [takeWhile_ahead x hx]; decide), List.filter_eq_self.2 (fun x hx => by rw [dropWhile_ahead hE.1 x hx]; rfl), List.nil_append]
theorem filter_take {p : Ent → Bool} (E : List Ent) (k : Nat) (hk : k < E.length) : (E.take (k + 1)).filter p = (E.take k).filter p ++ (if p E[k] = true then [E[k]] else []) := by
  rw [← List.take_append_getElem hk, List.filter_append]
  congr 1
  simp [List.filter_cons]
set_option maxHeartbeats 2000000 in
theorem rFrom_any (base R : Nat) (E : List Ent) (u : ByteArray) (s : UInt64) (n : Int) (w : World) (h : RL w base R E) (hE : OkE E) (hn : E.length ≤ 1000) (hn1 : -9223372036854775808 ≤ n) (hn2 : n ≤ 9223372036854775807) :
    Calls Try.prog 21 #[.pointer (some ⟨R, 0, none⟩), .string u, .int .u64 (s.toNat : Int), .int .i64 n] w fun e w' => ∃ v, e = .returned v ∧ OE w' w.heap.size v ((restE E ⟨u, s, 0, ⟨#[]⟩⟩).take n.toNat) ∧ Below w.heap.size w w' := by
  have hRlt := h.lt
  obtain ⟨v, hc0, hown, hne, hRb⟩ := h.cell0
  obtain ⟨A, c, rfl, hlc, hcm, hr⟩ := hown.se.form
  have hfr := filter_rest hE ⟨u, s, 0, ⟨#[]⟩⟩
  rw [← hfr]
  clear hfr hown hne
  go_enter Try.func21, Try.ntmps21
  go_wp2_with fail
  go_loopw [9, 10] (fun ov iv wr => ∃ k : Nat, iv = .int .i64 k ∧ k ≤ E.length ∧ OE wr w.heap.size ov ((E.take k).filter (fun x => !aheadE x ⟨u, s, 0, ⟨#[]⟩⟩)) ∧ (((E.take k).filter (fun x => !aheadE x ⟨u, s, 0, ⟨#[]⟩⟩)).length : Int) ≤ (if n < 0 then 0 else n) ∧ Below w.heap.size w wr) (fun _ iv _ => E.length - (intOf iv).toNat)
  case atStart => exact ⟨0, rfl, Nat.zero_le _, OE.nil_ _ _, by simp; split <;> omega, bself w⟩
  case round =>
    obtain ⟨k, rfl, hk, hown, hpn, hbr⟩ := hrel
    have hcr : wr.cell? ⟨R, 0, none⟩ = some (.slice A E.length c) := (hbr.cell (p := ⟨R, 0, none⟩) hRlt).trans hc0
    have hsz := hbr.size
    have hfl : ((E.take k).filter (fun x => !aheadE x ⟨u, s, 0, ⟨#[]⟩⟩)).length ≤ k := Nat.le_trans (List.length_filter_le _ _) (by rw [List.length_take]; omega)
    obtain ⟨P, hP⟩ : ∃ P, P = (E.take k).filter (fun x => !aheadE x ⟨u, s, 0, ⟨#[]⟩⟩) := ⟨_, rfl⟩
    have hsplit : E.filter (fun x => !aheadE x ⟨u, s, 0, ⟨#[]⟩⟩) = P ++ (E.drop k).filter (fun x => !aheadE x ⟨u, s, 0, ⟨#[]⟩⟩) := by
      rw [hP, ← List.filter_append, List.take_append_drop]
    rw [← hP] at hown hpn hfl
    have HP := Lib.hid (And.intro hP hsplit)
    clear hP hsplit
    obtain ⟨A9, c9, hv9, hl9, hm9, hr9⟩ := hown.se.form
    subst hv9
    by_cases hlt : k < E.length
    · by_cases hpl : (P.length : Int) < n
      · obtain ⟨b, o, rfl, hb, c0, c1, c2, c3⟩ := (hr.below hbr).ent rfl hlt
        have hft := filter_take (p := fun x => !aheadE x ⟨u, s, 0, ⟨#[]⟩⟩) E k hlt
        generalize hx : E[k] = x at c0 c1 c2 c3 hft
        have HT : Hid (∀ b, aheadE x ⟨u, s, 0, ⟨#[]⟩⟩ = b → (E.take (k + 1)).filter (fun x => !aheadE x ⟨u, s, 0, ⟨#[]⟩⟩) = P ++ if b = true then [] else [x]) := Lib.hid (fun b hb => by
          rw [hft, HP.out.1, hb]; cases b <;> rfl)
        clear hft hx
        go_wp2_with fail
        refine (rAhead_any x ⟨u, s, 0, ⟨#[]⟩⟩ _).mono ?_
        rintro en w5 ⟨rfl, hb5⟩
        have hb5' := bstep hbr hb5
        have hz5 := hb5.size
        have hcr5 : w5.cell? ⟨R, 0, none⟩ = some (.slice (some ⟨b, o, none⟩) E.length c) := (hb5'.cell (p := ⟨R, 0, none⟩) hRlt).trans hc0
        have hown5 := hown.below hb5 (Nat.le_refl _)
        have k0 := (hb5.cell (p := ⟨b, o + k * 4, none⟩) (by simp; omega)).trans c0
        have k1 := (hb5.cell (p := ⟨b, o + k * 4 + 1, none⟩) (by simp; omega)).trans c1
        have k2 := (hb5.cell (p := ⟨b, o + k * 4 + 2, none⟩) (by simp; omega)).trans c2
        have k3 := (hb5.cell (p := ⟨b, o + k * 4 + 3, none⟩) (by simp; omega)).trans c3
        clear c0 c1 c2 c3 hcr
        cases hah : aheadE x ⟨u, s, 0, ⟨#[]⟩⟩ with
        | true =>
          have HTT := Lib.hid (HT.out true hah)
          clear hah HT
          go_wp2_with fail
          go_roundw
          case rel => exact ⟨k + 1, by go_num, by omega, by rw [HTT.out]; simpa using hown5, by rw [HTT.out]; simpa using hpn, hb5'⟩
          case measure => simp [intOf]; omega
        | false =>
          have HTT := Lib.hid (HT.out false hah)
          clear hah HT
          go_wp2_with (at_builtin; refine wl_appE rfl (.tmp 38) (.tmp 46) rfl w.heap.size _ P rfl hown5 x rfl rfl (by simp only [maxLen]; omega) (Fits.one _ _ (by omega)) (by omega) ?_; intro v2 w2 hown2 _ hb2; have hb2' := hb5'.trans hb2)
          go_roundw
          case rel => exact ⟨k + 1, by go_num, by omega, by rw [HTT.out]; exact hown2, by rw [HTT.out]; simp only [List.length_append, List.length_singleton, Bool.false_eq_true, if_false]; split <;> omega, hb2'⟩
          case measure => simp [intOf]; omega
      · have HT : Hid ((E.filter (fun x => !aheadE x ⟨u, s, 0, ⟨#[]⟩⟩)).take n.toNat = P) := Lib.hid (by
          rw [HP.out.2]
          exact List.take_left' (by split at hpn <;> omega))
        go_wp2_with fail
        go_ret
        exact ⟨_, rfl, by rw [HT.out]; exact hown, hbr⟩
    · have HT : Hid ((E.filter (fun x => !aheadE x ⟨u, s, 0, ⟨#[]⟩⟩)).take n.toNat = P) := Lib.hid (by
        rw [HP.out.2, List.drop_eq_nil_of_le (by omega), List.filter_nil, List.append_nil]
        exact List.take_of_length_le (by split at hpn <;> omega))
      go_wp2_with fail
      go_ret
      exact ⟨_, rfl, by rw [HT.out]; exact hown, hbr⟩
set_option maxHeartbeats 2000000 in
theorem rGet_any (base R : Nat) (E : List Ent) (u : ByteArray) (s : UInt64) (w : World) (h : RL w base R E) (hE : OkE E) (hn : E.length ≤ 1000) :
    Calls Try.prog 18 #[.pointer (some ⟨R, 0, none⟩), .string u, .int .u64 (s.toNat : Int)] w fun e w' => ∃ x b, Hid (getX E ⟨u, s, 0, ⟨#[]⟩⟩ = (x, b)) ∧ e = .returned (.tuple #[entV x, .bool b]) ∧ Below w.heap.size w w' := by
  have HF : Hid (∀ W : World, RL W base R E → Calls Try.prog 21 #[.pointer (some ⟨R, 0, none⟩), .string u, .int .u64 (s.toNat : Int), .int .i64 1] W fun e w' => ∃ v, e = .returned v ∧ OE w' W.heap.size v ((restE E ⟨u, s, 0, ⟨#[]⟩⟩).take 1) ∧ Below W.heap.size W w') := Lib.hid (fun W h => by
    have := rFrom_any base R E u s 1 W h hE hn (by decide) (by decide)
    exact this)
  go_enter Try.func18, Try.ntmps18
  go_wp2_with fail
  have h1 := fun o => h.on (balloc (bself w) o) (Nat.le_refl _)
  refine (HF.out _ (h1 _)).mono ?_
  rintro en w2 ⟨v, rfl, hown, hb2⟩
  have r2 := keep13 hb2
  have z2 := hb2.size
  have b2 := (balloc (bself w) (.cells #[.string ⟨#[]⟩, .int .u64 0, .int .u8 0, .string ⟨#[]⟩] 25)).trans (hb2.mono (by simp))
  obtain ⟨⟨a0, a1, a2, a3⟩, f0, f1, f2, f3⟩ := kcells4 r2
  have hbe : ∀ u0 u1 u2 u3, Below w.heap.size w ((((w2.setCell ⟨w.heap.size, 0, none⟩ u0).setCell ⟨w.heap.size, 1, none⟩ u1).setCell ⟨w.heap.size, 2, none⟩ u2).setCell ⟨w.heap.size, 3, none⟩ u3) := fun u0 u1 u2 u3 => (((b2.setCell (Nat.le_refl _) _).setCell (Nat.le_refl _) _).setCell (Nat.le_refl _) _).setCell (Nat.le_refl _) _
  cases hre : restE E ⟨u, s, 0, ⟨#[]⟩⟩ with
  | nil =>
    have HX : Hid (getX E ⟨u, s, 0, ⟨#[]⟩⟩ = (zeroE, false)) := Lib.hid (by unfold getX; rw [hre]; rfl)
    rw [hre] at hown
    obtain ⟨A, c, rfl, hl, hm, hr⟩ := hown.se.form
    go_wp2_with fail
    exact bodyPost_ret (v := .tuple #[.agg #[.string ⟨#[]⟩, .int .u64 0, .int .u8 0, .string ⟨#[]⟩], .bool false]) (by simp [results, Try.results18, go_sem, a0, a1, a2, a3]) rfl ⟨zeroE, false, HX, rfl, hbe _ _ _ _⟩
  | cons x r =>
    rw [hre] at hown
    obtain ⟨A, c, rfl, hl, hm, hr⟩ := hown.se.form
    simp only [List.take_succ_cons, List.take_zero] at hr hl
    obtain ⟨b, o, rfl, hb, c0, c1, c2, c3⟩ := hr.ent rfl (k := 0) (by simp)
    simp only [List.getElem_cons_zero, Nat.zero_mul, Nat.add_zero] at c0 c1 c2 c3
    cases hue : (x.user.toList == u.toList) with
    | true =>
      have HX : Hid (getX E ⟨u, s, 0, ⟨#[]⟩⟩ = (x, true)) := Lib.hid (by unfold getX; rw [hre]; simp only [List.head?_cons, hue, if_true])
      go_wp2_with fail
      exact bodyPost_ret (v := .tuple #[entV x, .bool true]) (by simp [results, Try.results18, go_sem, a0, a1, a2, a3, entV]) rfl ⟨x, true, HX, rfl, hbe _ _ _ _⟩
    | false =>
      have HX : Hid (getX E ⟨u, s, 0, ⟨#[]⟩⟩ = (zeroE, false)) := Lib.hid (by unfold getX; rw [hre]; simp only [List.head?_cons, hue, Bool.false_eq_true, if_false])
      go_wp2_with fail
      exact bodyPost_ret (v := .tuple #[.agg #[.string ⟨#[]⟩, .int .u64 0, .int .u8 0, .string ⟨#[]⟩], .bool false]) (by simp [results, Try.results18, go_sem, a0, a1, a2, a3]) rfl ⟨zeroE, false, HX, rfl, hbe _ _ _ _⟩
end Go.Proofs.Ytlphbkhcdnbbnaa
