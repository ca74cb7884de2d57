/-
  What is proved here: states that lie apart; what ShaStates of tantaluslaw03 comes to, at this seat's numbers. Conditions: the tables of constants.
-/
import Derived.Test.YthhcoljhfokacaaDoorShaSumsW
namespace Go.Proofs.YthhcoljhfokacaaDoor
open Go.RowKit

/-- what is owned elsewhere stays -/
theorem OB.off {w w' : World} {base P : Nat} {v : Value} {l : List UInt8} (h : OB w base v l) (hoff : Off w w' P) (hne : ∀ k, v.ownBlock = some k → k ≠ P ∧ rowP w P ≠ some k) : OB w' base v l := by
  have hlt := h.lt
  obtain ⟨h1, h2⟩ := h
  refine ⟨h1, ?_⟩
  rcases h2 with h2 | ⟨g, cap, cur, e1, e2, e3, e4⟩
  · exact .inl h2
  · have hg := hne g (by rw [e1]; rfl)
    have hl := hlt g (by rw [e1]; rfl)
    exact .inr ⟨g, cap, cur, e1, e2, (hoff g hl.2 hg.1 hg.2).trans e3, e4⟩
theorem StAt.grown {w w' : World} {base P : Nat} {bs : List UInt8} {row : Option Nat} (h : StAt w base P bs) (hg : w.grownBy w' row) (h1 : row ≠ some P) (h2 : ∀ k, rowP w P = some k → row ≠ some k) : StAt w' base P bs ∧ rowP w' P = rowP w P := by
  have hlt := h.lt
  obtain ⟨pv, hP, ho, hne, hb⟩ := h
  have hP2 : w'.heap[P]? = some (stObj (wordsOf bs) pv (bs.length : Int)) := (hg.block P hlt (fun e => h1 e.symm)).trans hP
  refine ⟨⟨pv, hP2, ho.grown hg ?_, hne, hb⟩, by rw [rowP_of hP2, rowP_of hP]⟩
  cases hb2 : pv.ownBlock with
  | none => exact .inl rfl
  | some k => exact .inr (fun e => h2 k (by rw [rowP_of hP]; exact hb2) e.symm)
set_option maxRecDepth 100000 in
set_option maxHeartbeats 2000000 in
theorem shaStates_any (ls : List (List UInt8)) (v : Value) (W : World) (h : LL W W.heap.size v ls) (hk0 : KTab W 0) (hk1 : KTab W 1) (h1 : 1 < W.heap.size) :
    Calls Tryd.prog 5 #[v] W fun e W' => e = .returned (.bool true) ∧ Below W.heap.size W W' := by
  obtain ⟨vs, ⟨A, c, rfl, hlc, hcm, hr⟩, hvl, hvs⟩ := h
  have hcm2 : c ≤ 9223372036854775807 := by unfold maxLen at hcm; omega
  clear hcm
  have HV := Lib.hid hvs
  clear hvs
  go_enter Tryd.func5, Tryd.ntmps5
  go_wp2_with fail
  refine (shown_any _ hk1 h1).mono ?_
  rintro e w1 ⟨rfl, hb1⟩
  have z1 := hb1.size
  go_wp2_with fail
  refine (kNew_any _).mono ?_
  rintro e w2 ⟨P, rfl, hst2, hb2⟩
  have b2 := bstep hb1 hb2
  go_wp2_with fail
  go_loopw [5, 13] (fun ov iv wy => ∃ (i n : Nat) (cur : List UInt8) (Ao : Option Addr) (co : Nat), iv = .int .i64 i ∧ i ≤ ls.length ∧ ov = .slice Ao n co ∧ n ≤ 100000 ∧ Hid (n = cur.length) ∧ OB wy w1.heap.size (.slice Ao n co) cur ∧ StAt wy w1.heap.size P cur ∧ (∀ k, (Value.slice Ao n co).ownBlock = some k → k ≠ P ∧ rowP wy P ≠ some k) ∧ Below W.heap.size W wy ∧ w1.heap.size ≤ wy.heap.size) (fun _ iv _ => ls.length - (intOf iv).toNat)
  case atStart => exact ⟨0, 0, [], none, 0, rfl, Nat.zero_le _, rfl, Nat.zero_le _, Lib.hid rfl, OB.nil_ _ _, hst2, fun k hk => by simp [Value.ownBlock] at hk, b2, hb2.size⟩
  case round =>
    obtain ⟨i, n, cur, Ao, co, rfl, hi, rfl, hn, HN, hown, hst, hap, hb, hz1⟩ := hrel
    clear hst2 b2
    have hzW := hb.size
    obtain ⟨d, hd⟩ : ∃ d, dgA (shaOf cur) = d := ⟨_, rfl⟩
    have hEq : ∀ w', (Op.equalIn 10000 25 (.agg d) (.agg d)).run Tryd.prog w' = .ok true w' := fun w' => run_eqC w' d _ (shaOf_length cur) hd
    have HSUM : Hid (∀ w', Below wr.heap.size wr w' → Calls Tryd.prog 13 #[.pointer (some ⟨P, 0, none⟩)] w' fun e w'' => e = .returned (.agg d) ∧ Below w'.heap.size w' w'') := Lib.hid (fun w' h => kStSumC w1.heap.size P cur d hd w' (hst.below h) (by have := HN.out; omega) (hk1.on (bstep hb h) h1) (by have := h.size; omega))
    have HREF : Hid (∀ w', Below wr.heap.size wr w' → Calls Tryd.prog 10 #[.slice Ao n co] w' fun e w'' => e = .returned (.agg d) ∧ Below w'.heap.size w' w'') := Lib.hid (fun w' h => rSumC cur d hd _ w' (hown.sb.on h) (by have := HN.out; omega) (hk0.on0 (bstep hb h) (by omega)) (by have := h.size; omega))
    clear hd
    by_cases hlt : i < ls.length
    · obtain ⟨b0, o0, rfl, hbl, hc⟩ := hr.at_ (by omega)
      obtain ⟨u, hu⟩ : ∃ u, vs[i]? = some u := ⟨_, List.getElem?_eq_getElem (by omega)⟩
      obtain ⟨l, hL⟩ : ∃ l, ls[i]? = some l := ⟨_, List.getElem?_eq_getElem hlt⟩
      have hsb := HV.out i u l hu hL
      obtain ⟨Au, cu, rfl, _, _, _⟩ := id hsb
      have HCU : Hid (∀ w', Below W.heap.size W w' → w'.cell? ⟨b0, o0 + i, none⟩ = some (.slice Au l.length cu)) := Lib.hid (fun w' h => (h.cell (p := ⟨b0, o0 + i, none⟩) hbl).trans (hc i _ hu))
      have cU := HCU.out wr hb
      clear hc hu hL
      by_cases h100 : i < 100
      · by_cases hfit : l.length + n ≤ 100000
        · clear HSUM HREF hEq
          have hvs5 : VS wr P (.slice Au l.length cu) l := VS.old (B := W.heap.size) (hsb.below hb) hzW (by have := hst.row; obtain ⟨_, _, _, _, h5⟩ := hst; omega) (fun k hk => by have := (hst.row k hk).1; have := hb1.size; omega)
          have HWR := Lib.hid (kWrite_any w1.heap.size P cur l _ wr hst hvs5 (by have := HN.out; omega) (hk1.on hb h1) (by omega) hz1)
          have HNX : Hid (∀ w5, StAt w5 w1.heap.size P (cur ++ l) → Off wr w5 P → (rowP w5 P = rowP wr P ∨ ∀ g, rowP w5 P = some g → wr.heap.size ≤ g) → Below w1.heap.size wr w5 →
              Below W.heap.size W w5 ∧ OB w5 w1.heap.size (.slice Ao n co) cur ∧ SB w5 W.heap.size (.slice Au l.length cu) l ∧ w1.heap.size ≤ w5.heap.size ∧
              ∀ v6 w6, OB w6 w1.heap.size v6 (cur ++ l) → w5.grownBy w6 (Value.slice Ao n co).ownBlock → (v6.ownBlock = (Value.slice Ao n co).ownBlock ∨ v6.ownBlock = some w5.heap.size) → Below w1.heap.size w5 w6 →
                (∃ A6 m6 c6, v6 = .slice A6 m6 c6 ∧ Hid (m6 = (cur ++ l).length)) ∧ StAt w6 w1.heap.size P (cur ++ l) ∧ (∀ k, v6.ownBlock = some k → k ≠ P ∧ rowP w6 P ≠ some k) ∧ Below W.heap.size W w6 ∧ w1.heap.size ≤ w6.heap.size) := Lib.hid (fun w5 hst5 hoff hrow hb5 => by
            have bW5 : Below W.heap.size W w5 := hb.trans (hb5.mono hb1.size)
            have hz5 := hb5.size
            have hap5 : ∀ k, (Value.slice Ao n co).ownBlock = some k → k ≠ P ∧ rowP w5 P ≠ some k := fun k hk => by
              refine ⟨(hap k hk).1, fun e => ?_⟩
              have hlk := hown.lt k hk
              rcases hrow with h | h
              · exact (hap k hk).2 (by rw [← h]; exact e)
              · have := h k e; omega
            refine ⟨bW5, hown.off hoff hap, hsb.below bW5, by omega, fun v6 w6 ho6 hg6 hv6 hb6 => ?_⟩
            have hz6 := hb6.size
            have hg := hst5.grown hg6 (fun e => (hap5 P e).1 rfl) (fun k hk e => (hap5 k e).2 hk)
            obtain ⟨A6, c6, e6, _, _, _⟩ := ho6.sb
            refine ⟨⟨A6, _, c6, e6, Lib.hid rfl⟩, hg.1, fun k hk => ?_, bW5.trans (hb6.mono hb1.size), by omega⟩
            rw [hg.2]
            rcases hv6 with h | h
            · exact hap5 k (by rw [← h]; exact hk)
            · rw [h] at hk
              injection hk with hk
              have hPl := hst5.lt
              exact ⟨by omega, fun e => by have := (hst5.row k e).2; omega⟩)
          have hlen : cur.length + l.length ≤ 140737488355328 := by have := HN.out; omega
          clear hown hst hap hb hvs5 hz1
          go_upto_region 10 with fail
          go_wp2_with fail
          refine HWR.out.mono ?_
          rintro e5 w5 ⟨rfl, hst5, hoff5, hrow5, hb5⟩
          obtain ⟨bW5, hown5, hsb5, hz5, HN6⟩ := HNX.out w5 hst5 hoff5 hrow5 hb5
          have cU5 := HCU.out w5 bW5
          have HN6 := Lib.hid HN6
          clear cU hst5 hoff5 hrow5 hb5 HWR HNX
          go_upto_region 12 with (at_builtin; go_loud (refine wl_appB rfl (.tmp 35) (.tmp 39) rfl w1.heap.size _ cur rfl hown5 W.heap.size _ l rfl hsb5 hlen hz5 ?_); intro v6 w6 hown6 hg6 ho6 hb6; obtain ⟨⟨A6, m6, c6, hv6, HM⟩, hst6, hap6, bW6, hz6⟩ := HN6.out v6 w6 hown6 hg6 ho6 hb6; subst hv6)
          clear HN6 cU5 hown5 hsb5 hg6 ho6 hb6
          obtain ⟨x, hx⟩ : ∃ x, x = cur ++ l := ⟨_, rfl⟩
          rw [← hx] at hown6 hst6 HM
          have hn2 : m6 ≤ 100000 := by have h1 := HM.out; have h2 := HN.out; rw [hx, List.length_append] at h1; omega
          have hxl : x.length ≤ 100000 := by have h1 := HM.out; omega
          clear hx hfit hn hlen
          obtain ⟨d6, hd6⟩ : ∃ d6, dgA (shaOf x) = d6 := ⟨_, rfl⟩
          have hEq : ∀ w', (Op.equalIn 10000 25 (.agg d6) (.agg d6)).run Tryd.prog w' = .ok true w' := fun w' => run_eqC w' d6 _ (shaOf_length x) hd6
          have HSUM : Hid (∀ w', Below w6.heap.size w6 w' → Calls Tryd.prog 13 #[.pointer (some ⟨P, 0, none⟩)] w' fun e w'' => e = .returned (.agg d6) ∧ Below w'.heap.size w' w'') := Lib.hid (fun w' h => kStSumC w1.heap.size P x d6 hd6 w' (hst6.below h) (by omega) (hk1.on (bstep bW6 h) h1) (by have := h.size; omega))
          have HREF : Hid (∀ w', Below w6.heap.size w6 w' → Calls Tryd.prog 10 #[.slice A6 m6 c6] w' fun e w'' => e = .returned (.agg d6) ∧ Below w'.heap.size w' w'') := Lib.hid (fun w' h => rSumC x d6 hd6 _ w' (hown6.sb.on h) (by omega) (hk0.on0 (bstep bW6 h) (by omega)) (by have := h.size; omega))
          have HLEN : Hid (∀ w', Below w6.heap.size w6 w' → Calls Tryd.prog 12 #[.pointer (some ⟨P, 0, none⟩)] w' fun e w'' => e = .returned (.int .i64 (m6 : Int)) ∧ w'' = w') := Lib.hid (fun w' h => by rw [HM.out]; exact kLen_any w1.heap.size P x w' (hst6.below h))
          have HEND : Hid (∀ w', Below w6.heap.size w6 w' → OB w' w1.heap.size (.slice A6 m6 c6) x ∧ StAt w' w1.heap.size P x ∧ (∀ k, (Value.slice A6 m6 c6).ownBlock = some k → k ≠ P ∧ rowP w' P ≠ some k) ∧ Below W.heap.size W w' ∧ w1.heap.size ≤ w'.heap.size) := Lib.hid (fun w' h => by
            refine ⟨hown6.below h (Nat.le_refl _), hst6.below h, fun k hk => ⟨(hap6 k hk).1, fun e => (hap6 k hk).2 ?_⟩, bstep bW6 h, by have := h.size; omega⟩
            rw [← e]
            unfold rowP
            rw [h.cell (p := ⟨P, 8, none⟩) hst6.lt])
          clear hd6 hown6 hst6 hap6 hxl
          by_cases h3 : i % 3 = 0
          · have e3 : (i : Int) % 3 = 0 := by omega
            clear h3
            go_wp2_with fail
            refine (HSUM.out w6 (bself w6)).mono ?_
            rintro e7 w7 ⟨rfl, hb7⟩
            go_wp2_with fail
            refine (HREF.out w7 hb7).mono ?_
            rintro e8 w8 ⟨rfl, hb8⟩
            have b8 := bstep hb7 hb8
            go_wp2_with fail
            refine (HLEN.out w8 b8).mono ?_
            rintro e9 w9 ⟨rfl, rfl⟩
            go_wp2_with fail
            go_roundw
            case rel => exact ⟨i + 1, m6, x, A6, c6, by go_num, by omega, rfl, hn2, HM, HEND.out _ b8⟩
            case measure => simp [intOf]; omega
          · have e3 : ¬ (i : Int) % 3 = 0 := by omega
            clear h3
            go_wp2_with fail
            refine (HLEN.out w6 (bself w6)).mono ?_
            rintro e9 w9 ⟨rfl, rfl⟩
            go_wp2_with fail
            go_roundw
            case rel => exact ⟨i + 1, m6, x, A6, c6, by go_num, by omega, rfl, hn2, HM, HEND.out _ (bself _)⟩
            case measure => simp [intOf]; omega
        · have hfit2 : (100000 : Int) - (n : Int) < (l.length : Int) := by omega
          go_wp2_with fail
          refine (HSUM.out wr (bself wr)).mono ?_
          rintro e5 w5 ⟨rfl, hb5⟩
          go_wp2_with fail
          refine (HREF.out w5 hb5).mono ?_
          rintro e6 w6 ⟨rfl, hb6⟩
          have b6 := bstep (bstep hb hb5) hb6
          go_wp2_with fail
          go_ret
          exact ⟨rfl, b6⟩
      · have h100' : (100 : Int) ≤ (i : Int) := by omega
        go_wp2_with fail
        refine (HSUM.out wr (bself wr)).mono ?_
        rintro e5 w5 ⟨rfl, hb5⟩
        go_wp2_with fail
        refine (HREF.out w5 hb5).mono ?_
        rintro e6 w6 ⟨rfl, hb6⟩
        have b6 := bstep (bstep hb hb5) hb6
        go_wp2_with fail
        go_ret
        exact ⟨rfl, b6⟩
    · have hil : i = ls.length := by omega
      subst hil
      go_wp2_with fail
      refine (HSUM.out wr (bself wr)).mono ?_
      rintro e5 w5 ⟨rfl, hb5⟩
      go_wp2_with fail
      refine (HREF.out w5 hb5).mono ?_
      rintro e6 w6 ⟨rfl, hb6⟩
      have b6 := bstep (bstep hb hb5) hb6
      go_wp2_with fail
      go_ret
      exact ⟨rfl, b6⟩
end Go.Proofs.YthhcoljhfokacaaDoor
