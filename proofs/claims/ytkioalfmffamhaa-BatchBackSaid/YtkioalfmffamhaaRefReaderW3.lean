/-
  What is proved here: what the reference's reader's Str comes to, at this seat's numbers. Conditions: the bytes' length.
-/
import Derived.Test.YtkioalfmffamhaaRefReaderW2
namespace Go.Proofs.Ytkioalfmffamhaa
open Go.RowKit

theorem ret_str {a b : ByteArray} (h : a = b) : Ending.returned (.string a) = Ending.returned (.string b) := by rw [h]
theorem RefAt.back {w : World} {base R : Nat} {bs : List UInt8} {i' b : Nat} (h : RefAt w base R bs i' b) (i : Nat) (hi : i ≤ bs.length) : RefAt (w.setCell ⟨R, 1, none⟩ (.int .i64 (i : Int))) base R bs i b := by
  obtain ⟨A, c, h1, h2, h3, h4, h5, h6⟩ := h
  exact ⟨A, c, set31 h1, h2, h3, hi, h5, h6.setCell (by simpa using h5) _⟩
theorem run_b2s_empty (w : World) (A : Option Addr) (c : Nat) : (convert 26 9 (.slice A 0 c)).run Try.prog w = .ok (.string ⟨#[]⟩) w := by
  have h : SB w w.heap.size (.slice none 0 0) [] := SB.nil_ _ _
  cases A with
  | none =>
    rw [run_convert_bytes_string w 26 9 5 none _ c Try.underlying26 Try.underlying5 Try.underlying9]
    simp [Conv.bytesToString]
    rfl
  | some ad => exact run_convert_bytes_back (P := Try.prog) w 26 9 5 ad c [] Try.underlying26 Try.underlying5 Try.underlying9 (fun j hj => by simp at hj)

set_option maxRecDepth 100000 in
set_option maxHeartbeats 4000000 in
theorem qStr_any (base R : Nat) (bs : List UInt8) (i bad : Nat) (most : Int) (w : World) (h : RefAt w base R bs i bad) (hbs : bs.length ≤ 140737488355328) (hmost : most ≤ 9223372036854775807) :
    Calls Try.prog 41 #[.pointer (some ⟨R, 0, none⟩), .int .i64 most] w fun en w' => en = .returned (.string ⟨(sStr most (bs.drop i, bad)).1.toArray⟩) ∧ (∃ i', RefAt w' base R bs i' (sStr most (bs.drop i, bad)).2.2 ∧ bs.drop i' = (sStr most (bs.drop i, bad)).2.1) ∧ w.grownBy w' (some R) := by
  have hfull := h
  obtain ⟨A, c, hh, hc, hm, hi, hb, hr⟩ := h
  obtain ⟨c0, c1, c2, f0, f1, f2⟩ := cells3 hh
  have hm' : c ≤ 9223372036854775807 := by unfold maxLen at hm; omega
  have hdl : (bs.drop i).length = bs.length - i := List.length_drop
  by_cases hbad : bad = 0
  · subst hbad
    have hle := number_le (bs.drop i)
    have hlt := number_lt (bs.drop i)
    have hcall := qNum_any base R bs i 0 w hfull hbs
    have hbk := numG_k (bs.drop i) 0 0
    have es0 : sNum (bs.drop i, 0) = ((number (bs.drop i)).1, (bs.drop i).drop (number (bs.drop i)).2.1, (number (bs.drop i)).2.2) := by simp [sNum]
    rw [es0] at hcall
    have hfk : (number (bs.drop i)).2.2 ≠ 0 → (number (bs.drop i)).2.1 = 0 := by
      intro hne
      rcases numG_e (bs.drop i) 0 0 with h1 | h1 | h1
      · exact absurd h1 hne
      · unfold number; rw [h1]
      · unfold number; rw [h1]
    obtain ⟨n, k, f, hnum⟩ : ∃ n k f, number (bs.drop i) = (n, k, f) := ⟨_, _, _, rfl⟩
    unfold sStr
    rw [hnum] at hcall hle hlt hfk ⊢
    simp only [hnum] at hcall hle hlt hfk ⊢
    have HC := Lib.hid hcall
    clear hcall hnum hbk es0
    by_cases hf : f = 0
    · subst hf
      by_cases hn1 : max 0 most < (n : Int)
      · simp only [ne_eq, not_true_eq_false, if_false, if_pos hn1]
        go_enter Try.func41, Try.ntmps41
        go_wp2_with fail
        refine HC.out.mono ?_
        rintro e w1 ⟨rfl, ⟨i', hr1, hi'⟩, hg1⟩
        have hr1' := hr1
        obtain ⟨A1, d1, hh1, hc1, hm1, hi1, hb1, hr1⟩ := hr1
        obtain ⟨e0, e1, e2, g0, g1, g2⟩ := cells3 hh1
        have hl1 : bs.length - i' = bs.length - i - k := by
          have h := congrArg List.length hi'
          rw [List.length_drop, List.length_drop, List.length_drop] at h
          exact h
        have hd1 : d1 ≤ 9223372036854775807 := by unfold maxLen at hm1; omega
        have HR1 := Lib.hid hr1'
        clear hr1'
        by_cases hmo : most < 0
        · go_wp2_with (first | (go_at_call 46; refine (qFail_any base R bs i' 0 4 _ (by exact HR1.out)).mono ?_; rintro e w2 ⟨rfl, hr2, hg2⟩; have hr2' := Lib.hid hr2; obtain ⟨A2, d2, hh2, hc2, hm2, hi2, hb2, hrr2⟩ := hr2; obtain ⟨k0, k1, k2, l0, l1, l2⟩ := cells3 hh2; clear hh2 hrr2))
          go_ret
          exact ⟨rfl, ⟨i, hr2'.out.back i hi, rfl⟩, (hg1.trans hg2).trans (grown_set (p := ⟨R, 1, none⟩) _ rfl _)⟩
        · go_wp2_with (first | (go_at_call 46; refine (qFail_any base R bs i' 0 4 _ (by exact HR1.out)).mono ?_; rintro e w2 ⟨rfl, hr2, hg2⟩; have hr2' := Lib.hid hr2; obtain ⟨A2, d2, hh2, hc2, hm2, hi2, hb2, hrr2⟩ := hr2; obtain ⟨k0, k1, k2, l0, l1, l2⟩ := cells3 hh2; clear hh2 hrr2))
          go_ret
          exact ⟨rfl, ⟨i, hr2'.out.back i hi, rfl⟩, (hg1.trans hg2).trans (grown_set (p := ⟨R, 1, none⟩) _ rfl _)⟩
      · by_cases hn2 : (bs.drop i).length - k < n
        · simp only [ne_eq, not_true_eq_false, if_false, if_neg hn1, if_pos hn2]
          go_enter Try.func41, Try.ntmps41
          go_wp2_with fail
          refine HC.out.mono ?_
          rintro e w1 ⟨rfl, ⟨i', hr1, hi'⟩, hg1⟩
          have hr1' := hr1
          obtain ⟨A1, d1, hh1, hc1, hm1, hi1, hb1, hr1⟩ := hr1
          obtain ⟨e0, e1, e2, g0, g1, g2⟩ := cells3 hh1
          have hl1 : bs.length - i' = bs.length - i - k := by
            have h := congrArg List.length hi'
            rw [List.length_drop, List.length_drop, List.length_drop] at h
            exact h
          have hd1 : d1 ≤ 9223372036854775807 := by unfold maxLen at hm1; omega
          have HR1 := Lib.hid hr1'
          clear hr1'
          have gq : decide ((bs.length : Int) - (i' : Int) < (n : Int)) = true := by simp; omega
          by_cases hmo : most < 0
          · have hn0 : n ≤ 0 := by omega
            exfalso
            omega
          · go_wp2
            go_quiet (fail)
            go_wp2_with (first | (go_at_call 46; refine (qFail_any base R bs i' 0 10 _ (by exact HR1.out.drewN _)).mono ?_; rintro e w2 ⟨rfl, hr2, hg2⟩; have hr2' := Lib.hid hr2; obtain ⟨A2, d2, hh2, hc2, hm2, hi2, hb2, hrr2⟩ := hr2; obtain ⟨k0, k1, k2, l0, l1, l2⟩ := cells3 hh2; clear hh2 hrr2))
            go_ret
            exact ⟨rfl, ⟨i, hr2'.out.back i hi, rfl⟩, ((hg1.trans (gdrew _ _ _)).trans hg2).trans (grown_set (p := ⟨R, 1, none⟩) _ rfl _)⟩
        · simp only [ne_eq, not_true_eq_false, if_false, if_neg hn1, if_neg hn2]
          go_enter Try.func41, Try.ntmps41
          go_wp2_with fail
          refine HC.out.mono ?_
          rintro e w1 ⟨rfl, ⟨i', hr1, hi'⟩, hg1⟩
          have hr1' := hr1
          obtain ⟨A1, d1, hh1, hc1, hm1, hi1, hb1, hr1⟩ := hr1
          obtain ⟨e0, e1, e2, g0, g1, g2⟩ := cells3 hh1
          have hl1 : bs.length - i' = bs.length - i - k := by
            have h := congrArg List.length hi'
            rw [List.length_drop, List.length_drop, List.length_drop] at h
            exact h
          have hd1 : d1 ≤ 9223372036854775807 := by unfold maxLen at hm1; omega
          have HR1 := Lib.hid hr1'
          clear hr1'
          have hle2 : i' + n ≤ bs.length := by omega
          have gq : decide ((bs.length : Int) - (i' : Int) < (n : Int)) = false := by simp; omega
          have hdr : (bs.take (i' + n)).drop i' = ((bs.drop i).take (k + n)).drop k := by
            rw [List.drop_take, List.drop_take, hi']; congr 1; omega
          have hdr2 : bs.drop (i' + n) = (bs.drop i).drop (k + n) := by
            rw [← List.drop_drop, hi', List.drop_drop]
          have HD := Lib.hid (And.intro hdr hdr2)
          have HL := Lib.hid hl1
          clear hdr hdr2 hi' hl1
          have hcv : ∀ nq, (convert 26 9 (.slice (if d1 = i' then A1 else A1.map (·.add i')) n (d1 - i'))).run Try.prog (w1.drewN nq) = .ok (.string ⟨((bs.take (i' + n)).drop i').toArray⟩) (w1.drewN nq) := by
            intro nq
            rcases Nat.eq_zero_or_pos n with hn0 | hn0
            · have e : (bs.take (i' + n)).drop i' = [] := List.drop_eq_nil_of_le (by rw [List.length_take]; omega)
              rw [e, hn0]
              exact run_b2s_empty _ _ _
            · refine run_b2s _ _ base _ ?_
              have e1 : (bs.take (i' + n)).length = i' + n := by rw [List.length_take]; omega
              have h1 : Rd w1 base 1 A1 (bs.take (i' + n)).length (bv (bs.take (i' + n))) := by
                have := hr1.take hle2
                rw [Nat.mul_one] at this
                rw [bv_take, e1]; exact this
              have h2 := rd_cut (c := d1) (k := i') (by omega) (by omega) h1
              have e : n = ((bs.take (i' + n)).drop i').length := by rw [List.length_drop, e1]; omega
              exact ⟨_, d1 - i', by rw [← e], by rw [← e]; omega, by omega, h2.drewN nq⟩
          obtain ⟨sv, hsv⟩ : ∃ sv : ByteArray, sv = ⟨((bs.take (i' + n)).drop i').toArray⟩ := ⟨_, rfl⟩
          rw [← hsv] at hcv
          have HS := Lib.hid hsv
          clear hsv
          have gs : IntKind.i64.wrap ((i' : Int) + (n : Int)) = (i' : Int) + (n : Int) := IntWalk.i64_in _ (by omega)
          by_cases hmo : most < 0
          · have hn0 : n ≤ 0 := by omega
            go_wp2
            go_quiet (fail)
            go_wp2
            go_quiet (fail)
            go_wp2
            all_goals
              go_ret
              refine ⟨?_, ⟨i' + n, ⟨_, _, ?_, hc1, hm1, by omega, hb1, (hr1.drewN _).setCell (by simpa using hb1) _⟩, ?_⟩, (hg1.trans (gdrew w1 _ _)).trans (grown_set (p := ⟨R, 1, none⟩) _ rfl _)⟩
              · exact ret_str (by rw [HS.out, HD.out.1])
              · rw [show ((i' + n : Nat) : Int) = (i' : Int) + (n : Int) from by omega]
                exact set31 (w := w1.drewN _) hh1
              · first | exact HD.out.2 | (have := HL.out; omega)
          · go_wp2
            go_quiet (fail)
            go_wp2
            go_quiet (fail)
            go_wp2
            all_goals
              go_ret
              refine ⟨?_, ⟨i' + n, ⟨_, _, ?_, hc1, hm1, by omega, hb1, (hr1.drewN _).setCell (by simpa using hb1) _⟩, ?_⟩, (hg1.trans (gdrew w1 _ _)).trans (grown_set (p := ⟨R, 1, none⟩) _ rfl _)⟩
              · exact ret_str (by rw [HS.out, HD.out.1])
              · rw [show ((i' + n : Nat) : Int) = (i' : Int) + (n : Int) from by omega]
                exact set31 (w := w1.drewN _) hh1
              · first | exact HD.out.2 | (have := HL.out; omega)
    · simp only [ne_eq, not_true_eq_false, if_false, hf, not_false_eq_true, if_true]
      have hb' : (((f : Int)) == 0) = false := by rw [beq_eq_false_iff_ne]; omega
      have hk0 := hfk hf
      go_enter Try.func41, Try.ntmps41
      go_wp2_with fail
      refine HC.out.mono ?_
      rintro e w1 ⟨rfl, ⟨i', hr1, hi'⟩, hg1⟩
      have hr1' := hr1
      obtain ⟨A1, d1, hh1, hc1, hm1, hi1, hb1, hr1⟩ := hr1
      obtain ⟨e0, e1, e2, g0, g1, g2⟩ := cells3 hh1
      have hl1 : bs.length - i' = bs.length - i - k := by
        have h := congrArg List.length hi'
        rw [List.length_drop, List.length_drop, List.length_drop] at h
        exact h
      have hd1 : d1 ≤ 9223372036854775807 := by unfold maxLen at hm1; omega
      have HR1 := Lib.hid hr1'
      clear hr1'
      go_wp2
      go_ret
      subst hk0
      exact ⟨rfl, ⟨i', HR1.out, by simpa using hi'⟩, hg1⟩
  · have es : sStr most (bs.drop i, bad) = ([], bs.drop i, bad) := by simp [sStr, hbad]
    have hb' : (((bad : Int)) == 0) = false := by rw [beq_eq_false_iff_ne]; omega
    rw [es]
    go_enter Try.func41, Try.ntmps41
    go_wp2
    go_ret
    exact ⟨rfl, ⟨i, hfull, rfl⟩, gself _ _⟩
end Go.Proofs.Ytkioalfmffamhaa
