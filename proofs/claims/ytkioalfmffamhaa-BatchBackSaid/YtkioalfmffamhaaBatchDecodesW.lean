/-
  What is proved here: the calls of the statements BatchDecodes, BatchBack, BatchOnce return true and turn nothing that was there. Conditions: none beyond the statements' own.
-/
import Derived.Test.YtkioalfmffamhaaBatchW5
import Derived.Test.YtkioalfmffamhaaSameW
import Derived.Test.YtkioalfmffamhaaShown12
namespace Go.Proofs.Ytkioalfmffamhaa
open Go.RowKit

set_option maxHeartbeats 2000000 in
theorem batchDecodes_any (v : Value) (b : List UInt8) (w : World) (hv : SB w w.heap.size v b) :
    Calls Try.prog 6 #[v] w fun e w' => e = .returned (.bool true) ∧ Below w.heap.size w w' := by
  have hv0 := hv
  obtain ⟨A, c, rfl, hc, hcm, hr⟩ := hv
  have hcm' : c ≤ 9223372036854775807 := by unfold maxLen at hcm; omega
  clear hcm hr
  have HV := Lib.hid hv0
  clear hv0
  go_enter Try.func6, Try.ntmps6
  go_wp2_with fail
  refine (shown_any w).mono ?_
  rintro e w1 ⟨rfl, hb1⟩
  by_cases hlen : 200000 < b.length
  · go_wp2
    go_ret
    exact ⟨rfl, hb1⟩
  · go_wp2_with fail
    refine (bDecode_any _ b w1 (HV.out.on hb1) (by omega)).mono ?_
    rintro e w2 (⟨hp, r2, rfl, hs2, hb2⟩ | ⟨hp, rfl, hb2⟩)
    · have hb2' := bstep hb1 hb2
      go_wp2_with fail
      refine (rDecode_any _ b w2 (HV.out.on hb2') (by omega)).mono ?_
      rintro e w3 (⟨hp', r3, rfl, hs3, hb3⟩ | ⟨hp', rfl, hb3⟩)
      · have hb3' := bstep hb2' hb3
        have hs2' := SO.on hs2 hb3
        clear hp hp'
        go_wp2_with fail
        refine (rSameOps_true _ _ _ _ hs2' hs3).mono ?_
        rintro e w4 ⟨rfl, hb4⟩
        go_wp2
        go_ret
        exact ⟨rfl, bstep hb3' hb4⟩
      · rw [hp] at hp'; cases hp'
    · have hb2' := bstep hb1 hb2
      go_wp2_with fail
      refine (rDecode_any _ b w2 (HV.out.on hb2') (by omega)).mono ?_
      rintro e w3 (⟨hp', r3, rfl, hs3, hb3⟩ | ⟨hp', rfl, hb3⟩)
      · rw [hp] at hp'; cases hp'
      · have hb3' := bstep hb2' hb3
        clear hp hp'
        go_wp2_with fail
        refine (rSameOps_true _ _ [] _ (Sl.nil_ _ _ _) (Sl.nil_ _ _ _)).mono ?_
        rintro e w4 ⟨rfl, hb4⟩
        go_wp2
        go_ret
        exact ⟨rfl, bstep hb3' hb4⟩

set_option maxHeartbeats 2000000 in
theorem batchOnce_any (v : Value) (b : List UInt8) (w : World) (hv : SB w w.heap.size v b) :
    Calls Try.prog 8 #[v] w fun e w' => e = .returned (.bool true) ∧ Below w.heap.size w w' := by
  have hv0 := hv
  obtain ⟨A, c, rfl, hc, hcm, hr⟩ := hv
  have hcm' : c ≤ 9223372036854775807 := by unfold maxLen at hcm; omega
  clear hcm hr
  have HV := Lib.hid hv0
  clear hv0
  go_enter Try.func8, Try.ntmps8
  go_wp2_with fail
  refine (shown_any w).mono ?_
  rintro e w1 ⟨rfl, hb1⟩
  by_cases hlen : 200000 < b.length
  · go_wp2
    go_ret
    exact ⟨rfl, hb1⟩
  · go_wp2_with fail
    refine (bDecode_any _ b w1 (HV.out.on hb1) (by omega)).mono ?_
    rintro e w2 (⟨hp, r2, rfl, hs2, hb2⟩ | ⟨hp, rfl, hb2⟩)
    · have hb2' := bstep hb1 hb2
      obtain ⟨hrb, henc⟩ := progOk_enc hp
      have hall : ∀ o ∈ (loopOps (numOf b) (behind b)).1, OpOk o := fun o ho => by
        have h := right_ops hrb o ho
        unfold OpOk
        omega
      have hcall := bEncode_ok (seqOf b) r2 _ w2 hs2 hall hrb
      rw [henc] at hcall
      have HC := Lib.hid hcall
      clear hcall hall henc hrb hp hs2
      go_wp2_with fail
      refine HC.out.mono ?_
      rintro e w3 ⟨r3, rfl, hown3, hb3⟩
      have hb3' := bstep hb2' hb3
      have hs3 := hown3.sb
      have hv3 := HV.out.on hb3'
      go_wp2_with (first | (refine wl_b2s (o := ⟨some 45, _, _, _, _, _⟩) rfl (.tmp 44) rfl _ rfl _ _ hs3 ?_) | (refine wl_b2s (o := ⟨some 47, _, _, _, _, _⟩) rfl (.tmp 46) rfl _ rfl _ _ hv3 ?_))
      go_ret
      exact ⟨ret_bool (by simp), hb3'⟩
    · have hb2' := bstep hb1 hb2
      clear hp
      go_wp2
      go_ret
      exact ⟨rfl, hb2'⟩

theorem encB_le {seq : UInt64} {l : List Opn} (h : rightB seq l = true) : (encB seq l).length ≤ 66600018 := by
  have hr := rightB_all h
  have h1 := opBs_le (l := l) (fun o ho => by have := right_ops h o ho; exact ⟨this.1, this.2.1⟩)
  have h2 := num_length l.length
  have h3 := fix_length 8 seq.toNat
  unfold encB
  simp only [List.length_append]
  omega
set_option maxHeartbeats 2000000 in
theorem batchBack_any (seq : UInt64) (v : Value) (l : List Opn) (w : World) (hv : SO w w.heap.size v l) (hok : ∀ o ∈ l, OpOk o) :
    Calls Try.prog 7 #[.int .u64 (seq.toNat : Int), v] w fun e w' => e = .returned (.bool true) ∧ Below w.heap.size w w' := by
  go_enter Try.func7, Try.ntmps7
  go_wp2_with fail
  refine (shown_any w).mono ?_
  rintro e w1 ⟨rfl, hb1⟩
  go_wp2_with fail
  refine (light_any v l w1 (SO.on hv hb1) hok).mono ?_
  rintro e w2 ⟨rfl, hb2⟩
  have hb2' := bstep hb1 hb2
  have hv2 := SO.on hv hb2'
  by_cases hl : lightB l = true
  · cases hr : rightB seq l with
    | true =>
      obtain ⟨p1, p2, p3, _, _⟩ := progOk_back hr
      have pm := progOk_more hr
      have hle := encB_le hr
      have hcall := bEncode_ok seq v l w2 hv2 hok hr
      have hright := fun W h => bRight_any seq v l W h hok
      rw [hr] at hright
      obtain ⟨en, hen⟩ : ∃ en, en = encB seq l := ⟨_, rfl⟩
      rw [← hen] at p1 p2 p3 pm hle hcall
      have HP := Lib.hid (And.intro p1 (And.intro p2 (And.intro p3 pm)))
      have HC := Lib.hid hcall
      have HR := Lib.hid hright
      clear p1 p2 p3 pm hcall hright hen hr
      go_wp2_with fail
      refine HC.out.mono ?_
      rintro e w3 ⟨r3, rfl, hown3, hb3⟩
      have hb3' := bstep hb2' hb3
      go_wp2_with fail
      refine (bDecode_any r3 en w3 hown3.sb (by omega)).mono ?_
      rintro e w4 (⟨hp, r4, rfl, hs4, hb4⟩ | ⟨hp, rfl, hb4⟩)
      · rw [HP.out.2.1]
        rw [HP.out.2.2.1] at hs4
        have hb4' := bstep hb3' hb4
        have hs3 := hown3.sb.on hb4
        clear hp
        go_wp2_with (first
          | (at_builtin; refine wl_appB rfl (.tmp 46) (.tmp 47) rfl w4.heap.size _ [] rfl (OB.lit0 w4 (Nat.le_refl _)) w4.heap.size r3 en rfl (hs3.alloc (Nat.le_refl _) _) (by simp; omega) (by simp) ?_; intro v5 w5 hown5 _ _ hb5)
          | (at_builtin; refine wl_app1 rfl (.tmp 48) (.tmp 49) rfl w4.heap.size _ ([] ++ en) rfl hown5 _ (0 : UInt8) rfl rfl rfl (by simp; omega) (by have := hb5.size; simp at this; omega) ?_; intro v6 w6 hown6 _ _ hb6))
        have hb56 : Below w4.heap.size w4 w6 := (((Below.refl _ _).alloc (Nat.le_refl _) _).trans hb5).trans hb6
        rw [List.nil_append] at hown6
        refine (bDecode_any v6 (en ++ [0]) w6 hown6.sb (by simp; omega)).mono ?_
        rintro e w7 (⟨hp, r7, rfl, hs7, hb7⟩ | ⟨hp, rfl, hb7⟩)
        · rw [HP.out.2.2.2] at hp; cases hp
        · have hb6' := bstep hb4' hb56
          have hb7' := bstep hb6' hb7
          have hs7 := (SO.on hs4 hb56)
          have hs8 := SO.on hs7 hb7
          clear hp
          go_wp2_with fail
          refine (rSameOps_true _ _ l _ (SO.on hv hb7') hs8).mono ?_
          rintro e w8 ⟨rfl, hb8⟩
          have hb8' := bstep hb7' hb8
          go_wp2_with fail
          refine (HR.out _ (SO.on hv hb8')).mono ?_
          rintro e w9 ⟨rfl, hb9⟩
          go_wp2
          go_ret
          exact ⟨ret_bool (by simp), bstep hb8' hb9⟩
      · rw [HP.out.1] at hp; cases hp
    | false =>
      have hcall := bEncode_bad seq v l w2 hv2 hok hr
      have hright := fun W h => bRight_any seq v l W h hok
      rw [hr] at hright
      have HC := Lib.hid hcall
      have HR := Lib.hid hright
      clear hcall hright hr
      go_wp2_with fail
      refine HC.out.mono ?_
      rintro e w3 ⟨rfl, hb3⟩
      have hb3' := bstep hb2' hb3
      go_wp2_with fail
      refine (HR.out _ (SO.on hv hb3')).mono ?_
      rintro e w4 ⟨rfl, hb4⟩
      go_wp2
      go_ret
      exact ⟨rfl, bstep hb3' hb4⟩
  · have hl' : lightB l = false := by simpa using hl
    clear hl
    go_wp2
    go_ret
    exact ⟨rfl, hb2'⟩
end Go.Proofs.Ytkioalfmffamhaa
