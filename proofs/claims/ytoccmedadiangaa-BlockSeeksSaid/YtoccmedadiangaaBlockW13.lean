/-
  What is proved here: what the reference's Read comes to, at this seat's numbers. Conditions: the bytes' number.
-/
import Derived.Test.YtoccmedadiangaaBlockW12
namespace Go.Proofs.Ytoccmedadiangaa
open Go.RowKit

set_option maxRecDepth 100000 in
set_option maxHeartbeats 2000000 in
theorem rRead_any (v : Value) (b : List UInt8) (w : World) (hv : SB w w.heap.size v b) (hl : b.length ≤ 1073741824) :
    Calls Try.prog 14 #[v] w (ReadPost w (readB b)) := by
  obtain ⟨ev, s1, b1, e1⟩ : ∃ n1 s1 b1, sNum (b, 0) = (n1, s1, b1) := ⟨_, _, _, rfl⟩
  obtain ⟨n, s2, b2, e2⟩ : ∃ n2 s2 b2, sNum (s1, b1) = (n2, s2, b2) := ⟨_, _, _, rfl⟩
  have HR := Lib.hid (readB_h e1 e2)
  have m1 := sNum_lt (b, 0)
  have m2 := sNum_lt (s1, b1)
  have HN : Hid (buildB (ev : Int) [] = (b, 0) → readL n s2 [] = none → False) := Lib.hid (fun h1 h2 => by
    have h3 := build_none h1
    rw [e1] at h3
    simp only [e2] at h3
    subst h3
    rw [readL] at h2
    cases h2)
  rw [e1] at m1
  rw [e2] at m2
  dsimp only at m1 m2
  obtain ⟨A, c, rfl, hc, hm, hr⟩ := id hv
  have hm' : c ≤ 9223372036854775807 := by unfold maxLen at hm; omega
  obtain ⟨W1, hW1⟩ : ∃ W1, W1 = w.alloc (.cells #[.slice A b.length c, .int .i64 0, .int .i64 0] 65) := ⟨_, rfl⟩
  have hrf : RefAt W1 w.heap.size w.heap.size b 0 0 := by
    rw [hW1]
    exact ⟨A, c, heap_alloc_new w _, hc, hm, Nat.zero_le _, Nat.le_refl _, hr.alloc (Nat.le_refl _) _⟩
  have b1' : Below w.heap.size w W1 := by rw [hW1]; exact balloc (bself w) _
  have C1 : Hid (Calls Try.prog 35 #[.pointer (some ⟨w.heap.size, 0, none⟩)] W1 fun en w' => en = .returned (.int .u64 (ev : Int)) ∧ (∃ i', RefAt w' w.heap.size w.heap.size b i' b1 ∧ b.drop i' = s1) ∧ W1.grownBy w' (some w.heap.size)) :=
    Lib.hid (by have h := qNum_any w.heap.size w.heap.size b 0 0 W1 hrf (by omega); rw [List.drop_zero, e1] at h; exact h)
  have C2 : Hid (∀ W i1, RefAt W w.heap.size w.heap.size b i1 b1 → b.drop i1 = s1 → Calls Try.prog 35 #[.pointer (some ⟨w.heap.size, 0, none⟩)] W fun en w' => en = .returned (.int .u64 (n : Int)) ∧ (∃ i', RefAt w' w.heap.size w.heap.size b i' b2 ∧ b.drop i' = s2) ∧ W.grownBy w' (some w.heap.size)) :=
    Lib.hid (fun W i1 hr hi => by have h := qNum_any w.heap.size w.heap.size b i1 b1 W hr (by omega); rw [hi, e2] at h; exact h)
  have hz1 := hrf.lt
  clear e1 e2 hr hm
  go_enter Try.func14, Try.ntmps14
  go_wp2_with fail
  rw [← hW1]
  clear hW1 hrf
  refine C1.out.mono ?_
  rintro _ w2 ⟨rfl, ⟨i1, hr2, hi1⟩, hg2⟩
  go_wp2_with fail
  refine (C2.out _ i1 hr2 hi1).mono ?_
  rintro _ w3 ⟨rfl, ⟨i2, hr3, hi2⟩, hg3⟩
  have b3 : Below w.heap.size w w3 := b1'.trans (gbelow (hg2.trans hg3) (Nat.le_of_lt hz1) (Nat.le_refl _))
  clear C1 C2 hr2 hi1 hg2 hg3 b1'
  have HR3 := Lib.hid hr3
  obtain ⟨A3, c3, hh3, _⟩ := hr3
  obtain ⟨x0, x1, x2, _, _, _⟩ := cells3 hh3
  clear hh3
  by_cases hb : b2 = 0
  case neg =>
    have hb' : (((b2 : Int)) == 0) = false := by rw [beq_eq_false_iff_ne]; omega
    have HB : Hid (readB b = ([], 100)) := Lib.hid (by rw [HR.out, if_pos (.inl hb)])
    go_wp2_with fail
    exact bodyPost_ret (v := .tuple #[.slice none 0 0, .int .i64 100]) (by simp [results, Try.results14, go_sem] <;> rfl) rfl ⟨_, by rw [HB.out]; rfl, by rw [HB.out]; exact OE.nil_ _ _, b3⟩
  subst hb
  by_cases hev : 1024 < ev
  · have hev' : decide ((1024 : Int) < (ev : Int)) = true := by simp; omega
    have HB : Hid (readB b = ([], 100)) := Lib.hid (by rw [HR.out, if_pos (.inr hev)])
    go_wp2_with fail
    exact bodyPost_ret (v := .tuple #[.slice none 0 0, .int .i64 100]) (by simp [results, Try.results14, go_sem] <;> rfl) rfl ⟨_, by rw [HB.out]; rfl, by rw [HB.out]; exact OE.nil_ _ _, b3⟩
  have hev' : decide ((1024 : Int) < (ev : Int)) = false := by simp; omega
  have HR2 : Hid (readB b = match readL n s2 [] with | none => ([], 100) | some l => if buildB (ev : Nat) l = (b, 0) then (l, 0) else ([], 100)) := Lib.hid (by rw [HR.out, if_neg (by omega)]; cases readL n s2 [] <;> rfl)
  have HE := Lib.hid (rEntries_any w.heap.size w.heap.size b i2 n w3 HR3.out m2 hl)
  rw [hi2] at HE
  clear HR hi2
  go_wp2_with fail
  refine HE.out.mono ?_
  rintro _ w4 ⟨v4, l, rfl, ho4, hg4, HL, hll⟩
  have hz3 : w.heap.size < w3.heap.size := HR3.out.lt
  have b4 : Below w.heap.size w w4 := b3.trans (gbelow hg4 (Nat.le_of_lt hz3) (Nat.le_refl _))
  have HB3 : Hid (readB b = if buildB (ev : Nat) l = (b, 0) then (l, 0) else ([], 100)) := Lib.hid (by
    rw [HR2.out]
    rcases HL.out.1 with h | ⟨h, rfl⟩
    · rw [h]
    · rw [h, if_neg (fun e => HN.out e h)])
  have HK := Lib.hid (rBuild_any v4 l (ev : Int) w4 ho4.se (by omega) (fun e he => by have := HL.out.2 e he; omega) (by omega) (by omega))
  obtain ⟨bs, f, hbf⟩ : ∃ bs f, buildB (ev : Int) l = (bs, f) := ⟨_, _, rfl⟩
  rw [hbf] at HK HB3
  have gev : IntKind.i64.wrap (ev : Int) = (ev : Int) := by rw [IntKind.wrap_i64]; omega
  have hs4 := hv.on b4
  clear HR2 HL hbf hev' HE HN HR3 x0 x1 x2 hg4 hv
  go_wp2_with fail
  refine HK.out.mono ?_
  rintro _ w5 ⟨x, rfl, hox, hb5⟩
  have b5 := bstep b4 hb5
  have hs5 := hs4.on hb5
  have hsx := hox.sb
  have ho5 := (ho4.below hb5 (Nat.le_refl _)).rebase b3.size
  clear HK hox
  by_cases hf : f = 0
  · subst hf
    by_cases hbb : bs = b
    · have HB4 : Hid (readB b = (l, 0)) := Lib.hid (by rw [HB3.out, hbb, if_pos rfl])
      rw [hbb] at hsx
      clear HB3 hbb
      go_wp2_with (first
        | (refine wl_b2s (o := ⟨some 40, _, _, _, _, _⟩) rfl (.tmp 39) rfl x rfl _ _ hsx ?_)
        | (refine wl_b2s (o := ⟨some 42, _, _, _, _, _⟩) rfl (.tmp 41) rfl _ rfl _ _ hs5 ?_))
      exact bodyPost_ret (by simp [results, Try.results14, go_sem] <;> rfl) rfl ⟨_, by rw [HB4.out]; rfl, by rw [HB4.out]; exact ho5, b5⟩
    · have hbe : (bs == b) = false := by simp [hbb]
      have HB4 : Hid (readB b = ([], 100)) := Lib.hid (by rw [HB3.out, if_neg (fun e => hbb (congrArg Prod.fst e))])
      clear HB3 hbb
      go_wp2_with (first
        | (refine wl_b2s (o := ⟨some 40, _, _, _, _, _⟩) rfl (.tmp 39) rfl x rfl _ _ hsx ?_)
        | (refine wl_b2s (o := ⟨some 42, _, _, _, _, _⟩) rfl (.tmp 41) rfl _ rfl _ _ hs5 ?_))
      exact bodyPost_ret (v := .tuple #[.slice none 0 0, .int .i64 100]) (by simp [results, Try.results14, go_sem] <;> rfl) rfl ⟨_, by rw [HB4.out]; rfl, by rw [HB4.out]; exact OE.nil_ _ _, b5⟩
  · have hf' : (((f : Int)) == 0) = false := by rw [beq_eq_false_iff_ne]; omega
    have HB4 : Hid (readB b = ([], 100)) := Lib.hid (by rw [HB3.out, if_neg (fun e => hf (congrArg Prod.snd e))])
    clear HB3
    go_wp2_with fail
    exact bodyPost_ret (v := .tuple #[.slice none 0 0, .int .i64 100]) (by simp [results, Try.results14, go_sem] <;> rfl) rfl ⟨_, by rw [HB4.out]; rfl, by rw [HB4.out]; exact OE.nil_ _ _, b5⟩
end Go.Proofs.Ytoccmedadiangaa
