/-
  What is proved here: what the functions of package batch come to, at this seat's numbers.
-/
import Derived.Test.YtkioalfmffamhaaIkeyW
import Derived.Test.YtkioalfmffamhaaCodecW
namespace Go.Proofs.Ytkioalfmffamhaa
open Go.RowKit

theorem bEntry_any (seq : UInt64) (o : Opn) (w : World) :
    Calls Try.prog 31 #[.int .u64 (seq.toNat : Int), opV o] w fun e w' => e = .returned (entV (entAt seq o)) ∧ Below w.heap.size w w' := by
  go_enter Try.func31, Try.ntmps31
  go_wp2
  exact bodyPost_ret (v := entV (entAt seq o)) (by simp [results, Try.results31, go_sem, entAt]) rfl ⟨rfl, (((Below.refl _ _).alloc (Nat.le_refl _) _).alloc (by simp) _)⟩

set_option maxHeartbeats 2000000 in
theorem bRight_any (seq : UInt64) (v : Value) (l : List Opn) (w : World) (hv : SO w w.heap.size v l) (hok : ∀ o ∈ l, OpOk o) :
    Calls Try.prog 13 #[.int .u64 (seq.toNat : Int), v] w fun e w' => e = .returned (.bool (rightB seq l)) ∧ Below w.heap.size w w' := by
  obtain ⟨A, c, rfl, hlc, hcm, hr⟩ := hv
  have hs := u64_lt seq
  have hcm' : c ≤ 9223372036854775807 := by unfold maxLen at hcm; omega
  clear hcm
  by_cases g0 : l.length = 0
  · have g : ((l.length : Int) == 0) = true := by rw [beq_iff_eq]; omega
    have HF := Lib.hid (rightB_f1 (seq := seq) (l := l) (by omega))
    clear g0
    go_enter Try.func13, Try.ntmps13
    go_wp2
    go_ret
    exact ⟨by rw [HF.out]; rfl, Below.refl _ _⟩
  have g0' : ((l.length : Int) == 0) = false := by rw [beq_eq_false_iff_ne]; omega
  by_cases g1 : 1000 < l.length
  · have HF := Lib.hid (rightB_f2 (seq := seq) (l := l) (by omega))
    go_enter Try.func13, Try.ntmps13
    go_wp2
    go_ret
    exact ⟨by rw [HF.out]; rfl, Below.refl _ _⟩
  by_cases g2 : seq.toNat = 0
  · have g : ((seq.toNat : Int) == 0) = true := by rw [beq_iff_eq]; omega
    have HF := Lib.hid (rightB_f3 (seq := seq) (l := l) (by omega))
    clear g2
    go_enter Try.func13, Try.ntmps13
    go_wp2
    go_ret
    exact ⟨by rw [HF.out]; rfl, Below.refl _ _⟩
  have g2' : ((seq.toNat : Int) == 0) = false := by rw [beq_eq_false_iff_ne]; omega
  by_cases g3 : 72057594037927936 < seq.toNat + l.length
  · have HF := Lib.hid (rightB_f4 (seq := seq) (l := l) g3)
    go_enter Try.func13, Try.ntmps13
    go_wp2
    go_ret
    exact ⟨by rw [HF.out]; rfl, Below.refl _ _⟩
  go_enter Try.func13, Try.ntmps13
  go_wp2
  go_loopw [30] (fun i wr => ∃ k : Nat, i = .int .i64 k ∧ k ≤ l.length ∧ (∀ j (hj : j < l.length), j < k → rightE (entAt seq l[j]) = true) ∧ Below w.heap.size w wr) (fun i _ => l.length - (intOf i).toNat)
  case atStart => exact ⟨0, rfl, Nat.zero_le _, fun _ _ h => absurd h (by omega), Below.refl _ _⟩
  case round =>
    obtain ⟨k, rfl, hk, hgood, hbr⟩ := hrel
    have HG := Lib.hid hgood
    clear hgood
    have hsz := hbr.size
    by_cases hlt : k < l.length
    · obtain ⟨b, o, rfl, hb, c0, c1, c2⟩ := (hr.below hbr).op rfl hlt
      have hoo := hok _ (List.getElem_mem hlt)
      obtain ⟨x, hx⟩ : ∃ x, x = l[k] := ⟨_, rfl⟩
      rw [← hx] at c0 c1 c2 hoo
      have HX := Lib.hid hx
      clear hx
      unfold OpOk at hoo
      go_wp2_with (first
        | (go_at_call 31; refine (bEntry_any seq x _).mono ?_; rintro e w1 ⟨rfl, hb1⟩)
        | (go_at_call 30; refine (iRight_any (entAt seq x) _ (by simp only [entAt]; omega) (by simp only [entAt]; omega)).mono ?_; rintro e w2 ⟨rfl, hb2⟩))
      · have hx : rightE (entAt seq x) = false := by simpa using ‹(!rightE (entAt seq x)) = true›
        go_ret
        exact ⟨by rw [rightB_bad hlt (by rw [← HX.out]; exact hx)]; rfl, bstep (bstep (balloc hbr _) hb1) hb2⟩
      · have hx : rightE (entAt seq x) = true := by simpa using ‹(!rightE (entAt seq x)) = false›
        go_roundw
        case rel =>
          refine ⟨k + 1, by go_num, by omega, fun j hj hjk => ?_, bstep (bstep (balloc hbr _) hb1) hb2⟩
          rcases Nat.lt_or_ge j k with h | h
          · exact HG.out j hj h
          · obtain rfl : j = k := by omega
            rw [← HX.out]; exact hx
        case measure => simp [intOf]; omega
    · go_wp2
      go_ret
      exact ⟨by rw [rightB_good (by omega) (by omega) (by omega) (by omega) (fun j hj => HG.out j hj (by omega))]; rfl, hbr⟩

theorem bEncode_bad (seq : UInt64) (v : Value) (l : List Opn) (w : World) (hv : SO w w.heap.size v l) (hok : ∀ o ∈ l, OpOk o) (h : rightB seq l = false) :
    Calls Try.prog 11 #[.int .u64 (seq.toNat : Int), v] w fun e w' => e = .returned (.tuple #[.slice none 0 0, .int .i64 1]) ∧ Below w.heap.size w w' := by
  have hs := u64_lt seq
  go_enter Try.func11, Try.ntmps11
  go_wp2_with (go_at_call 13; refine (bRight_any seq v l w hv hok).mono ?_; rintro e w1 ⟨rfl, hb1⟩)
  go_ret2
  exact ⟨rfl, hb1⟩

set_option maxHeartbeats 1000000 in
theorem bEncode_ok (seq : UInt64) (v : Value) (l : List Opn) (w : World) (hv : SO w w.heap.size v l) (hok : ∀ o ∈ l, OpOk o) (h : rightB seq l = true) :
    Calls Try.prog 11 #[.int .u64 (seq.toNat : Int), v] w fun e w' => ∃ r, e = .returned (.tuple #[r, .int .i64 0]) ∧ OB w' w.heap.size r (encB seq l) ∧ Below w.heap.size w w' := by
  have hs := u64_lt seq
  obtain ⟨r1, r2, _, _, hall⟩ := rightB_all h
  have hle : ∀ o ∈ l, o.user.size ≤ 1024 ∧ o.value.size ≤ 65536 := fun o ho => rightE_le (hall o ho)
  clear hall
  have hnl := num_length l.length
  have hfl := fix_length 8 seq.toNat
  obtain ⟨A, c, rfl, hlc, hcm, hr⟩ := id hv
  have hcm' : c ≤ 9223372036854775807 := by unfold maxLen at hcm; omega
  clear hcm
  have HV := Lib.hid hv
  have HOK := Lib.hid hok
  have HLE := Lib.hid hle
  have HF := Lib.hid hfl
  clear hv hok hle hfl
  go_enter Try.func11, Try.ntmps11
  go_wp2_with (first
    | (go_at_call 13; refine (bRight_any seq _ l w HV.out HOK.out).mono ?_; rintro e w1 ⟨rfl, hb1⟩)
    | (go_at_call 25; refine (cFix_any (.slice none 0 0) [] seq.toNat 8 w1 (SB.nil_ _ _) (by simp) hs (by omega) (by omega)).mono ?_; rintro e w2 ⟨x2, rfl, hown2, hb2⟩)
    | (go_at_call 24; refine (cNum_any x2 _ l.length w2 (hown2.sb) (by have := HF.out; simp [fixN8, fix_length]) (by omega)).mono ?_; rintro e w3 ⟨x3, rfl, hown3, hb3⟩))
  have hb3' : Below w.heap.size w w3 := bstep (bstep hb1 hb2) hb3
  have hown3' : OB w3 w.heap.size x3 (fix seq.toNat 8 ++ num l.length) := by
    have := hown3.rebase (base' := w.heap.size) (Nat.le_trans hb1.size hb2.size)
    simpa [fixN8] using this
  clear hown3 hown2 hb1 hb2 hb3
  go_loopw [6, 22] (fun x i wr => ∃ k : Nat, i = .int .i64 k ∧ k ≤ l.length ∧ OB wr w.heap.size x (fix seq.toNat 8 ++ num l.length ++ (l.take k).flatMap opB) ∧ Below w.heap.size w wr) (fun _ i _ => l.length - (intOf i).toNat)
  case atStart => exact ⟨0, rfl, Nat.zero_le _, by simpa using hown3', hb3'⟩
  case round =>
    obtain ⟨k, rfl, hk, hown, hbr⟩ := hrel
    have hsz := hbr.size
    by_cases hlt : k < l.length
    · obtain ⟨b, o, rfl, hb, c0, c1, c2⟩ := (hr.below hbr).op rfl hlt
      have hxl := HLE.out _ (List.getElem_mem hlt)
      have hsn := flat_snoc opB l k hlt
      have htl : ((l.take k).flatMap opB).length ≤ 66600000 := by
        have := opBs_le (l := l.take k) (fun o ho => HLE.out o (List.mem_of_mem_take ho))
        have h2 : (l.take k).length ≤ 1000 := by rw [List.length_take]; omega
        omega
      have hfl2 : (fix seq.toNat 8 ++ num l.length).length ≤ 18 := by rw [List.length_append, HF.out]; omega
      obtain ⟨x, hx⟩ : ∃ x, x = l[k] := ⟨_, rfl⟩
      rw [← hx] at c0 c1 c2 hxl hsn
      have HX := Lib.hid hx
      have HS := Lib.hid hsn
      clear hx hsn
      have hxu := num_length x.user.size
      have hxv := num_length x.value.size
      have hus := toList_size x.user
      have hvs := toList_size x.value
      have HUS := Lib.hid hus
      have HVS := Lib.hid hvs
      clear hus hvs
      by_cases hk1 : x.kind.toNat = 1
      · have hk2 : ((x.kind.toNat : Int) == 1) = true := by rw [beq_iff_eq]; omega
        have HK := Lib.hid hk1
        clear hk1
        go_wp2_with fail
        refine (cStr_any _ [x.kind] x.user _ (SB.newAt x.kind (by simp) (by simp)) (by simp; omega)).mono ?_
        rintro e w4 ⟨x4, rfl, hown4, hb4⟩
        have hc4 := bcells hb4
        go_wp2_with fail
        refine (cStr_any x4 _ x.value w4 hown4.sb (by have := HUS.out; simp; omega)).mono ?_
        rintro e w5 ⟨x5, rfl, hown5, hb5⟩
        clear hc4
        have ho5 := ((hown.alloc _).alloc _ |>.below hb4 (Nat.le_refl _)).below hb5 (Nat.le_refl _)
        have hsz5 : w.heap.size ≤ w5.heap.size := by have := hb4.size; have := hb5.size; simp at *; omega
        have hl5 : (fix seq.toNat 8 ++ num l.length ++ (l.take k).flatMap opB).length + ([x.kind] ++ num x.user.size ++ x.user.data.toList ++ num x.value.size ++ x.value.data.toList).length ≤ 140737488355328 := by
          have := HUS.out; have := HVS.out; simp only [List.length_append, List.length_cons, List.length_nil] at *; omega
        have hb5' := bstep (bstep (balloc (balloc hbr _) _) hb4) hb5
        go_wp2_with (at_builtin; refine wl_appB rfl (.tmp 39) (.tmp 40) rfl w.heap.size _ _ rfl ho5 _ _ _ rfl hown5.sb hl5 hsz5 ?_; intro v6 w6 hown6 _ _ hb6)
        go_roundw
        case rel =>
          refine ⟨k + 1, by go_num, by omega, ?_, hb5'.trans hb6⟩
          rw [HS.out, opB_put HK.out, ← List.append_assoc]
          simpa using hown6
        case measure => simp [intOf]; omega
      · have hk2 : ((x.kind.toNat : Int) == 1) = false := by rw [beq_eq_false_iff_ne]; omega
        have HK := Lib.hid hk1
        clear hk1
        go_wp2_with fail
        refine (cStr_any _ [x.kind] x.user _ (SB.newAt x.kind (by simp) (by simp)) (by simp; omega)).mono ?_
        rintro e w4 ⟨x4, rfl, hown4, hb4⟩
        have ho4 := ((hown.alloc _).alloc _ |>.below hb4 (Nat.le_refl _))
        have hsz4 : w.heap.size ≤ w4.heap.size := by have := hb4.size; simp at *; omega
        have hl4 : (fix seq.toNat 8 ++ num l.length ++ (l.take k).flatMap opB).length + ([x.kind] ++ num x.user.size ++ x.user.data.toList).length ≤ 140737488355328 := by
          have := HUS.out; simp only [List.length_append, List.length_cons, List.length_nil] at *; omega
        have hb4' := bstep (balloc (balloc hbr _) _) hb4
        have hc4 := bcells hb4
        go_wp2_with (at_builtin; refine wl_appB rfl (.tmp 39) (.tmp 40) rfl w.heap.size _ _ rfl ho4 _ _ _ rfl hown4.sb hl4 hsz4 ?_; intro v6 w6 hown6 _ _ hb6)
        go_roundw
        case rel =>
          refine ⟨k + 1, by go_num, by omega, ?_, hb4'.trans hb6⟩
          rw [HS.out, opB_del HK.out, ← List.append_assoc]
          simpa using hown6
        case measure => simp [intOf]; omega
    · go_wp2
      go_ret2
      refine ⟨_, rfl, ?_, hbr⟩
      rw [List.take_of_length_le (by omega)] at hown
      exact hown
end Go.Proofs.Ytkioalfmffamhaa
