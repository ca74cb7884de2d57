/-
  What is proved here: what the reference's Right and Encode of layer 12 come to, at this seat's numbers.
-/
import Derived.Test.YtkioalfmffamhaaBatchW2
import Derived.Test.YtkioalfmffamhaaRefCodecW
namespace Go.Proofs.Ytkioalfmffamhaa
open Go.RowKit

theorem rightB_badk {seq : UInt64} {l : List Opn} {k : Nat} (hk : k < l.length) (h3 : seq.toNat + l.length ≤ 72057594037927936) (h : rightE (entAt (seq + UInt64.ofNat k) l[k]) = false) : rightB seq l = false := by
  refine rightB_bad hk ?_
  have e : (seq + UInt64.ofNat k).toNat = seq.toNat + k := by
    rw [UInt64.toNat_add, UInt64.toNat_ofNat']; omega
  have e2 : seq.toNat + k ≤ 72057594037927935 := by omega
  have e3 : seq.toNat ≤ 72057594037927935 := by omega
  simp only [rightE, entAt, e, e2, e3, decide_true, Bool.and_true] at h ⊢
  exact h
theorem rightB_goodk {seq : UInt64} {l : List Opn} (h1 : 1 ≤ l.length) (h2 : l.length ≤ 1000) (h3 : 1 ≤ seq.toNat) (h4 : seq.toNat + l.length ≤ 72057594037927936) (h : ∀ k (hk : k < l.length), rightE (entAt (seq + UInt64.ofNat k) l[k]) = true) : rightB seq l = true := by
  refine rightB_good h1 h2 h3 h4 fun k hk => ?_
  have hx := h k hk
  have e : (seq + UInt64.ofNat k).toNat = seq.toNat + k := by
    rw [UInt64.toNat_add, UInt64.toNat_ofNat']; omega
  have e2 : seq.toNat + k ≤ 72057594037927935 := by omega
  have e3 : seq.toNat ≤ 72057594037927935 := by omega
  simp only [rightE, entAt, e, e2, e3, decide_true, Bool.and_true] at hx ⊢
  exact hx
theorem entsFrom_get (l : List Opn) : ∀ (seq : UInt64) (k : Nat) (hk : k < (entsFrom seq l).length) (hk' : k < l.length), (entsFrom seq l)[k] = entAt (seq + UInt64.ofNat k) l[k] := by
  induction l with
  | nil => intro seq k hk hk'; simp at hk'
  | cons o l ih =>
    intro seq k hk hk'
    cases k with
    | zero => simp [entsFrom]
    | succ k =>
      simp only [entsFrom, List.getElem_cons_succ]
      rw [ih (seq + 1) k (by rw [entsFrom_length]; simpa using hk') (by simpa using hk')]
      congr 1
      rw [UInt64.ofNat_add, UInt64.add_assoc, UInt64.add_comm 1]
      rfl

set_option maxHeartbeats 2000000 in
theorem rRightB_any (seq : UInt64) (v : Value) (l : List Opn) (w : World) (hv : SO w w.heap.size v l) (hok : ∀ o ∈ l, OpOk o) :
    Calls Try.prog 14 #[.int .u64 (seq.toNat : Int), v] w fun e w' => e = .returned (.bool (rightB seq l)) ∧ Below w.heap.size w w' := by
  have hv0 := hv
  obtain ⟨A, c, rfl, hlc, hcm, hr⟩ := hv
  have hs := u64_lt seq
  have hcm' : c ≤ 9223372036854775807 := by unfold maxLen at hcm; omega
  clear hcm
  have HV := Lib.hid hv0
  clear hv0
  by_cases g0 : l.length = 0
  · have g : (l.length : Int) < 1 := by omega
    have HF := Lib.hid (rightB_f1 (seq := seq) (l := l) (by omega))
    clear g0
    go_enter Try.func14, Try.ntmps14
    go_wp2
    go_ret
    exact ⟨by rw [HF.out]; rfl, Below.refl _ _⟩
  by_cases g1 : 1000 < l.length
  · have HF := Lib.hid (rightB_f2 (seq := seq) (l := l) (by omega))
    go_enter Try.func14, Try.ntmps14
    go_wp2
    go_ret
    exact ⟨by rw [HF.out]; rfl, Below.refl _ _⟩
  by_cases g2 : seq.toNat = 0
  · have g : (seq.toNat : Int) < 1 := by omega
    have HF := Lib.hid (rightB_f3 (seq := seq) (l := l) (by omega))
    clear g2
    go_enter Try.func14, Try.ntmps14
    go_wp2
    go_ret
    exact ⟨by rw [HF.out]; rfl, Below.refl _ _⟩
  by_cases g3 : 72057594037927936 < seq.toNat + l.length
  · have HF := Lib.hid (rightB_f4 (seq := seq) (l := l) g3)
    go_enter Try.func14, Try.ntmps14
    go_wp2
    go_ret
    exact ⟨by rw [HF.out]; rfl, Below.refl _ _⟩
  go_enter Try.func14, Try.ntmps14
  go_wp2_with (go_at_call 17; refine (rEntries_any seq _ l w HV.out (by omega)).mono ?_; rintro e w1 ⟨r, rfl, hown1, hb1⟩)
  have hel := entsFrom_length l seq
  obtain ⟨A1, c1, rfl, hlc1, hcm1, hr1⟩ := hown1.se
  have hcm1' : c1 ≤ 9223372036854775807 := by unfold maxLen at hcm1; omega
  clear hcm1
  rw [hel] at hlc1 hr1
  rw [hel]
  clear hown1 hr
  have HEL := Lib.hid hel
  clear hel
  go_loopw [6] (fun i wr => ∃ k : Nat, i = .int .i64 k ∧ k ≤ l.length ∧ (∀ j (hj : j < l.length), j < k → rightE (entAt (seq + UInt64.ofNat j) l[j]) = true) ∧ Below w1.heap.size w1 wr) (fun i _ => l.length - (intOf i).toNat)
  case atStart => exact ⟨0, rfl, Nat.zero_le _, fun _ _ h => absurd h (by omega), Below.refl _ _⟩
  case round =>
    obtain ⟨k, rfl, hk, hgood, hbr⟩ := hrel
    have HG := Lib.hid hgood
    clear hgood
    by_cases hlt : k < l.length
    · obtain ⟨b, o, rfl, hb, d0, d1, d2, d3⟩ := (hr1.below hbr).ent HEL.out.symm (k := k) (by rw [HEL.out]; exact hlt)
      have hoo := hok _ (List.getElem_mem hlt)
      have hget := entsFrom_get l seq k (by rw [HEL.out]; exact hlt) hlt
      obtain ⟨x, hx⟩ : ∃ x, x = (entsFrom seq l)[k]'(by rw [HEL.out]; exact hlt) := ⟨_, rfl⟩
      rw [← hx] at d0 d1 d2 d3 hget
      have hxo : x.user.size ≤ 9223372036854775807 ∧ x.value.size ≤ 9223372036854775807 := by rw [hget]; exact hoo
      have HX := Lib.hid hget
      clear hx hget hoo
      go_wp2_with (go_at_call 32; refine (rRight_any x _ (by omega) (by omega)).mono ?_; rintro e w2 ⟨rfl, hb2⟩)
      · have hx : rightE x = false := by simpa using ‹(!rightE x) = true›
        go_ret
        exact ⟨by rw [rightB_badk hlt (by omega) (by rw [← HX.out]; exact hx)]; rfl, bstep (bstep hb1 hbr) hb2⟩
      · have hx : rightE x = true := by simpa using ‹(!rightE x) = false›
        go_roundw
        case rel =>
          refine ⟨k + 1, by go_num, by omega, fun j hj hjk => ?_, bstep hbr hb2⟩
          rcases Nat.lt_or_ge j k with h | h
          · exact HG.out j hj h
          · obtain rfl : j = k := by omega
            rw [← HX.out]; exact hx
        case measure => simp [intOf]; omega
    · go_wp2
      go_ret
      exact ⟨by rw [rightB_goodk (by omega) (by omega) (by omega) (by omega) (fun j hj => HG.out j hj (by omega))]; rfl, bstep hb1 hbr⟩

theorem rEncode_bad (seq : UInt64) (v : Value) (l : List Opn) (w : World) (hv : SO w w.heap.size v l) (hok : ∀ o ∈ l, OpOk o) (h : rightB seq l = false) :
    Calls Try.prog 12 #[.int .u64 (seq.toNat : Int), v] w fun e w' => e = .returned (.tuple #[.slice none 0 0, .int .i64 1]) ∧ Below w.heap.size w w' := by
  have hs := u64_lt seq
  go_enter Try.func12, Try.ntmps12
  go_wp2_with (go_at_call 14; refine (rRightB_any seq v l w hv hok).mono ?_; rintro e w1 ⟨rfl, hb1⟩)
  go_ret2
  exact ⟨rfl, hb1⟩

set_option maxHeartbeats 1000000 in
theorem rEncode_ok (seq : UInt64) (v : Value) (l : List Opn) (w : World) (hv : SO w w.heap.size v l) (hok : ∀ o ∈ l, OpOk o) (h : rightB seq l = true) :
    Calls Try.prog 12 #[.int .u64 (seq.toNat : Int), v] w fun e w' => ∃ r, e = .returned (.tuple #[r, .int .i64 0]) ∧ OB w' w.heap.size r (encB seq l) ∧ Below w.heap.size w w' := by
  have hs := u64_lt seq
  obtain ⟨r1, r2, _, _, hall⟩ := rightB_all h
  have hle : ∀ o ∈ l, o.user.size ≤ 1024 ∧ o.value.size ≤ 65536 := fun o ho => rightE_le (hall o ho)
  clear hall
  have hnl := num_length l.length
  have hfl := fix_length 8 seq.toNat
  obtain ⟨A, c, rfl, hlc, hcm, hr⟩ := id hv
  have hcm' : c ≤ 9223372036854775807 := by unfold maxLen at hcm; omega
  clear hcm
  have HV := Lib.hid hv
  have HOK := Lib.hid hok
  have HLE := Lib.hid hle
  have HF := Lib.hid hfl
  clear hv hok hle hfl
  go_enter Try.func12, Try.ntmps12
  go_wp2_with (first
    | (go_at_call 14; refine (rRightB_any seq _ l w HV.out HOK.out).mono ?_; rintro e w1 ⟨rfl, hb1⟩)
    | (go_at_call 27; refine (rFix_any seq.toNat 8 w1 hs (by omega) (by omega)).mono ?_; rintro e w2 ⟨x2, rfl, hown2, hb2⟩)
    | (go_at_call 28; refine (rNum_any l.length w2 (by omega)).mono ?_; rintro e w3 ⟨x3, rfl, hown3, hb3⟩)
    | (at_builtin; refine wl_appB rfl (.tmp 14) (.tmp 18) rfl w.heap.size _ _ rfl ((hown2.rebase hb1.size).below hb3 (Nat.le_refl _)) _ _ _ rfl hown3.sb (by rw [fixN8, HF.out]; omega) (bstep (bstep hb1 hb2) hb3).size ?_; intro v4 w4 hown4 _ _ hb4))
  have hb4' : Below w.heap.size w w4 := (bstep (bstep hb1 hb2) hb3).trans hb4
  have hown4' : OB w4 w.heap.size v4 (fix seq.toNat 8 ++ num l.length) := by
    simpa [fixN8] using hown4
  clear hown3 hown2 hown4 hb1 hb2 hb3 hb4
  go_loopw [6, 7] (fun x i wr => ∃ k : Nat, i = .int .i64 k ∧ k ≤ l.length ∧ OB wr w.heap.size x (fix seq.toNat 8 ++ num l.length ++ (l.take k).flatMap opB) ∧ Below w.heap.size w wr) (fun _ i _ => l.length - (intOf i).toNat)
  case atStart => exact ⟨0, rfl, Nat.zero_le _, by simpa using hown4', hb4'⟩
  case round =>
    obtain ⟨k, rfl, hk, hown, hbr⟩ := hrel
    have hsz := hbr.size
    by_cases hlt : k < l.length
    · obtain ⟨b, o, rfl, hb, c0, c1, c2⟩ := hr.op rfl hlt
      obtain ⟨hc5, _⟩ := bcells hbr
      have hxl := HLE.out _ (List.getElem_mem hlt)
      have hsn := flat_snoc opB l k hlt
      have htl : ((l.take k).flatMap opB).length ≤ 66600000 := by
        have := opBs_le (l := l.take k) (fun o ho => HLE.out o (List.mem_of_mem_take ho))
        have h2 : (l.take k).length ≤ 1000 := by rw [List.length_take]; omega
        omega
      have hfl2 : (fix seq.toNat 8 ++ num l.length).length ≤ 18 := by rw [List.length_append, HF.out]; omega
      have hpre : (fix seq.toNat 8 ++ num l.length ++ (l.take k).flatMap opB).length ≤ 66600018 := by rw [List.length_append]; omega
      obtain ⟨pre, hp⟩ : ∃ pre, pre = fix seq.toNat 8 ++ num l.length ++ (l.take k).flatMap opB := ⟨_, rfl⟩
      rw [← hp] at hown hpre
      have HP := Lib.hid hp
      obtain ⟨x, hx⟩ : ∃ x, x = l[k] := ⟨_, rfl⟩
      rw [← hx] at c0 c1 c2 hxl hsn
      have HS := Lib.hid hsn
      clear hx hsn hp htl hfl2
      have hxu := num_length x.user.size
      have hxv := num_length x.value.size
      have HUS := Lib.hid (toList_size x.user)
      have HVS := Lib.hid (toList_size x.value)
      have hl1 : (pre ++ [x.kind]).length ≤ 66600019 := by simp; omega
      have hl2 : (num x.user.size ++ x.user.data.toList).length ≤ 2000 := by rw [List.length_append, HUS.out]; omega
      have hl3 : (pre ++ [x.kind] ++ (num x.user.size ++ x.user.data.toList)).length ≤ 66610019 := by rw [List.length_append]; omega
      have hl4 : (num x.value.size ++ x.value.data.toList).length ≤ 70000 := by rw [List.length_append, HVS.out]; omega
      by_cases hk1 : x.kind.toNat = 1
      · have hk2 : ((x.kind.toNat : Int) == 1) = true := by rw [beq_iff_eq]; omega
        have HK := Lib.hid hk1
        clear hk1
        go_wp2_with (at_builtin; refine wl_app1 rfl (.tmp 26) (.tmp 32) rfl w.heap.size _ pre rfl hown _ x.kind rfl rfl rfl (by omega) hsz ?_; intro v5 w5 hown5 _ _ hb5; have hb5' := hbr.trans hb5; obtain ⟨hc6, _⟩ := bcells hb5'; clear hc5)
        refine (rStr_any x.user w5 (by omega)).mono ?_
        rintro e w6 ⟨x6, rfl, hown6, hb6⟩
        clear hc6
        go_wp2_with (at_builtin; refine wl_appB rfl (.tmp 34) (.tmp 40) rfl w.heap.size _ (pre ++ [x.kind]) rfl (hown5.below hb6 (Nat.le_refl _)) _ _ _ rfl hown6.sb (by omega) (bstep hb5' hb6).size ?_; intro v7 w7 hown7 _ _ hb7; have hb7' := (bstep hb5' hb6).trans hb7; obtain ⟨hc7, _⟩ := bcells hb7'; clear hown5 hown6 hb5 hb6)
        refine (rStr_any x.value w7 (by omega)).mono ?_
        rintro e w8 ⟨x8, rfl, hown8, hb8⟩
        clear hc7
        go_wp2_with (at_builtin; refine wl_appB rfl (.tmp 48) (.tmp 54) rfl w.heap.size _ (pre ++ [x.kind] ++ (num x.user.size ++ x.user.data.toList)) rfl (hown7.below hb8 (Nat.le_refl _)) _ _ _ rfl hown8.sb (by omega) (bstep hb7' hb8).size ?_; intro v9 w9 hown9 _ _ hb9)
        go_roundw
        case rel =>
          refine ⟨k + 1, by go_num, by omega, ?_, (bstep hb7' hb8).trans hb9⟩
          rw [HS.out, opB_put HK.out, ← List.append_assoc, ← HP.out]
          simpa using hown9
        case measure => simp [intOf]; omega
      · have hk2 : ((x.kind.toNat : Int) == 1) = false := by rw [beq_eq_false_iff_ne]; omega
        have HK := Lib.hid hk1
        clear hk1
        go_wp2_with (at_builtin; refine wl_app1 rfl (.tmp 26) (.tmp 32) rfl w.heap.size _ pre rfl hown _ x.kind rfl rfl rfl (by omega) hsz ?_; intro v5 w5 hown5 _ _ hb5; have hb5' := hbr.trans hb5; obtain ⟨hc6, _⟩ := bcells hb5'; clear hc5)
        refine (rStr_any x.user w5 (by omega)).mono ?_
        rintro e w6 ⟨x6, rfl, hown6, hb6⟩
        clear hc6
        go_wp2_with (at_builtin; refine wl_appB rfl (.tmp 34) (.tmp 40) rfl w.heap.size _ (pre ++ [x.kind]) rfl (hown5.below hb6 (Nat.le_refl _)) _ _ _ rfl hown6.sb (by omega) (bstep hb5' hb6).size ?_; intro v7 w7 hown7 _ _ hb7; have hb7' := (bstep hb5' hb6).trans hb7; obtain ⟨hc7, _⟩ := bcells hb7'; clear hown5 hown6 hb5 hb6)
        go_roundw
        case rel =>
          refine ⟨k + 1, by go_num, by omega, ?_, hb7'⟩
          rw [HS.out, opB_del HK.out, ← List.append_assoc, ← HP.out]
          simpa using hown7
        case measure => simp [intOf]; omega
    · go_wp2
      go_ret2
      refine ⟨_, rfl, ?_, hbr⟩
      rw [List.take_of_length_le (by omega)] at hown
      exact hown
end Go.Proofs.Ytkioalfmffamhaa
