/-
  What is proved here: what the reference's Decode of layer 12 comes to, at this seat's numbers. Condition: the bytes' length.
-/
import Derived.Test.YtkioalfmffamhaaBatchW4
import Derived.Test.YtkioalfmffamhaaRefReaderW3
namespace Go.Proofs.Ytkioalfmffamhaa
open Go.RowKit

/-- what the reference's Decode comes to -/
def RDecPost (b : List UInt8) (w : World) (e : Ending) (w' : World) : Prop :=
  (progOk b = true ∧ ∃ r, e = .returned (.tuple #[.int .u64 ((seqOf b).toNat : Int), r, .int .i64 0]) ∧ SO w' w'.heap.size r (loopOps (numOf b) (behind b)).1 ∧ Below w.heap.size w w') ∨
  (progOk b = false ∧ e = .returned (.tuple #[.int .u64 0, .slice none 0 0, .int .i64 120]) ∧ Below w.heap.size w w')
theorem RefAt.farR {w w' : World} {base R : Nat} {bs : List UInt8} {i bad : Nat} {row : Option Nat} (h : RefAt w base R bs i bad) (hg : w.grownBy w' row) (hne : ∀ g, row = some g → g ≠ R ∧ base ≤ g) : RefAt w' base R bs i bad := by
  have hlt := h.lt
  obtain ⟨A, c, h1, h2, h3, h4, h5, h6⟩ := h
  refine ⟨A, c, (hg.block R hlt (fun e => (hne R e.symm).1 rfl)).trans h1, h2, h3, h4, h5, h6.keep fun p hp => World.cell?_of_block (hg.block p.block (by omega) (fun e => by have := (hne _ e.symm).2; omega))⟩
theorem not_prog {b : List UInt8} (h : ¬ ((behind b).2 = 0 ∧ numOf b ≤ 1000 ∧ sEnd (manyOps (numOf b) (behind b)).2 = 0 ∧ rightB (seqOf b) (manyOps (numOf b) (behind b)).1 = true ∧ encB (seqOf b) (manyOps (numOf b) (behind b)).1 = b)) : progOk b = false := by
  cases hp : progOk b with
  | false => rfl
  | true => exact absurd ((progOk_ref b).1 hp) h

set_option maxRecDepth 100000 in
set_option maxHeartbeats 2000000 in
theorem rDecode_any (v : Value) (b : List UInt8) (w : World) (hv : SB w w.heap.size v b) (hb : b.length ≤ 100000000) :
    Calls Try.prog 22 #[v] w (RDecPost b w) := by
  have e8 : (sFix 8 (b, 0)).1 = (seqOf b).toNat := by
    unfold seqOf
    rw [UInt64.toNat_ofNat']
    exact (Nat.mod_eq_of_lt (sFix_lt 8 (b, 0))).symm
  have hnlt : numOf b < 18446744073709551616 := sNum_lt _
  have E8 := Lib.hid e8
  have hv0 := hv
  clear e8
  obtain ⟨A, c, rfl, hc, hcm, hr⟩ := hv
  have HV := Lib.hid hv0
  clear hv0
  go_enter Try.func22, Try.ntmps22
  go_wp2_with fail
  obtain ⟨w1, hw1⟩ : ∃ w1, w1 = w.alloc (.cells #[.slice A b.length c, .int .i64 0, .int .i64 0] 62) := ⟨_, rfl⟩
  have hrf1 : RefAt w1 w.heap.size w.heap.size b 0 0 := by
    rw [hw1]
    exact ⟨A, c, heap_alloc_new w _, hc, hcm, Nat.zero_le _, Nat.le_refl _, hr.alloc (Nat.le_refl _) _⟩
  have hb1 : Below w.heap.size w w1 := by rw [hw1]; exact balloc (bself w) _
  rw [← hw1]
  obtain ⟨R, hR⟩ : ∃ R, R = w.heap.size := ⟨_, rfl⟩
  rw [← hR]
  clear hw1 hr
  have hRle : w.heap.size ≤ R := by omega
  have hrf1' : RefAt w1 w.heap.size R b 0 0 := by rw [hR]; exact hrf1
  clear hrf1 hR
  have h8 := qFix_any w.heap.size R b 0 0 8 w1 hrf1' (by omega) (by omega) (by omega)
  rw [List.drop_zero, E8.out] at h8
  refine h8.mono ?_
  rintro e w2 ⟨rfl, ⟨i2, hrf2, hi2⟩, hg2⟩
  clear h8
  have hnum := qNum_any w.heap.size R b i2 _ w2 hrf2 (by omega)
  rw [hi2] at hnum
  go_wp2_with fail
  refine hnum.mono ?_
  rintro e w3 ⟨rfl, ⟨i3, hrf3, hi3⟩, hg3⟩
  clear hnum
  have hR1 := hrf1'.lt
  have hb3 : Below w.heap.size w w3 := hb1.trans ((gbelow hg2 (Nat.le_of_lt hR1) hRle).trans (gbelow hg3 (Nat.le_of_lt hrf2.lt) hRle))
  have hrf3' : RefAt w3 w.heap.size R b i3 (behind b).2 := hrf3
  have hi3' : b.drop i3 = (behind b).1 := hi3
  obtain ⟨s0, hs0⟩ : ∃ s0, s0 = behind b := ⟨_, rfl⟩
  obtain ⟨n0, hn0⟩ : ∃ n0, n0 = numOf b := ⟨_, rfl⟩
  have hn0' : (sNum ((sFix 8 (b, 0)).snd.fst, (sFix 8 (b, 0)).snd.snd)).fst = n0 := hn0.symm
  rw [hn0']
  rw [← hs0] at hrf3' hi3'
  rw [← hn0] at hnlt
  have HS0 := Lib.hid (And.intro hs0 hn0)
  have HI3 := Lib.hid hi3'
  clear hn0' hs0 hn0 hrf3 hrf2 hg2 hg3 hi2 hi3 hi3' hrf1'
  obtain ⟨bd, hbd⟩ : ∃ bd, bd = s0.2 := ⟨_, rfl⟩
  rw [← hbd] at hrf3'
  have HBD := Lib.hid hbd
  clear hbd
  obtain ⟨A3, c3, hh3, hc3, hm3, hi3, hbb3, hr3⟩ := id hrf3'
  obtain ⟨x0, x1, x2, y0, y1, y2⟩ := cells3 hh3
  have HH3 := Lib.hid (And.intro hh3 hr3)
  clear hh3 hr3
  by_cases hbad : bd = 0
  · have HB0 := Lib.hid hbad
    have tb : ((bd : Int) != 0) = false := by rw [bne_eq_false_iff_eq]; omega
    clear hbad
    by_cases hbig : 1000 < n0
    · go_wp2_with fail
      go_ret3
      exact .inr ⟨not_prog (by rw [← HS0.out.2]; omega), rfl, hb3⟩
    · go_wp2_with fail
      clear x0 x1 x2 y0 y1 y2
      go_loopw [8, 9] (fun lv iv wr => ∃ (i : Nat) (acc : List Opn) (j bad : Nat), iv = .int .u64 i ∧ i ≤ n0 ∧ Hid (acc.length = i) ∧ OO wr (R + 1) lv acc ∧ RefAt wr w.heap.size R b j bad ∧ Hid (acc ++ (manyOps (n0 - i) (b.drop j, bad)).1 = (manyOps n0 s0).1 ∧ (manyOps (n0 - i) (b.drop j, bad)).2 = (manyOps n0 s0).2) ∧ Below w.heap.size w wr) (fun _ iv _ => n0 - (intOf iv).toNat)
      case atStart => exact ⟨0, [], i3, bd, rfl, Nat.zero_le _, Lib.hid rfl, OO.nil_ _ _, hrf3', Lib.hid (by rw [HI3.out, HBD.out]; exact ⟨rfl, rfl⟩), hb3⟩
      case round =>
        obtain ⟨i, acc, j, bad, rfl, hi, hal, hown, hrf, hq, hbr⟩ := hrel
        have hlt := hown.lt
        have hRlt := hrf.lt
        by_cases hgo : i < n0
        · obtain ⟨m, hm⟩ : ∃ m, n0 - i = m + 1 := ⟨n0 - i - 1, by omega⟩
          have HM := Lib.hid hm
          have hal' : acc.length ≤ 1000 := by rw [hal.out]; omega
          have hx := sFix1_lt (b.drop j, bad)
          obtain ⟨kb, hkb⟩ : ∃ kb, kb = UInt8.ofNat (sFix 1 (b.drop j, bad)).1 := ⟨_, rfl⟩
          have e1 : (sFix 1 (b.drop j, bad)).1 = kb.toNat := by rw [hkb, UInt8.toNat_ofNat']; exact (Nat.mod_eq_of_lt hx).symm
          have hk8 := u8_lt kb
          obtain ⟨s1, hs1⟩ : ∃ s1, s1 = (sFix 1 (b.drop j, bad)).2 := ⟨_, rfl⟩
          obtain ⟨u, hu⟩ : ∃ u : ByteArray, u = ⟨(sStr 1024 s1).1.toArray⟩ := ⟨_, rfl⟩
          obtain ⟨s2, hs2⟩ : ∃ s2, s2 = (sStr 1024 s1).2 := ⟨_, rfl⟩
          have h1 := qFix_any w.heap.size R b j bad 1 wr hrf (by omega) (by omega) (by omega)
          rw [e1, ← hs1] at h1
          have H1 := Lib.hid h1
          have HK := Lib.hid (And.intro hkb (And.intro hs1 (And.intro hu hs2)))
          clear hkb hs1 h1 e1 hx hm
          have HU := Lib.hid (And.intro hu hs2)
          clear hu hs2
          go_wp2_with fail
          refine H1.out.mono ?_
          rintro e w4 ⟨rfl, ⟨i4, hrf4, hi4⟩, hg4⟩
          have hg4s := hg4.size
          have hown4 := hown.far hg4 (fun k hk e => by have := (hlt k hk).1; injection e with e; omega)
          have hrf4' := hrf4.farR (World.grownBy_alloc w4 (.cells #[.int .u8 (kb.toNat : Int), .string ⟨#[]⟩, .string ⟨#[]⟩] 37) none) (fun g hg => by cases hg)
          have h2 := qStr_any w.heap.size R b i4 s1.2 1024 _ hrf4' (by omega) (by omega)
          have eta1 : (s1.1, s1.2) = s1 := rfl
          rw [hi4, eta1, ← HU.out.1, ← HU.out.2] at h2
          have H2 := Lib.hid h2
          clear h2 eta1 hi4
          go_wp2_with fail
          refine H2.out.mono ?_
          rintro e w5 ⟨rfl, ⟨i5, hrf5, hi5⟩, hg5⟩
          have hg5s := hg5.size
          simp at hg5s
          have hq5 : w5.heap[w4.heap.size]? = some (.cells #[.int .u8 (kb.toNat : Int), .string ⟨#[]⟩, .string ⟨#[]⟩] 37 (0, 0)) :=
            (hg5.block _ (by simp) (fun e => by injection e with e; omega)).trans (heap_alloc_new w4 _)
          obtain ⟨x0, x1, x2, y0, y1, y2⟩ := cells3 hq5
          have hown5 := (hown4.alloc (.cells #[.int .u8 (kb.toNat : Int), .string ⟨#[]⟩, .string ⟨#[]⟩] 37)).far hg5 (fun k hk e => by have := (hlt k hk).1; injection e with e; omega)
          have hq5' := set31 (u := .string u) hq5
          have hgs := grown_set (g := w4.heap.size) (p := ⟨w4.heap.size, 1, none⟩) w5 rfl (.string u)
          have hrf5' := hrf5.farR hgs (fun g hg => by injection hg with hg; omega)
          have hown5' := hown5.far hgs (fun k hk e => by have := (hlt k hk).2; injection e with e; omega)
          have hb5 : Below w.heap.size w (w5.setCell ⟨w4.heap.size, 1, none⟩ (.string u)) := by
            have a1 := hbr.trans (gbelow hg4 (Nat.le_of_lt hRlt) hRle)
            have a2 := a1.alloc (Nat.le_trans hbr.size hg4s) (.cells #[.int .u8 (kb.toNat : Int), .string ⟨#[]⟩, .string ⟨#[]⟩] 37)
            have a3 := a2.trans (gbelow hg5 (by simp; omega) hRle)
            exact a3.setCell (by have := hbr.size; simp; omega) _
          have HQ5 := Lib.hid hq5'
          clear hq5 hq5' hgs hown4 hown5 hrf4' hrf4 hrf5
          by_cases hk1 : kb.toNat = 1
          · have t1 : ((kb.toNat : Int) == 1) = true := by rw [beq_iff_eq]; omega
            obtain ⟨vv, hvv⟩ : ∃ vv : ByteArray, vv = ⟨(sStr 65536 s2).1.toArray⟩ := ⟨_, rfl⟩
            obtain ⟨s3, hs3⟩ : ∃ s3, s3 = (sStr 65536 s2).2 := ⟨_, rfl⟩
            have htk : takeOp (b.drop j, bad) = (⟨kb, u, vv⟩, s3) := by
              obtain ⟨k1, k2, k3, k4⟩ := HK.out
              unfold takeOp
              rw [← k1, ← k2, ← k4, if_pos hk1, hvv, hs3, k3]
            have h3 := qStr_any w.heap.size R b i5 s2.2 65536 _ hrf5' (by omega) (by omega)
            have eta2 : (s2.1, s2.2) = s2 := rfl
            rw [hi5, eta2, ← hvv, ← hs3] at h3
            have HT := Lib.hid htk
            have H3 := Lib.hid h3
            clear hvv hs3 htk h3 eta2 hk1 hi5
            go_wp2_with fail
            refine H3.out.mono ?_
            rintro e w6 ⟨rfl, ⟨i6, hrf6, hi6⟩, hg6⟩
            have hg6s := hg6.size
            simp at hg6s
            have hq6 := (hg6.block w4.heap.size (by simp; omega) (fun e => by injection e with e; omega)).trans HQ5.out
            obtain ⟨z0, z1, z2, q0, q1, q2⟩ := cells3 hq6
            have hown6 := hown5'.far hg6 (fun k hk e => by have := (hlt k hk).1; injection e with e; omega)
            have hgs6 := grown_set (g := w4.heap.size) (p := ⟨w4.heap.size, 2, none⟩) w6 rfl (.string vv)
            have hrf6' := hrf6.farR hgs6 (fun g hg => by injection hg with hg; omega)
            have hown6' := hown6.far hgs6 (fun k hk e => by have := (hlt k hk).2; injection e with e; omega)
            have hb6 : Below w.heap.size w (w6.setCell ⟨w4.heap.size, 2, none⟩ (.string vv)) := (hb5.trans (gbelow hg6 (by simp; omega) hRle)).setCell (by have := hbr.size; simp; omega) _
            clear hq6 hown6 hrf6 hgs6
            have HI6 := Lib.hid hi6
            clear hi6
            go_wp2_with (at_builtin; refine wl_appO rfl (.tmp 47) (.tmp 49) rfl (R + 1) _ acc rfl hown6' ⟨kb, u, vv⟩ (by simp) rfl (by simp only [maxLen]; omega) (Fits.one _ _ (by omega)) (by simp; omega) ?_; intro v7 w7 hown7 hg7 hb7)
            have hrf7 := hrf6'.farR hg7 (fun g hg => by have := (hlt g hg).1; omega)
            go_roundw
            case rel =>
              refine ⟨i + 1, acc ++ [⟨kb, u, vv⟩], i6, s3.2, by go_num, by omega, Lib.hid (by simp [hal.out]), hown7, hrf7, Lib.hid ?_, hb6.trans (hb7.mono (by omega))⟩
              have h := hq.out
              rw [HM.out, manyOps, HT.out] at h
              rw [show n0 - (i + 1) = m from by have := HM.out; omega, HI6.out]
              simpa using h
            case measure => simp [intOf] <;> omega
          · have t1 : ((kb.toNat : Int) == 1) = false := by rw [beq_eq_false_iff_ne]; omega
            have htk : takeOp (b.drop j, bad) = (⟨kb, u, ⟨#[]⟩⟩, s2) := by
              obtain ⟨k1, k2, k3, k4⟩ := HK.out
              unfold takeOp
              rw [← k1, ← k2, ← k4, if_neg hk1, k3]
            have HT := Lib.hid htk
            clear htk hk1
            have HI5 := Lib.hid hi5
            clear hi5
            obtain ⟨z0, z1, z2, q0, q1, q2⟩ := cells3 HQ5.out
            go_wp2_with (at_builtin; refine wl_appO rfl (.tmp 47) (.tmp 49) rfl (R + 1) _ acc rfl hown5' ⟨kb, u, ⟨#[]⟩⟩ (by simp) rfl (by simp only [maxLen]; omega) (Fits.one _ _ (by omega)) (by simp; omega) ?_; intro v7 w7 hown7 hg7 hb7)
            have hrf7 := hrf5'.farR hg7 (fun g hg => by have := (hlt g hg).1; omega)
            go_roundw
            case rel =>
              refine ⟨i + 1, acc ++ [⟨kb, u, ⟨#[]⟩⟩], i5, s2.2, by go_num, by omega, Lib.hid (by simp [hal.out]), hown7, hrf7, Lib.hid ?_, hb5.trans (hb7.mono (by omega))⟩
              have h := hq.out
              rw [HM.out, manyOps, HT.out] at h
              rw [show n0 - (i + 1) = m from by have := HM.out; omega, HI5.out]
              simpa using h
            case measure => simp [intOf] <;> omega
        · have hz : n0 - i = 0 := by omega
          have hqq := hq.out
          rw [hz, manyOps, List.append_nil] at hqq
          simp only at hqq
          have HQQ := Lib.hid hqq
          have hall : ∀ o ∈ acc, OpOk o := fun o ho => by
            have h := manyOps_all n0 s0 o (by rw [← HQQ.out.1]; exact ho)
            have h1 : s0.1.length ≤ b.length := by rw [← HI3.out, List.length_drop]; omega
            unfold OpOk
            omega
          have HALL := Lib.hid hall
          have hso := hown.so
          obtain ⟨q, hqe⟩ : ∃ q, q = sEnd (b.drop j, bad) := ⟨_, rfl⟩
          have HPR : Hid ((progOk b = true ↔ (q = 0 ∧ rightB (seqOf b) acc = true ∧ encB (seqOf b) acc = b)) ∧ (progOk b = true → (loopOps (numOf b) (behind b)).1 = acc)) := by
            refine Lib.hid ⟨?_, fun h => ?_⟩
            · rw [progOk_ref, ← HS0.out.1, ← HS0.out.2, ← HQQ.out.1, ← HQQ.out.2, ← hqe, ← HBD.out]
              have h1 := HB0.out
              constructor
              · rintro ⟨_, _, a3, a4, a5⟩; exact ⟨a3, a4, a5⟩
              · rintro ⟨a3, a4, a5⟩; exact ⟨h1, by omega, a3, a4, a5⟩
            · rw [progOk_same h, ← HS0.out.1, ← HS0.out.2, ← HQQ.out.1]
          have HQE := Lib.hid hqe
          have hrdE := fun W (h : RefAt W w.heap.size R b j bad) => qEnd_any w.heap.size R b j bad W h
          rw [← hqe] at hrdE
          have HEND := Lib.hid hrdE
          clear hqq hall hq hqe hrdE hz hal
          have hlow : w.heap.size ≤ wr.heap.size := hbr.size
          cases hrb : rightB (seqOf b) acc with
          | false =>
            have HNP : Hid (progOk b = false) := Lib.hid (by
              cases hp : progOk b with
              | false => rfl
              | true => have := ((HPR.out.1).1 hp).2.1; rw [hrb] at this; cases this)
            have hcall := rEncode_bad (seqOf b) _ acc wr hso HALL.out hrb
            have HC := Lib.hid hcall
            clear hcall hrb
            go_wp2_with fail
            refine HC.out.mono ?_
            rintro e w8 ⟨rfl, hb8⟩
            have hrf8 : RefAt w8 w.heap.size R b j bad := by
              obtain ⟨A8, c8, h1, h2, h3, h4, h5, h6⟩ := hrf
              exact ⟨A8, c8, (hb8.block R hRlt).trans h1, h2, h3, h4, h5, h6.keep fun p hp => hb8.cell (by omega)⟩
            go_wp2_with fail
            refine (HEND.out _ hrf8).mono ?_
            rintro e w9 ⟨rfl, nq, rfl⟩
            go_wp2
            all_goals (go_ret3; exact .inr ⟨HNP.out, rfl, bdrewN (bstep hbr hb8) _⟩)
          | true =>
            have hcall := rEncode_ok (seqOf b) _ acc wr hso HALL.out hrb
            have HC := Lib.hid hcall
            have HRB := Lib.hid hrb
            clear hcall hrb
            go_wp2_with fail
            refine HC.out.mono ?_
            rintro e w8 ⟨y8, rfl, hown8, hb8⟩
            have hrf8 : RefAt w8 w.heap.size R b j bad := by
              obtain ⟨A8, c8, h1, h2, h3, h4, h5, h6⟩ := hrf
              exact ⟨A8, c8, (hb8.block R hRlt).trans h1, h2, h3, h4, h5, h6.keep fun p hp => hb8.cell (by omega)⟩
            have hso8 := SO.on hso hb8
            have hb8' := bstep hbr hb8
            go_wp2_with fail
            refine (HEND.out _ hrf8).mono ?_
            rintro e w9 ⟨rfl, nq, rfl⟩
            by_cases hq0 : q = 0
            · have tq : ((q : Int) != 0) = false := by rw [bne_eq_false_iff_eq]; omega
              have HQ0 := Lib.hid hq0
              clear hq0
              have hs8 : SB (w8.drewN nq) (w8.drewN nq).heap.size y8 (encB (seqOf b) acc) := hown8.sb
              have hv8 : SB (w8.drewN nq) (w8.drewN nq).heap.size (.slice A b.length c) b := HV.out.on (bdrewN hb8' nq)
              by_cases henc : encB (seqOf b) acc = b
              · rw [henc] at hs8
                have HNP : Hid (progOk b = true) := Lib.hid (HPR.out.1.2 ⟨HQ0.out, HRB.out, henc⟩)
                have HENC := Lib.hid henc
                clear henc
                go_wp2_with (first | (refine wl_b2s (o := ⟨some 66, _, _, _, _, _⟩) rfl (.tmp 65) rfl _ rfl _ _ hs8 ?_) | (refine wl_b2s (o := ⟨some 68, _, _, _, _, _⟩) rfl (.tmp 67) rfl _ rfl _ _ hv8 ?_))
                go_ret3
                refine .inl ⟨HNP.out, _, rfl, ?_, bdrewN hb8' _⟩
                rw [HPR.out.2 HNP.out]
                exact hso8
              · have HNP : Hid (progOk b = false) := Lib.hid (by
                  cases hp : progOk b with
                  | false => rfl
                  | true => exact absurd ((HPR.out.1).1 hp).2.2 henc)
                obtain ⟨en, hen⟩ : ∃ en, en = encB (seqOf b) acc := ⟨_, rfl⟩
                rw [← hen] at hs8 henc
                have HEN := Lib.hid hen
                have te : (en == b) = false := by rw [beq_eq_false_iff_ne]; exact henc
                have HNE := Lib.hid henc
                clear hen henc
                go_wp2_with (first | (refine wl_b2s (o := ⟨some 66, _, _, _, _, _⟩) rfl (.tmp 65) rfl _ rfl _ _ hs8 ?_) | (refine wl_b2s (o := ⟨some 68, _, _, _, _, _⟩) rfl (.tmp 67) rfl _ rfl _ _ hv8 ?_))
                go_ret3
                exact .inr ⟨HNP.out, rfl, bdrewN hb8' _⟩
            · have tq : ((q : Int) != 0) = true := by rw [bne_iff_ne]; omega
              have HNP : Hid (progOk b = false) := Lib.hid (by
                cases hp : progOk b with
                | false => rfl
                | true => exact absurd ((HPR.out.1).1 hp).1 hq0)
              clear hq0
              go_wp2
              go_ret3
              exact .inr ⟨HNP.out, rfl, bdrewN hb8' _⟩
  · have tb : ((bd : Int) != 0) = true := by rw [bne_iff_ne]; omega
    have HNP : Hid (progOk b = false) := Lib.hid (not_prog (by rw [← HS0.out.1, ← HBD.out]; omega))
    clear hbad
    go_wp2_with fail
    go_ret3
    exact .inr ⟨HNP.out, rfl, hb3⟩
end Go.Proofs.Ytkioalfmffamhaa
