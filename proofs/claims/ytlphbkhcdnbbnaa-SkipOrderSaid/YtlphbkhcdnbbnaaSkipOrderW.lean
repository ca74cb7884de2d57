/-
  What is proved here: the walk of SkipOrder: it returns true. Condition: the list's length.
-/
import Derived.Test.YtlphbkhcdnbbnaaSkipNewestW
import Derived.Test.YtlphbkhcdnbbnaaRisesW
import Derived.Test.YtlphbkhcdnbbnaaSameW
import Derived.Deep.DeepCutAuto
import Derived.Deep.CutBlock
import Derived.BigRegion
namespace Go.Proofs.Ytlphbkhcdnbbnaa
open Go.RowKit

/-- how an entry and what is asked stand, as the code asks it -/
theorem three2 (x y : Ent) : (aheadE x y = true ∧ Op.bytesLess x.user.toList y.user.toList = true ∧ (x.user.toList == y.user.toList) = false) ∨
    (aheadE x y = true ∧ Op.bytesLess x.user.toList y.user.toList = false ∧ (x.user.toList == y.user.toList) = true ∧ ¬ x.seq.toNat ≤ y.seq.toNat) ∨
    (aheadE x y = false ∧ Op.bytesLess x.user.toList y.user.toList = false ∧ (x.user.toList == y.user.toList) = true ∧ x.seq.toNat ≤ y.seq.toNat) ∨
    (aheadE x y = false ∧ Op.bytesLess x.user.toList y.user.toList = false ∧ (x.user.toList == y.user.toList) = false) := by
  rcases three x y with ⟨h1, h2, h3⟩ | ⟨h1, h2, h3⟩ | ⟨h1, h2, h3⟩
  · exact .inl ⟨h3, h1, h2⟩
  · by_cases h5 : x.seq.toNat ≤ y.seq.toNat
    · exact .inr (.inr (.inl ⟨by rw [h3]; simp; omega, h1, h2, h5⟩))
    · exact .inr (.inl ⟨by rw [h3]; simp; omega, h1, h2, h5⟩)
  · exact .inr (.inr (.inr ⟨h3, h1, h2⟩))
set_option maxRecDepth 100000 in
set_option maxHeartbeats 4000000 in
theorem skipOrder_any (v : Value) (l : List PutA) (u : ByteArray) (s : UInt64) (n : Int) (w : World) (hv : SP w w.heap.size v l) (hl : l.length ≤ 140737488351232) (hok : ∀ x ∈ l, PutOk x) (hu : u.size ≤ 9223372036854775807) :
    Calls Try.prog 7 #[v, askV u s n] w fun en w' => en = .returned (.bool true) ∧ Below w.heap.size w w' := by
  go_enter Try.func7, Try.ntmps7
  go_wp2_with fail
  have bA : Below w.heap.size w (w.alloc (askObj u s n)) := balloc (bself w) _
  have rA2 : (w.alloc (askObj u s n)).heap[w.heap.size]? = some (askObj u s n) := heap_alloc_new w _
  have zA : (w.alloc (askObj u s n)).heap.size = w.heap.size + 1 := by simp
  generalize w.alloc (askObj u s n) = wA at bA rA2 zA
  refine (shown_any _).mono ?_
  rintro en w1 ⟨rfl, hb1⟩
  have b1 := bstep bA hb1
  have z1 := hb1.size
  go_wp2_with fail
  refine (sNew_any _).mono ?_
  rintro en w2 ⟨L, rfl, hS2, hb2⟩
  have b2 := bstep b1 hb2
  have z2 := hb2.size
  have c2 := hb1.trans (hb2.mono z1)
  go_wp2_with fail
  refine (few_any v l w.heap.size _ (Sl.below hv b2) hl).mono ?_
  rintro en w3 ⟨v3, rfl, hv3, hb3⟩
  have b3 := bstep b2 hb3
  have z3 := hb3.size
  have hS3 := hS2.on hb3 (Nat.le_refl _)
  have c3 := c2.trans (hb3.mono (by omega))
  have okm : ∀ x ∈ l.take 200, PutOk x := fun x hx => hok x (List.mem_of_mem_take hx)
  have hml : (l.take 200).length ≤ 200 := by rw [List.length_take]; omega
  generalize l.take 200 = m at hv3 okm hml
  obtain ⟨A, c, rfl, hlc, hcm, hr⟩ := hv3.form
  generalize hbase : w1.heap.size = base at hS3
  have hb3' : Below base w3 w3 := Below.refl _ _
  have rB2 := (c3.block _ (by omega)).trans rA2
  have hBw : w.heap.size + 1 ≤ base := by omega
  have hbw3 : base ≤ w3.heap.size := by omega
  go_wp2_with fail
  go_loopw [20] (fun iv wr => ∃ (k : Nat) (E : List Ent), iv = .int .i64 k ∧ k ≤ m.length ∧ SL wr base L E ∧ OkE E ∧ E.length ≤ k ∧ Below base w3 wr) (fun iv _ => m.length - (intOf iv).toNat)
  case atStart => exact ⟨0, [], rfl, Nat.zero_le _, hS3, OkE.nil, Nat.le_refl _, hb3'⟩
  case round =>
    obtain ⟨k, E, rfl, hk, hS, hE, hEk, hbr⟩ := hrel
    have pQ := (hbr.block _ (by omega)).trans rB2
    have hzr := hbr.size
    by_cases hlt : k < m.length
    · obtain ⟨b, o, rfl, hb, d0, d1, d2, d3, d4⟩ := (hr.below (hbr.mono (by omega))).put rfl hlt
      have okx := okm m[k] (List.getElem_mem _)
      generalize hx : m[k] = x at d0 d1 d2 d3 d4 okx
      obtain ⟨e0, e1, e2, e3, e4⟩ := kcells5 (heap_alloc_new wr (putObj x))
      have hS5 := hS.on (balloc (bself wr) (putObj x)) (Nat.le_refl _)
      have bS5 : Below base w3 (wr.alloc (putObj x)) := hbr.trans ((balloc (bself wr) _).mono (by omega))
      go_wp2_with fail
      refine (sPut_any base L E x.e x.h _ hS5 hE (by omega) okx.1 okx.2.1 okx.2.2).mono ?_
      rintro en w6 ⟨rfl, hS6, _, hb6⟩
      have hP := hE.put x.e
      go_wp2_with fail
      go_roundw
      case rel => exact ⟨k + 1, _, by go_num, by omega, hS6, hP.1, by omega, bS5.trans hb6⟩
      case measure => simp [intOf]; omega
    · clear hS2 hS3
      go_wp2_with fail
      refine (sAll_any base L E _ hS (by omega)).mono ?_
      rintro en w6 ⟨va, rfl, ha, hb6⟩
      have z6 := hb6.size
      have hS6 := hS.on hb6 (Nat.le_refl _)
      have b6 : Below base w3 w6 := hbr.trans (hb6.mono (by omega))
      obtain ⟨g0, g1, g2⟩ := kcells3 ((b6.block _ (by omega)).trans rB2)
      obtain ⟨A6, c6, hva, hl6, hm6, hr6⟩ := ha.se.form
      subst hva
      have HF : Hid (∀ W : World, SL W base L E → Calls Try.prog 20 #[.pointer (some ⟨L, 0, none⟩), .string u, .int .u64 (s.toNat : Int), .int .i64 (E.length : Int)] W fun e w' => ∃ v, e = .returned v ∧ OE w' W.heap.size v (restE E ⟨u, s, 0, ⟨#[]⟩⟩) ∧ Below W.heap.size W w') := Lib.hid (fun W h => by
        have := sFrom_any base L E ⟨u, s, 0, ⟨#[]⟩⟩ (E.length : Int) W h (by omega) (by omega) (by omega)
        rw [Int.toNat_natCast, restE_take] at this
        exact this)
      go_wp2_with fail
      refine (HF.out _ hS6).mono ?_
      rintro en w7 ⟨vr, rfl, hvr, hb7⟩
      have z7 := hb7.size
      have ha7 := ha.below hb7 (Nat.le_refl _)
      have hRl := restE_len E ⟨u, s, 0, ⟨#[]⟩⟩
      have hRd := restE_drop E ⟨u, s, 0, ⟨#[]⟩⟩
      have HAA : Hid (∀ (i : Nat) (hi : i < E.length), aheadE E[i] ⟨u, s, 0, ⟨#[]⟩⟩ = decide (i < E.length - (restE E ⟨u, s, 0, ⟨#[]⟩⟩).length)) := Lib.hid (fun i hi => ahead_at hE hi)
      generalize restE E ⟨u, s, 0, ⟨#[]⟩⟩ = R at hvr hRl hRd HAA
      obtain ⟨A7, c7, hvr7, hl7, hm7, hr7⟩ := hvr.se.form
      subst hvr7
      have b7 : Below base w3 w7 := b6.trans (hb7.mono (by omega))
      have hEE := ha7.se
      go_upto_region 12 with fail
      go_cut [62] (fun c wx => c = .bool false ∧ Below base w3 wx ∧ SE wx wx.heap.size (.slice A6 E.length c6) E ∧ base ≤ wx.heap.size)
      case first =>
        go_wp2_with fail
        refine (iRises_any _ E _ ha7.se (by omega)).mono ?_
        rintro en w8 ⟨rfl, hb8⟩
        rw [rises_of hE.1]
        have z8 := hb8.size
        have ha8 := ha7.below hb8 (Nat.le_refl _)
        have hr8 := hvr.below hb8 (Nat.le_refl _)
        have HC : Hid (SE w8 w8.heap.size (.slice (if c6 = E.length - R.length then A6 else A6.map (·.add ((E.length - R.length) * 4))) (E.length - (E.length - R.length)) (c6 - (E.length - R.length))) R) := Lib.hid (by
          have := SE.cutR ha8.se (k := E.length - R.length) (by omega)
          rw [hRd] at this
          exact this)
        clear hRd
        have b8 : Below base w3 w8 := b7.trans (hb8.mono (by omega))
        by_cases hc6 : E.length - R.length = c6
        · go_wp2_with fail
          have hsr := HC.out
          rw [hc6, if_pos rfl, Nat.sub_self, show E.length - c6 = 0 from by omega] at hsr
          refine (rSame_true _ _ R _ hr8.se hsr).mono ?_
          rintro en w9 ⟨rfl, hb9⟩
          have z9 := hb9.size
          go_wp2_with fail
          go_meet
          exact ⟨by rw [decide_eq_false (by omega)], b8.trans (hb9.mono (by omega)), (ha8.below hb9 (Nat.le_refl _)).se, by omega⟩
        · have hc7 : ¬ c6 = E.length - R.length := fun e => hc6 e.symm
          clear hc6
          go_wp2_with fail
          have hsr := HC.out
          rw [if_neg hc7] at hsr
          refine (rSame_true _ _ R _ hr8.se hsr).mono ?_
          rintro en w9 ⟨rfl, hb9⟩
          have z9 := hb9.size
          go_wp2_with fail
          go_meet
          exact ⟨by rw [decide_eq_false (by omega)], b8.trans (hb9.mono (by omega)), (ha8.below hb9 (Nat.le_refl _)).se, by omega⟩
      case rest =>
        obtain ⟨rfl, b9, ha9, hzz⟩ := hcut
        clear hRd ha7 hvr ha g0 g1 g2 hEE
        obtain ⟨A9, c9, he9, hl9, hm9, hr9⟩ := ha9.form
        injection he9 with he91 he92 he93
        subst he91; subst he93
        obtain ⟨D, hD⟩ : ∃ D, D = E.length - R.length := ⟨_, rfl⟩
        go_wp2_with fail
        go_loopw [65] (fun iv wr => ∃ k : Nat, iv = .int .i64 k ∧ k ≤ E.length ∧ Below wc.heap.size wc wr) (fun iv _ => E.length - (intOf iv).toNat)
        case atStart => exact ⟨0, rfl, Nat.zero_le _, bself wc⟩
        case round =>
          obtain ⟨k2, rfl, hk2, hbr2⟩ := hrel
          have hzr2 := hbr2.size
          have b10 := b9.trans (hbr2.mono (by omega))
          obtain ⟨g0, g1, g2⟩ := kcells3 ((b10.block _ (by omega)).trans rB2)
          by_cases hlt2 : k2 < E.length
          · obtain ⟨bb, oo, rfl, hbb, d0, d1, d2, d3⟩ := (hr9.below hbr2).ent rfl hlt2
            have haa := HAA.out k2 hlt2
            generalize hx2 : E[k2] = x at d0 d1 d2 d3 haa
            have hD2 : (E.length : Int) - (R.length : Int) = (D : Int) := by omega
            have hD3 : D ≤ E.length := by omega
            have HDD := Lib.hid hD
            rw [← hD] at haa
            clear hD hx2
            have hth := three2 x ⟨u, s, 0, ⟨#[]⟩⟩
            go_upto_region 18 with fail
            go_cut [104] (fun c wx => c = .bool false ∧ DrewOf wr wx)
            case first =>
              by_cases hin : k2 < D
              · have hde : decide (D ≤ k2) = false := decide_eq_false (by omega)
                rw [decide_eq_true hin] at haa
                have HH : Hid (aheadE x ⟨u, s, 0, ⟨#[]⟩⟩ = true) := Lib.hid haa
                clear haa
                rcases hth with ⟨t1, t2, t3⟩ | ⟨t1, t2, t3, t4⟩ | ⟨t1, t2, t3, t4⟩ | ⟨t1, t2, t3⟩
                · clear t1 HH
                  simp only at t2 t3
                  go_quiet (fail)
                  go_wp2_with fail
                  go_meet
                  exact ⟨rfl, ⟨_, rfl⟩⟩
                · clear t1 HH
                  simp only at t2 t3 t4
                  go_quiet (fail)
                  go_wp2_with fail
                  go_meet
                  exact ⟨rfl, ⟨_, rfl⟩⟩
                · rw [HH.out] at t1; cases t1
                · rw [HH.out] at t1; cases t1
              · have hde : D ≤ k2 := by omega
                rw [decide_eq_false hin] at haa
                have HH : Hid (aheadE x ⟨u, s, 0, ⟨#[]⟩⟩ = false) := Lib.hid haa
                clear haa
                rcases hth with ⟨t1, t2, t3⟩ | ⟨t1, t2, t3, t4⟩ | ⟨t1, t2, t3, t4⟩ | ⟨t1, t2, t3⟩
                · rw [HH.out] at t1; cases t1
                · rw [HH.out] at t1; cases t1
                · clear t1 HH
                  simp only at t2 t3 t4
                  go_quiet (fail)
                  go_wp2_with fail
                  go_meet
                  exact ⟨rfl, ⟨_, rfl⟩⟩
                · clear t1 HH
                  simp only at t2 t3
                  go_quiet (fail)
                  go_wp2_with fail
                  go_meet
                  exact ⟨rfl, ⟨_, rfl⟩⟩
            case rest =>
              obtain ⟨rfl, hdr⟩ := hcut
              obtain ⟨nq, rfl⟩ := hdr
              go_wp2_with fail
              go_roundw
              case rel => exact ⟨k2 + 1, by go_num, by omega, bdrewN hbr2 _⟩
              case measure => simp [intOf]; omega
          · go_wp2_with fail
            go_ret
            exact ⟨rfl, b3.trans (b10.mono (by omega))⟩
end Go.Proofs.Ytlphbkhcdnbbnaa
