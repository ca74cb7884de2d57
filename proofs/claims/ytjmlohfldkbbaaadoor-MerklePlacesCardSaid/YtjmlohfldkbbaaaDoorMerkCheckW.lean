/-
  What is proved here: what Check of package merkle comes to, at this seat's numbers. Conditions: the proof's length; the table of constants.
-/
import Derived.Test.YtjmlohfldkbbaaaDoorMerkCheck
namespace Go.Proofs.YtjmlohfldkbbaaaDoor
open Go.RowKit

theorem climb_step (leaf : Dg) (R : List Bool) (ps : List Dg) (q : Nat) (b : Bool) (p : Dg) (h1 : R.reverse[q]? = some b) (h2 : ps[q]? = some p) :
    climb jnD leaf (R.reverse.take (q + 1)) (ps.take (q + 1)) = (if b then jnD p (climb jnD leaf (R.reverse.take q) (ps.take q)) else jnD (climb jnD leaf (R.reverse.take q) (ps.take q)) p) := by
  have l1 := (List.getElem?_eq_some_iff.1 h1).1
  have l2 := (List.getElem?_eq_some_iff.1 h2).1
  rw [List.take_add_one, List.take_add_one, h1, h2]
  exact climb_app jnD leaf _ _ b p (by rw [List.length_take, List.length_take]; omega)
set_option maxRecDepth 100000 in
set_option maxHeartbeats 2000000 in
theorem kCheck_any (root leaf : Dg) (n at_ : Int) (ps : List Dg) (v : Value) (w : World) (hn : n ≤ 9223372036854775807) (hv : SD w w.heap.size v ps) (hk : KTab w 1) (h1 : 1 < w.heap.size) :
    Calls Tryd.prog 14 #[.agg (dgA root.1), .int .i64 n, .int .i64 at_, .agg (dgA leaf.1), v] w fun e w' => e = .returned (.bool (decide (checkD root n at_ leaf ps))) ∧ Below w.heap.size w w' := by
  obtain ⟨A4, c4, rfl, hlc4, hcm4⟩ := hv.form
  have hps : ps.length ≤ 9223372036854775807 := by omega
  have nr := dgA_n root
  have nl := dgA_n leaf
  obtain ⟨cr, hcr⟩ : ∃ cr, cr = dgA root.1 := ⟨_, rfl⟩
  obtain ⟨cl, hcl⟩ : ∃ cl, cl = dgA leaf.1 := ⟨_, rfl⟩
  rw [← hcr] at nr ⊢
  rw [← hcl] at nl ⊢
  have HRL := Lib.hid (And.intro hcr hcl)
  clear hcr hcl
  go_enter Tryd.func14, Tryd.ntmps14
  by_cases hbad : at_ < 0 ∨ n ≤ at_
  · have HF : Hid (decide (checkD root n at_ leaf ps) = false) := Lib.hid (by rw [decide_eq_false_iff_not]; intro h; obtain ⟨h1, h2, _⟩ := h; omega)
    by_cases h0 : at_ < 0
    · go_wp2_with fail
      go_ret
      exact ⟨(congrArg (fun x => Ending.returned (Value.bool x)) HF.out).symm, balloc (balloc (bself w) _) _⟩
    · have h8 : n ≤ at_ := by omega
      go_wp2_with fail
      go_ret
      exact ⟨(congrArg (fun x => Ending.returned (Value.bool x)) HF.out).symm, balloc (balloc (bself w) _) _⟩
  · obtain ⟨i, rfl⟩ : ∃ i : Nat, at_ = (i : Int) := ⟨at_.toNat, by omega⟩
    obtain ⟨N, rfl⟩ : ∃ N : Nat, n = (N : Int) := ⟨n.toNat, by omega⟩
    have hiN : i < N := by omega
    have e1 : ¬ (i : Int) < 0 := by omega
    have e2 : ¬ (N : Int) ≤ (i : Int) := by omega
    have HCD : Hid (checkD root (N : Int) (i : Int) leaf ps ↔ (dirs N i).length = ps.length ∧ climb jnD leaf (dirs N i).reverse ps = root) := Lib.hid (by
      unfold checkD
      rw [Int.toNat_natCast, Int.toNat_natCast]
      exact ⟨fun h => h.2.2, fun h => ⟨by omega, by omega, h⟩⟩)
    have HDL : Hid ((dirs N i).length ≤ 64) := Lib.hid (by
      have h := dirs_halves N i hiN
      have h2 := halves_le 64 (N - 1) (by omega)
      omega)
    go_upto_region 3 with fail
    generalize hWA : World.alloc _ _ = wA
    have rA : wA.heap[w.heap.size]? = some (rowO cr) := by rw [← hWA]; exact heap_alloc2_old w _ _
    have rL : wA.heap[w.heap.size + 1]? = some (rowO cl) := by rw [← hWA]; exact heap_alloc2_new w _ _
    have bA : Below w.heap.size w wA := by rw [← hWA]; exact balloc (balloc (bself w) _) _
    have zA : w.heap.size + 1 < wA.heap.size := by rw [← hWA]; simp
    clear hWA nr nl hbad
    go_wp2_with fail
    go_loopw [1, 2, 11] (fun nv av rv wy => ∃ (n j m c9 : Nat) (A9 : Option Addr) (R : List Bool), nv = .int .i64 (n : Int) ∧ av = .int .i64 (j : Int) ∧ rv = .slice A9 m c9 ∧ j < n ∧ n ≤ 9223372036854775807 ∧ Hid (m = R.length) ∧ m ≤ ps.length ∧ OBo wy wA.heap.size rv R ∧ Hid (R ++ dirs n j = dirs N i) ∧ Below wA.heap.size wA wy) (fun nv _ _ _ => (intOf nv).toNat)
    case atStart => exact ⟨N, i, 0, 0, none, [], rfl, rfl, rfl, hiN, by omega, Lib.hid rfl, Nat.zero_le _, World.ownsRow_nil wA wA.heap.size 4 1, Lib.hid rfl, bself wA⟩
    case round =>
      obtain ⟨n, j, m, c9, A9, R, rfl, rfl, rfl, hjn, hn9, HMR, hmp, hown, HD, hbr⟩ := hrel
      have hzr := hbr.size
      by_cases hgt : 1 < n
      · obtain ⟨k, hk9⟩ : ∃ k, k = part n := ⟨_, rfl⟩
        have hk1 : k < n := by rw [hk9]; exact part_lt (by omega)
        have hk2 : 0 < k := by rw [hk9]; exact part_pos _
        have HSP : Hid (Calls Tryd.prog 21 #[.int .i64 (n : Int)] wr fun e w' => e = .returned (.int .i64 (k : Int)) ∧ w' = wr) := Lib.hid (by rw [hk9]; exact kSplit_any n wr (by omega) (by omega))
        have HK9 := Lib.hid hk9
        clear hk9
        by_cases hfull : m = ps.length
        · have hf2 : ((m : Int) == (ps.length : Int)) = true := by rw [beq_iff_eq, hfull]
          have HF : Hid (decide (checkD root (N : Int) (i : Int) leaf ps) = false) := Lib.hid (by
            rw [decide_eq_false_iff_not, HCD.out]
            intro h
            have h3 := congrArg List.length HD.out
            have hd : 0 < (dirs n j).length := by
              by_cases hp : j < part n
              · rw [dirs_left hgt hp]; simp
              · rw [dirs_right hgt hp]; simp
            rw [List.length_append, h.1, ← HMR.out] at h3
            omega)
          clear hfull
          go_wp2_with fail
          refine HSP.out.mono ?_
          rintro e w1 ⟨rfl, rfl⟩
          go_wp2_with fail
          go_ret
          exact ⟨(congrArg (fun x => Ending.returned (Value.bool x)) HF.out).symm, bA.trans (hbr.mono bA.size)⟩
        · have hf2 : ((m : Int) == (ps.length : Int)) = false := by rw [beq_eq_false_iff_ne]; omega
          have hmp2 : m + 1 ≤ ps.length := by omega
          have hlen : R.length + 1 ≤ 140737488355328 := by have h1 := HDL.out; have h2 := congrArg List.length HD.out; rw [List.length_append] at h2; omega
          clear hfull
          by_cases hjk : j < k
          · have hjk2 : (j : Int) < (k : Int) := by omega
            have hjk3 : ¬ (k : Int) ≤ (j : Int) := by omega
            have HD2 : Hid ((R ++ [false]) ++ dirs k j = dirs N i) := Lib.hid (by
              have h := HD.out
              rw [dirs_left hgt (by rw [← HK9.out]; exact hjk), ← HK9.out] at h
              rw [← h]
              simp)
            go_wp2_with fail
            refine HSP.out.mono ?_
            rintro e w1 ⟨rfl, rfl⟩
            go_wp2_with (at_builtin; go_loud (refine wl_appBo rfl (.tmp 32) (.tmp 36) rfl wA.heap.size _ R rfl hown false _ (by first | rfl | (simp only [hjk3]; rfl) | (simp; omega)) rfl rfl hlen hzr ?_); intro v4 w4 hown4 ho4 hb4; have b4 := hbr.trans hb4)
            obtain ⟨A5, c5, e5, _, _⟩ := hown4.form
            have e6 : v4 = .slice A5 (m + 1) c5 := by rw [e5]; congr 1; have := HMR.out; rw [List.length_append]; simp only [List.length_cons, List.length_nil]; omega
            subst e6
            go_roundw
            case rel => exact ⟨k, j, m + 1, _, _, R ++ [false], rfl, rfl, rfl, hjk, by omega, Lib.hid (by have := HMR.out; rw [List.length_append]; simp only [List.length_cons, List.length_nil]; omega), hmp2, hown4, HD2, b4⟩
            case measure => simp only [intOf]; omega
          · have hjk2 : ¬ (j : Int) < (k : Int) := by omega
            have hjk3 : (k : Int) ≤ (j : Int) := by omega
            have HD2 : Hid ((R ++ [true]) ++ dirs (n - k) (j - k) = dirs N i) := Lib.hid (by
              have h := HD.out
              rw [dirs_right hgt (by rw [← HK9.out]; exact hjk), ← HK9.out] at h
              rw [← h]
              simp)
            have y6 : IntKind.i64.wrap ((j : Int) - (k : Int)) = (j : Int) - (k : Int) := IntWalk.i64_in _ (by omega)
            have y7 : IntKind.i64.wrap ((n : Int) - (k : Int)) = (n : Int) - (k : Int) := IntWalk.i64_in _ (by omega)
            go_wp2_with fail
            refine HSP.out.mono ?_
            rintro e w1 ⟨rfl, rfl⟩
            go_wp2_with (at_builtin; go_loud (refine wl_appBo rfl (.tmp 32) (.tmp 36) rfl wA.heap.size _ R rfl hown true _ (by first | rfl | (simp only [hjk3]; rfl) | (simp; omega)) rfl rfl hlen hzr ?_); intro v4 w4 hown4 ho4 hb4; have b4 := hbr.trans hb4)
            obtain ⟨A5, c5, e5, _, _⟩ := hown4.form
            have e6 : v4 = .slice A5 (m + 1) c5 := by rw [e5]; congr 1; have := HMR.out; rw [List.length_append]; simp only [List.length_cons, List.length_nil]; omega
            subst e6
            go_roundw
            case rel => exact ⟨n - k, j - k, m + 1, _, _, R ++ [true], by congr 1; omega, by congr 1; omega, rfl, by omega, by omega, Lib.hid (by have := HMR.out; rw [List.length_append]; simp only [List.length_cons, List.length_nil]; omega), hmp2, hown4, HD2, b4⟩
            case measure => simp only [intOf]; omega
      · have HRD : Hid (R = dirs N i) := Lib.hid (by
          have h := HD.out
          rw [dirs_small j (by omega), List.append_nil] at h
          exact h)
        by_cases hne : m = ps.length
        · obtain ⟨W9, hW9⟩ : ∃ W9, W9 = wr := ⟨_, rfl⟩
          subst hW9
          have hf2 : ((m : Int) != (ps.length : Int)) = false := by rw [hne]; simp
          have HMP := Lib.hid hne
          have HIF : Hid (checkD root (N : Int) (i : Int) leaf ps ↔ climb jnD leaf R.reverse ps = root) := Lib.hid (by
            rw [HCD.out, ← HRD.out, ← HMR.out]
            exact ⟨fun h => h.2, fun h => ⟨hne, h⟩⟩)
          have r9 : W9.heap[w.heap.size + 1]? = some (rowO cl) := (hbr.block (w.heap.size + 1) (by omega)).trans rL
          have r9A : ∀ w', Below W9.heap.size W9 w' → w'.heap[w.heap.size]? = some (rowO cr) := fun w' h => ((hbr.trans (h.mono hzr)).block w.heap.size (by omega)).trans rA
          have HRA := Lib.hid r9A
          have hN := HRL.out
          have HNL : Hid (cl.size = 32 ∧ ∀ v ∈ cl.toList, v.oneCell' = true) := Lib.hid (by rw [hN.2]; exact ⟨dgA_n _, dgA_one _⟩)
          have HNR : Hid (cr.size = 32) := Lib.hid (by rw [hN.1]; exact dgA_n _)
          have HK : Hid (∀ w', Below W9.heap.size W9 w' → KTab w' 1 ∧ 1 < w'.heap.size) := Lib.hid (fun w' h => by
            have h2 := bA.trans ((hbr.trans (h.mono hzr)).mono bA.size)
            exact ⟨hk.on h2 h1, by have := h2.size; omega⟩)
          have HPS : Hid (∀ (q : Nat) (hq : q < ps.length), ∃ b o, A4 = some ⟨b, o, none⟩ ∧ ∀ w', Below W9.heap.size W9 w' → w'.rangeAt b (o + q * 32) (bv (ps[q]'hq).1)) := Lib.hid (fun q hq => by
            obtain ⟨b, o, c, e, hb, hel⟩ := hv.at_ (by omega)
            injection e with e _ _
            exact ⟨b, o, e, fun w' h => range_below (hel q hq) (bA.trans ((hbr.trans (h.mono hzr)).mono bA.size)) hb⟩)
          have HRB : Hid (∀ (q : Nat) (hq : q < R.length), ∃ g, A9 = some ⟨g, 0, none⟩ ∧ ∀ w', Below W9.heap.size W9 w' → w'.cell? ⟨g, q, none⟩ = some (.bool (R[q]'hq))) := Lib.hid (fun q hq => by
            obtain ⟨g, c, e, hg, hel⟩ := hown.at_ (by omega)
            injection e with e _ _
            exact ⟨g, e, fun w' h => (h.cell (p := ⟨g, q, none⟩) hg).trans (hel q hq)⟩)
          have HBW : Hid (Below w.heap.size w W9) := Lib.hid (bA.trans (hbr.mono bA.size))
          clear hv hown HD HCD HDL HRD hne hN rA rL r9A
          go_upto_region 15 with (first
            | (refine wl_loadD rfl (.tmp 8) rfl _ rfl cl r9 HNL.out.1 ?_)
            | (refine wl_storeD rfl (.tmp 13) (.tmp 53) rfl _ rfl _ cl rfl (heap_alloc_new W9 _) (by kernel_rfl) HNL.out.1 HNL.out.2 ?_))
          generalize hw1 : World.setRow _ _ _ = w1
          obtain ⟨D, hD⟩ : ∃ D, D = W9.heap.size := ⟨_, rfl⟩
          have rD : w1.heap[D]? = some (rowO (dgA (climb jnD leaf (R.reverse.take 0) (ps.take 0)).1)) := by rw [← hw1, hD]; rw [show climb jnD leaf (R.reverse.take 0) (ps.take 0) = leaf from rfl, ← HRL.out.2]; exact setRow_heap _ _ _ _ _ _ (heap_alloc_new W9 _)
          have b1 : Below W9.heap.size W9 w1 := by rw [← hw1]; exact below_setRow (balloc (bself W9) _) (Nat.le_refl _) _
          clear hw1 r9
          have hDz : W9.heap.size ≤ D := by omega
          rw [← hD]
          clear hD
          go_wp2_with fail
          go_loopw [56] (fun iv wy => ∃ q : Nat, iv = .int .i64 q ∧ q ≤ ps.length ∧ wy.heap[D]? = some (rowO (dgA (climb jnD leaf (R.reverse.take q) (ps.take q)).1)) ∧ Below W9.heap.size W9 wy) (fun iv _ => ps.length - (intOf iv).toNat)
          case atStart => exact ⟨0, rfl, Nat.zero_le _, rD, b1⟩
          case round =>
            obtain ⟨q, rfl, hq, hrD, hb⟩ := hrel
            clear rD b1
            have hDq : D < wr.heap.size := (Array.getElem?_eq_some_iff.1 hrD).1
            have hzb := hb.size
            by_cases hlt : q < ps.length
            · obtain ⟨b4, o4, rfl, hps4⟩ := HPS.out q hlt
              obtain ⟨k, hk⟩ : ∃ k, k = m - 1 - q := ⟨_, rfl⟩
              have hkR : k < R.length := by have := HMR.out; have := HMP.out; omega
              obtain ⟨g, rfl, hcR⟩ := HRB.out k hkR
              obtain ⟨p, hp⟩ : ∃ p, p = ps[q] := ⟨_, rfl⟩
              obtain ⟨bo, hbo⟩ : ∃ bo, bo = R[k] := ⟨_, rfl⟩
              have hrp : wr.rangeAt b4 (o4 + q * 32) (bv p.1) := by rw [hp]; exact hps4 wr hb
              have HCB : Hid (∀ w', Below W9.heap.size W9 w' → w'.cell? ⟨g, k, none⟩ = some (.bool bo)) := Lib.hid (fun w' h => by rw [hbo]; exact hcR w' h)
              have HST : Hid (climb jnD leaf (R.reverse.take (q + 1)) (ps.take (q + 1)) = (if bo then jnD p (climb jnD leaf (R.reverse.take q) (ps.take q)) else jnD (climb jnD leaf (R.reverse.take q) (ps.take q)) p)) := Lib.hid (climb_step leaf R ps q bo p (by
                have := HMR.out; have := HMP.out
                rw [List.getElem?_reverse (by omega), show R.length - 1 - q = k by omega, List.getElem?_eq_getElem hkR, hbo]) (by rw [List.getElem?_eq_getElem hlt, hp]))
              obtain ⟨d, hd⟩ : ∃ d, d = climb jnD leaf (R.reverse.take q) (ps.take q) := ⟨_, rfl⟩
              rw [← hd] at hrD HST
              clear hps4 hcR hp hbo hd
              go_upto_region 18 with (first
                | (refine wl_loadM rfl (.tmp 59) rfl b4 (o4 + q * 32) rfl p hrp ?_)
                | (refine wl_storeD rfl (.tmp 15) (.tmp 60) rfl _ rfl _ (dgA p.1) rfl (heap_alloc_new wr _) (by kernel_rfl) (dgA_n p) (dgA_one _) ?_))
              generalize hw2 : World.setRow _ _ _ = w2
              obtain ⟨E, hE⟩ : ∃ E, E = wr.heap.size := ⟨_, rfl⟩
              have rE : w2.heap[E]? = some (rowO (dgA p.1)) := by rw [← hw2, hE]; exact setRow_heap _ _ _ _ _ _ (heap_alloc_new wr _)
              have b2 : Below wr.heap.size wr w2 := by rw [← hw2]; exact below_setRow (balloc (bself wr) _) (Nat.le_refl _) _
              clear hw2 hrp
              have rD2 : w2.heap[D]? = some (rowO (dgA d.1)) := (b2.block D hDq).trans hrD
              have b9 := hb.trans (b2.mono hzb)
              have z2 := b2.size
              rw [← hE]
              clear hE hrD
              have hcR2 := HCB.out w2 b9
              have y1 : IntKind.i64.wrap ((m : Int) - 1) = (m : Int) - 1 := IntWalk.i64_in _ (by have := HMP.out; omega)
              have y2 : IntKind.i64.wrap ((m : Int) - 1 - (q : Int)) = (k : Int) := by have := HMP.out; rw [IntWalk.i64_in _ (by omega)]; omega
              have y4 : (m : Int) - 1 - (q : Int) = (k : Int) := by have := HMP.out; omega
              have y3 : (k : Int) < (m : Int) := by have := HMP.out; omega
              have hKE := Lib.hid hk
              clear hk HCB
              have hD2 : D < w2.heap.size := by omega
              have hd2 := dgA_n d
              have hp2 := dgA_n p
              cases bo with
              | true =>
                obtain ⟨cj, hcj⟩ : ∃ cj, dgA (jnD p d).1 = cj := ⟨_, rfl⟩
                have HST2 : Hid (dgA (climb jnD leaf (R.reverse.take (q + 1)) (ps.take (q + 1))).1 = cj) := Lib.hid (by rw [HST.out, ← hcj]; rfl)
                have HJ : Hid (Calls Tryd.prog 23 #[.agg (dgA p.1), .agg (dgA d.1)] w2 fun e w'' => e = .returned (.agg cj) ∧ Below w2.heap.size w2 w'') := Lib.hid (kJoin_any p d _ _ cj rfl rfl hcj w2 (HK.out w2 b9).1 (HK.out w2 b9).2)
                have HCJ : Hid (cj.size = 32 ∧ ∀ v ∈ cj.toList, v.oneCell' = true) := Lib.hid (by rw [← hcj]; exact ⟨dgA_n _, dgA_one _⟩)
                clear hcj
                go_wp2_with (first
                  | (refine wl_loadD rfl (.tmp 15) rfl _ rfl (dgA p.1) rE hp2 ?_)
                  | (refine wl_loadD rfl (.tmp 13) rfl _ rfl (dgA d.1) rD2 hd2 ?_))
                refine HJ.out.mono ?_
                rintro e w5 ⟨rfl, hb5⟩
                have rD5 := (hb5.block D hD2).trans rD2
                have b5 := b9.trans (hb5.mono (by omega))
                have HN5 : Hid ((w5.setRow D cj).heap[D]? = some (rowO (dgA (climb jnD leaf (R.reverse.take (q + 1)) (ps.take (q + 1))).1)) ∧ Below W9.heap.size W9 (w5.setRow D cj)) := Lib.hid ⟨by rw [HST2.out]; exact setRow_heap _ _ _ _ _ _ rD5, below_setRow b5 hDz _⟩
                clear HJ hb5
                go_wp2_with (refine wl_storeD rfl (.tmp 13) (.tmp 71) rfl _ rfl _ cj rfl rD5 hd2 HCJ.out.1 HCJ.out.2 ?_)
                go_roundw
                case rel => exact ⟨q + 1, by go_num, by omega, HN5.out⟩
                case measure => simp [intOf]; omega
              | false =>
                obtain ⟨cj, hcj⟩ : ∃ cj, dgA (jnD d p).1 = cj := ⟨_, rfl⟩
                have HST2 : Hid (dgA (climb jnD leaf (R.reverse.take (q + 1)) (ps.take (q + 1))).1 = cj) := Lib.hid (by rw [HST.out, ← hcj]; rfl)
                have HJ : Hid (Calls Tryd.prog 23 #[.agg (dgA d.1), .agg (dgA p.1)] w2 fun e w'' => e = .returned (.agg cj) ∧ Below w2.heap.size w2 w'') := Lib.hid (kJoin_any d p _ _ cj rfl rfl hcj w2 (HK.out w2 b9).1 (HK.out w2 b9).2)
                have HCJ : Hid (cj.size = 32 ∧ ∀ v ∈ cj.toList, v.oneCell' = true) := Lib.hid (by rw [← hcj]; exact ⟨dgA_n _, dgA_one _⟩)
                clear hcj
                go_wp2_with (first
                  | (refine wl_loadD rfl (.tmp 15) rfl _ rfl (dgA p.1) rE hp2 ?_)
                  | (refine wl_loadD rfl (.tmp 13) rfl _ rfl (dgA d.1) rD2 hd2 ?_))
                refine HJ.out.mono ?_
                rintro e w5 ⟨rfl, hb5⟩
                have rD5 := (hb5.block D hD2).trans rD2
                have b5 := b9.trans (hb5.mono (by omega))
                have HN5 : Hid ((w5.setRow D cj).heap[D]? = some (rowO (dgA (climb jnD leaf (R.reverse.take (q + 1)) (ps.take (q + 1))).1)) ∧ Below W9.heap.size W9 (w5.setRow D cj)) := Lib.hid ⟨by rw [HST2.out]; exact setRow_heap _ _ _ _ _ _ rD5, below_setRow b5 hDz _⟩
                clear HJ hb5
                go_wp2_with (refine wl_storeD rfl (.tmp 13) (.tmp 74) rfl _ rfl _ cj rfl rD5 hd2 HCJ.out.1 HCJ.out.2 ?_)
                go_roundw
                case rel => exact ⟨q + 1, by go_num, by omega, HN5.out⟩
                case measure => simp [intOf]; omega
            · have hqp : q = ps.length := by omega
              subst hqp
              rw [List.take_of_length_le (by rw [List.length_reverse]; have := HMR.out; have := HMP.out; omega), List.take_length] at hrD
              obtain ⟨x, hx⟩ : ∃ x, x = climb jnD leaf R.reverse ps := ⟨_, rfl⟩
              have HIX : Hid (checkD root (N : Int) (i : Int) leaf ps ↔ x = root) := Lib.hid (by rw [HIF.out, hx])
              rw [← hx] at hrD
              clear hx
              have hnx := dgA_n x
              have hEq : ∀ w', (Op.equalIn 10000 31 (.agg (dgA x.1)) (.agg cr)).run Tryd.prog w' = .ok (decide (x = root)) w' := fun w' => by rw [HRL.out.1, ← dg_eq]; exact run_eqD w' x.1 root.1 x.2 root.2
              have HFN : Hid (decide (x = root) = decide (checkD root (N : Int) (i : Int) leaf ps)) := Lib.hid (by rw [decide_eq_decide, HIX.out])
              have hra := HRA.out wr hb
              go_wp2_with (first
                | (refine wl_loadD rfl (.tmp 13) rfl _ rfl (dgA x.1) hrD hnx ?_)
                | (refine wl_loadD rfl (.tmp 5) rfl _ rfl cr hra HNR.out ?_))
              go_ret
              exact ⟨congrArg (fun x => Ending.returned (Value.bool x)) HFN.out, HBW.out.trans (hb.mono HBW.out.size)⟩
        · have hf2 : ((m : Int) != (ps.length : Int)) = true := by
            have : ¬ (m : Int) = (ps.length : Int) := by omega
            simp [this]
          have HF : Hid (decide (checkD root (N : Int) (i : Int) leaf ps) = false) := Lib.hid (by
            rw [decide_eq_false_iff_not, HCD.out]
            intro h
            rw [← HRD.out, ← HMR.out] at h
            exact hne h.1)
          clear hne
          go_wp2_with fail
          go_ret
          exact ⟨(congrArg (fun x => Ending.returned (Value.bool x)) HF.out).symm, bA.trans (hbr.mono bA.size)⟩
end Go.Proofs.YtjmlohfldkbbaaaDoor
