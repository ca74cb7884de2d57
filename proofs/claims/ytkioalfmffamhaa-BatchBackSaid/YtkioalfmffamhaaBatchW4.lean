/-
  What is proved here: what Decode of package batch comes to, at this seat's numbers. Condition: the bytes' length.
-/
import Derived.Test.YtkioalfmffamhaaBatchW3
import Derived.Test.YtkioalfmffamhaaBatchLaw
import Derived.Test.YtkioalfmffamhaaRefReaderW
import Derived.Test.YtkioalfmffamhaaRowOps
namespace Go.Proofs.Ytkioalfmffamhaa
open Go.RowKit

/-- append(dst, op) -/
theorem SO.newAt {W : World} {g B : Nat} (e : Opn) (hg : g = W.heap.size) (hB : g < B) : SO (W.alloc (.cells #[.int .u8 (e.kind.toNat : Int), .string e.user, .string e.value] 37)) B (.slice (some ⟨g, 0, none⟩) 1 1) [e] := by
  exact ⟨_, _, rfl, Nat.le_refl _, by simp [maxLen], Rd.newBlock W _ _ hg hB rfl⟩
theorem wl_appO {ops : Array Oper} {rest : List Oper} {o : Oper} {a : Act} {Q : Exit → Act → World → Prop} {w : World} (hgd : Region.wanted o (yielded ops a.tmps) = true) (s x : Operand)
    (ho : o.op = .call { callee := .builtin .append, args := #[s, x], argTypes := #[23, 23] })
    (base : Nat) (v : Value) (l : List Opn) (hs : a.eval s = v) (hown : OO w base v l)
    (e : Opn) {g : Nat} (hg : g = w.heap.size) (hx : a.eval x = .slice (some ⟨g, 0, none⟩) 1 1) (hlen : l.length + 1 ≤ maxLen) (hfits : Fits l.length 1 40) (hbase : base ≤ w.heap.size)
    (h : ∀ v' w', OO w' base v' (l ++ [e]) → w.grownBy w' v.ownBlock → Below base w w' → wpList Try.prog ops Q rest (a.put o.dst v') w') : wpList Try.prog ops Q (o :: rest) a (w.alloc (.cells #[.int .u8 (e.kind.toNat : Int), .string e.user, .string e.value] 37)) := by
  refine wl_appOs hgd s x ho base v l hs (hown.alloc _) (w.heap.size + 1) _ [e] hx (SO.newAt e hg (by omega)) hlen hfits (by simp; omega) ?_
  intro v' w' h1 h2 h3 h4
  exact h v' w' h1 ((World.grownBy_alloc w _ _).trans h2) (((Below.refl _ _).alloc hbase _).trans h4)

theorem OO.far {w w' : World} {base : Nat} {v : Value} {l : List Opn} {row : Option Nat} (h : OO w base v l) (hg : w.grownBy w' row) (hne : ∀ k, v.ownBlock = some k → row ≠ some k) : OO w' base v l := by
  refine World.ownsRow.kept h hg ?_
  cases hv : v.ownBlock with
  | none => exact .inl rfl
  | some k => right; intro e; exact hne k hv e.symm
theorem loopOps_stop {n : Nat} {s : Rs} (h : ¬ (0 < n ∧ s.2 = 0)) : loopOps n s = ([], s) := by
  cases n with
  | zero => rfl
  | succ n => rw [loopOps, if_neg (by intro e; exact h ⟨by omega, e⟩)]

/-- what Decode comes to -/
def DecPost (b : List UInt8) (w : World) (e : Ending) (w' : World) : Prop :=
  (progOk b = true ∧ ∃ r, e = .returned (.tuple #[.int .u64 ((seqOf b).toNat : Int), r, .int .i64 0]) ∧ SO w' w'.heap.size r (loopOps (numOf b) (behind b)).1 ∧ Below w.heap.size w w') ∨
  (progOk b = false ∧ e = .returned (.tuple #[.int .u64 0, .slice none 0 0, .int .i64 120]) ∧ Below w.heap.size w w')

set_option maxRecDepth 100000 in
set_option maxHeartbeats 8000000 in
theorem bDecode_any (v : Value) (b : List UInt8) (w : World) (hv : SB w w.heap.size v b) (hb : b.length ≤ 100000000) :
    Calls Try.prog 21 #[v] w (DecPost b w) := by
  have e8 : (sFix 8 (b, 0)).1 = (seqOf b).toNat := by
    unfold seqOf
    rw [UInt64.toNat_ofNat']
    exact (Nat.mod_eq_of_lt (sFix_lt 8 (b, 0))).symm
  have hnlt : numOf b < 18446744073709551616 := sNum_lt _
  have hble : (behind b).1.length ≤ b.length := by
    have h1 := sFix_le 8 (b, 0)
    have h2 := sNum_le (sFix 8 (b, 0)).2
    unfold behind
    simp only at h1
    omega
  have E8 := Lib.hid e8
  clear e8
  go_enter Try.func21, Try.ntmps21
  go_wp2_with fail
  refine (cNew_any v b w hv (by omega)).mono ?_
  rintro e w1 ⟨R, rfl, hR, hrd, hb1⟩
  have h8 := mFix_any R b 0 8 w1 hrd.at_ (by omega) (by omega)
  rw [E8.out] at h8
  go_wp2_with fail
  refine h8.mono ?_
  rintro e w2 ⟨rfl, hrd2, hg2⟩
  clear h8
  go_wp2_with fail
  refine (mNum_any R _ _ w2 hrd2).mono ?_
  rintro e w3 ⟨rfl, hrd3, hg3⟩
  have hR1 := hrd.at_.lt
  have hb3 : Below w.heap.size w w3 := hb1.trans ((gbelow hg2 (Nat.le_of_lt hR1) hR).trans (gbelow hg3 (Nat.le_of_lt hrd2.lt) hR))
  have hrd3' : RdrAt w3 R (behind b).1 (behind b).2 := hrd3
  obtain ⟨s0, hs0⟩ : ∃ s0, s0 = behind b := ⟨_, rfl⟩
  obtain ⟨n0, hn0⟩ : ∃ n0, n0 = numOf b := ⟨_, rfl⟩
  have hn0' : (sNum ((sFix 8 (b, 0)).snd.fst, (sFix 8 (b, 0)).snd.snd)).fst = n0 := hn0.symm
  rw [hn0']
  rw [← hs0] at hrd3' hble
  rw [← hn0] at hnlt
  have HS0 := Lib.hid (And.intro hs0 hn0)
  have hR3 := hrd3'.lt
  clear hn0' hs0 hn0 hrd3 hrd hrd2 hg2 hg3
  go_wp2_with fail
  go_loopw [7, 8] (fun nv lv wr => ∃ (n : Nat) (acc : List Opn) (rest : List UInt8) (bad : Nat), nv = .int .u64 n ∧ n < 18446744073709551616 ∧ OO wr (R + 1) lv acc ∧ RdrAt wr R rest bad ∧ Hid (acc ++ (loopOps n (rest, bad)).1 = (loopOps n0 s0).1 ∧ (loopOps n (rest, bad)).2 = (loopOps n0 s0).2) ∧ Hid (bad = 0 → acc.length + rest.length ≤ 100000000) ∧ acc.length + rest.length ≤ 100000001 ∧ Below w.heap.size w wr) (fun nv _ _ => (intOf nv).toNat)
  case atStart => exact ⟨n0, [], s0.1, s0.2, rfl, hnlt, OO.nil_ _ _, hrd3', Lib.hid ⟨rfl, rfl⟩, Lib.hid (fun _ => by simp; omega), by simp; omega, hb3⟩
  case round =>
    obtain ⟨n, acc, rest, bad, rfl, hn, hown, hrd, hq, hbd, hbd2, hbr⟩ := hrel
    have hRlt := hrd.lt
    have hown0 := hown
    have hlt := hown.lt
    by_cases hgo : 0 < n ∧ bad = 0
    · obtain ⟨hn1, rfl⟩ := hgo
      obtain ⟨m, rfl⟩ : ∃ m, n = m + 1 := ⟨n - 1, by omega⟩
      have hbd3 := hbd.out rfl
      have hx := sFix1_lt (rest, 0)
      obtain ⟨kb, hkb⟩ : ∃ kb, kb = UInt8.ofNat (sFix 1 (rest, 0)).1 := ⟨_, rfl⟩
      have e1 : (sFix 1 (rest, 0)).1 = kb.toNat := by rw [hkb, UInt8.toNat_ofNat']; exact (Nat.mod_eq_of_lt hx).symm
      have hk8 := u8_lt kb
      obtain ⟨s1, hs1⟩ : ∃ s1, s1 = (sFix 1 (rest, 0)).2 := ⟨_, rfl⟩
      obtain ⟨u, hu⟩ : ∃ u : ByteArray, u = ⟨(sStr 1024 s1).1.toArray⟩ := ⟨_, rfl⟩
      obtain ⟨s2, hs2⟩ : ∃ s2, s2 = (sStr 1024 s1).2 := ⟨_, rfl⟩
      have h1 := mFix_any R rest 0 1 wr hrd (by omega) (by omega)
      rw [e1, ← hs1] at h1
      have h2 := fun W h => mStr_any R s1.1 s1.2 1024 W h (by omega)
      have eta1 : (s1.1, s1.2) = s1 := rfl
      rw [eta1, ← hu, ← hs2] at h2
      have HK := Lib.hid (And.intro hkb (And.intro hs1 (And.intro hu hs2)))
      have H1 := Lib.hid h1
      have H2 := Lib.hid h2
      have hq1 : Hid (∀ k : Bool, True) := Lib.hid (fun _ => trivial)
      clear hkb hs1 hu hs2 h1 h2 e1 hx eta1 hq1
      have hmm : ((m + 1 : Nat) : Int) - 1 = (m : Int) := by omega
      have HM := Lib.hid hmm
      clear hmm
      go_wp2_with (go_at_call 36; refine (mFault_any R rest 0 _ hrd).mono ?_; rintro e wf ⟨rfl, rfl⟩)
      refine H1.out.mono ?_
      rintro e w4 ⟨rfl, hrd4, hg4⟩
      have hg4s := hg4.size
      have hown4 := hown.far hg4 (fun k hk e => by have := (hlt k hk).1; injection e with e; omega)
      go_wp2_with fail
      have hrd4' := hrd4.far (World.grownBy_alloc w4 (.cells #[.int .u8 (kb.toNat : Int), .string ⟨#[]⟩, .string ⟨#[]⟩] 37) none) (fun g hg => by cases hg)
      refine (H2.out _ hrd4').mono ?_
      rintro e w5 ⟨rfl, hrd5, hg5⟩
      have hg5s := hg5.size
      simp at hg5s
      have hq5 : w5.heap[w4.heap.size]? = some (.cells #[.int .u8 (kb.toNat : Int), .string ⟨#[]⟩, .string ⟨#[]⟩] 37 (0, 0)) :=
        (hg5.block _ (by simp) (fun e => by injection e with e; omega)).trans (heap_alloc_new w4 _)
      obtain ⟨x0, x1, x2, y0, y1, y2⟩ := cells3 hq5
      have hown5 := (hown4.alloc (.cells #[.int .u8 (kb.toNat : Int), .string ⟨#[]⟩, .string ⟨#[]⟩] 37)).far hg5 (fun k hk e => by have := (hlt k hk).1; injection e with e; omega)
      have hq5' := set31 (u := .string u) hq5
      have hgs := grown_set (g := w4.heap.size) (p := ⟨w4.heap.size, 1, none⟩) w5 rfl (.string u)
      have hrd5' := hrd5.far hgs (fun g hg => by injection hg with hg; omega)
      have hown5' := hown5.far hgs (fun k hk e => by have := (hlt k hk).2; injection e with e; omega)
      have hb5 : Below w.heap.size w (w5.setCell ⟨w4.heap.size, 1, none⟩ (.string u)) := by
        have a1 := hbr.trans (gbelow hg4 (Nat.le_of_lt hRlt) hR)
        have a2 := a1.alloc (Nat.le_trans hbr.size hg4s) (.cells #[.int .u8 (kb.toNat : Int), .string ⟨#[]⟩, .string ⟨#[]⟩] 37)
        have a3 := a2.trans (gbelow hg5 (by simp; omega) hR)
        exact a3.setCell (by have := hbr.size; simp; omega) _
      have HQ5 := Lib.hid hq5'
      clear hq5 hq5' hgs hown4 hown5 hrd4' hrd4 hrd5
      by_cases hk1 : kb.toNat = 1
      · have t1 : ((kb.toNat : Int) == 1) = true := by rw [beq_iff_eq]; omega
        obtain ⟨vv, hvv⟩ : ∃ vv : ByteArray, vv = ⟨(sStr 65536 s2).1.toArray⟩ := ⟨_, rfl⟩
        obtain ⟨s3, hs3⟩ : ∃ s3, s3 = (sStr 65536 s2).2 := ⟨_, rfl⟩
        have htk : takeOp (rest, 0) = (⟨kb, u, vv⟩, s3) := by
          obtain ⟨k1, k2, k3, k4⟩ := HK.out
          unfold takeOp
          rw [← k1, ← k2, ← k4, if_pos hk1, hvv, hs3, k3]
        have h3 := mStr_any R s2.1 s2.2 65536 _ hrd5' (by omega)
        have eta2 : (s2.1, s2.2) = s2 := rfl
        rw [eta2, ← hvv, ← hs3] at h3
        have HT := Lib.hid htk
        have H3 := Lib.hid h3
        clear hvv hs3 htk h3 eta2 hk1
        go_wp2_with fail
        refine H3.out.mono ?_
        rintro e w6 ⟨rfl, hrd6, hg6⟩
        have hg6s := hg6.size
        simp at hg6s
        have hq6 := (hg6.block w4.heap.size (by simp; omega) (fun e => by injection e with e; omega)).trans HQ5.out
        obtain ⟨z0, z1, z2, q0, q1, q2⟩ := cells3 hq6
        have hown6 := hown5'.far hg6 (fun k hk e => by have := (hlt k hk).1; injection e with e; omega)
        have hgs6 := grown_set (g := w4.heap.size) (p := ⟨w4.heap.size, 2, none⟩) w6 rfl (.string vv)
        have hrd6' := hrd6.far hgs6 (fun g hg => by injection hg with hg; omega)
        have hown6' := hown6.far hgs6 (fun k hk e => by have := (hlt k hk).2; injection e with e; omega)
        have hb6 : Below w.heap.size w (w6.setCell ⟨w4.heap.size, 2, none⟩ (.string vv)) := (hb5.trans (gbelow hg6 (by simp; omega) hR)).setCell (by have := hbr.size; simp; omega) _
        clear hq6 hown6 hrd6 hgs6
        go_wp2_with (at_builtin; refine wl_appO rfl (.tmp 38) (.tmp 40) rfl (R + 1) _ acc rfl hown6' ⟨kb, u, vv⟩ (by simp) rfl (by simp only [maxLen]; omega) (Fits.one _ _ (by omega)) (by simp; omega) ?_; intro v7 w7 hown7 hg7 hb7)
        have hrd7 := hrd6'.far hg7 (fun g hg => by have := (hlt g hg).1; omega)
        go_roundw
        case rel =>
          refine ⟨m, acc ++ [⟨kb, u, vv⟩], s3.1, s3.2, by go_num, by omega, hown7, hrd7, Lib.hid ?_, Lib.hid (fun h0 => ?_), ?_, hb6.trans (hb7.mono (by omega))⟩
          · have h := hq.out
            rw [loopOps, if_pos rfl, HT.out] at h
            simpa using h
          · have h := takeOp_less (s := (rest, 0)) (by rw [HT.out]; exact h0)
            rw [HT.out] at h
            simp at h ⊢; omega
          · have h := (takeOp_le (rest, 0)).1
            rw [HT.out] at h
            simp at h ⊢; omega
        case measure => simp [intOf] <;> omega
      · have t1 : ((kb.toNat : Int) == 1) = false := by rw [beq_eq_false_iff_ne]; omega
        have htk : takeOp (rest, 0) = (⟨kb, u, ⟨#[]⟩⟩, s2) := by
          obtain ⟨k1, k2, k3, k4⟩ := HK.out
          unfold takeOp
          rw [← k1, ← k2, ← k4, if_neg hk1, k3]
        have HT := Lib.hid htk
        clear htk hk1
        obtain ⟨z0, z1, z2, q0, q1, q2⟩ := cells3 HQ5.out
        go_wp2_with (at_builtin; refine wl_appO rfl (.tmp 38) (.tmp 40) rfl (R + 1) _ acc rfl hown5' ⟨kb, u, ⟨#[]⟩⟩ (by simp) rfl (by simp only [maxLen]; omega) (Fits.one _ _ (by omega)) (by simp; omega) ?_; intro v7 w7 hown7 hg7 hb7)
        have hrd7 := hrd5'.far hg7 (fun g hg => by have := (hlt g hg).1; omega)
        go_roundw
        case rel =>
          refine ⟨m, acc ++ [⟨kb, u, ⟨#[]⟩⟩], s2.1, s2.2, by go_num, by omega, hown7, hrd7, Lib.hid ?_, Lib.hid (fun h0 => ?_), ?_, hb5.trans (hb7.mono (by omega))⟩
          · have h := hq.out
            rw [loopOps, if_pos rfl, HT.out] at h
            simpa using h
          · have h := takeOp_less (s := (rest, 0)) (by rw [HT.out]; exact h0)
            rw [HT.out] at h
            simp at h ⊢; omega
          · have h := (takeOp_le (rest, 0)).1
            rw [HT.out] at h
            simp at h ⊢; omega
        case measure => simp [intOf] <;> omega
    · have hst := loopOps_stop (n := n) (s := (rest, bad)) hgo
      have hqq := hq.out
      rw [hst, List.append_nil] at hqq
      simp only at hqq
      have HQQ := Lib.hid hqq
      have hall : ∀ o ∈ acc, OpOk o := fun o ho => by
        have h := loopOps_all n0 s0 o (by rw [← HQQ.out.1]; exact ho)
        unfold OpOk
        omega
      have HALL := Lib.hid hall
      have hso := hown.so
      have HP : Hid (progOk b = (decide (sEnd (rest, bad) = 0) && rightB (seqOf b) acc)) := by
        refine Lib.hid ?_
        unfold progOk
        rw [← HS0.out.1, ← HS0.out.2, HQQ.out.1, HQQ.out.2]
      have hqn : (¬ 0 < n) ∨ (0 < n ∧ ((bad : Int) == 0) = false) := by
        rcases Nat.eq_zero_or_pos n with h | h
        · left; omega
        · right; refine ⟨h, ?_⟩; rw [beq_eq_false_iff_ne]; intro e; exact hgo ⟨h, by omega⟩
      clear hst hqq hall hgo hq hbd
      obtain ⟨q, hqe⟩ : ∃ q, q = sEnd (rest, bad) := ⟨_, rfl⟩
      have hend := mEnd_any R rest bad wr hrd
      rw [← hqe] at hend HP
      have HEND := Lib.hid hend
      clear hend hqe
      rcases hqn with hqn | ⟨hqn, hqb⟩
      focus
        go_wp2_with fail
      rotate_left
      focus
        go_wp2_with (go_at_call 36; refine (mFault_any R rest bad _ hrd).mono ?_; rintro e wf ⟨rfl, rfl⟩)
      all_goals
        refine HEND.out.mono ?_
        rintro e wg ⟨rfl, rfl⟩
        by_cases hq0 : q = 0
        · have tq : ((q : Int) != 0) = false := by rw [bne_eq_false_iff_eq]; omega
          have HP2 : Hid (progOk b = rightB (seqOf b) acc) := Lib.hid (by rw [HP.out, hq0]; simp)
          clear hq0 HP
          go_wp2_with fail
          refine (bRight_any (seqOf b) _ acc _ hso HALL.out).mono ?_
          rintro e wh ⟨rfl, hbh⟩
          have hso2 := SO.on hso hbh
          cases hrb : rightB (seqOf b) acc with
          | true =>
            have HRB := Lib.hid hrb
            clear hrb
            go_wp2
            go_ret3
            refine .inl ⟨by rw [HP2.out]; exact HRB.out, _, rfl, ?_, bstep hbr hbh⟩
            rw [← HS0.out.1, ← HS0.out.2, ← HQQ.out.1]
            exact hso2
          | false =>
            have HRB := Lib.hid hrb
            clear hrb
            go_wp2
            go_ret3
            exact .inr ⟨by rw [HP2.out]; exact HRB.out, rfl, bstep hbr hbh⟩
        · have tq : ((q : Int) != 0) = true := by rw [bne_iff_ne]; omega
          have HP2 : Hid (progOk b = false) := Lib.hid (by rw [HP.out]; simp [hq0])
          clear hq0 HP
          go_wp2
          go_ret3
          exact .inr ⟨HP2.out, rfl, hbr⟩
end Go.Proofs.Ytkioalfmffamhaa
