/-
  What is proved here: what the reference's entries come to, at this seat's numbers. Conditions: the bytes' number.
-/
import Derived.Test.YtoccmedadiangaaBlockW11
import Derived.Test.YtoccmedadiangaaRefReaderW2
namespace Go.Proofs.Ytoccmedadiangaa
open Go.RowKit

theorem run_b2s_none (w : World) (A : Option Addr) (c : Nat) : (convert 25 9 (.slice A 0 c)).run Try.prog w = .ok (.string ⟨#[]⟩) w := by
  cases A with
  | none =>
    rw [run_convert_bytes_string w 25 9 5 none _ c Try.underlying25 Try.underlying5 Try.underlying9]
    simp [Conv.bytesToString]
    rfl
  | some ad => exact run_convert_bytes_back (P := Try.prog) w 25 9 5 ad c [] Try.underlying25 Try.underlying5 Try.underlying9 (fun j hj => by simp at hj)
/-- a text from a part of the bytes -/
theorem conv_cut {w : World} {base c i n : Nat} {A : Option Addr} {bs : List UInt8} (hr : Rd w base 1 A bs.length (bv bs)) (hc : bs.length ≤ c) (hm : c ≤ maxLen) (h : i + n ≤ bs.length) (nq : Nat) :
    (convert 25 9 (.slice (if c = i then A else A.map (·.add i)) n (c - i))).run Try.prog (w.drewN nq) = .ok (.string ⟨((bs.drop i).take n).toArray⟩) (w.drewN nq) := by
  have e : (bs.take (i + n)).drop i = (bs.drop i).take n := by rw [List.drop_take, Nat.add_sub_cancel_left]
  rcases Nat.eq_zero_or_pos n with hn0 | hn0
  · subst hn0
    rw [List.take_zero]
    exact run_b2s_none _ _ _
  · rw [← e]
    refine run_b2s _ _ base _ ?_
    have e1 : (bs.take (i + n)).length = i + n := by rw [List.length_take]; omega
    have h1 : Rd w base 1 A (bs.take (i + n)).length (bv (bs.take (i + n))) := by
      have := hr.take h
      rw [Nat.mul_one] at this
      rw [bv_take, e1]; exact this
    have h2 := rd_cut (c := c) (k := i) (by omega) (by omega) h1
    have e2 : n = ((bs.take (i + n)).drop i).length := by rw [List.length_drop, e1]; omega
    exact ⟨_, c - i, by rw [← e2], by rw [← e2]; omega, by omega, h2.drewN nq⟩
section
variable {w w' w1 w2 : World} {base R B : Nat} {bs : List UInt8} {i bad : Nat}
theorem RefAt.lo (h : RefAt w base R bs i bad) (hb : Below B w w') (hB : R < B) : RefAt w' base R bs i bad := by
  obtain ⟨A, c, h1, h2, h3, h4, h5, h6⟩ := h
  exact ⟨A, c, (hb.block R hB).trans h1, h2, h3, h4, h5, h6.keep fun p hp => hb.cell (by omega)⟩
theorem RefAt.put {i' : Nat} (h : RefAt w base R bs i' bad) (i : Nat) (hi : i ≤ bs.length) : RefAt (w.setCell ⟨R, 1, none⟩ (.int .i64 (i : Int))) base R bs i bad := by
  obtain ⟨A, c, h1, h2, h3, h4, h5, h6⟩ := h
  exact ⟨A, c, set31 h1, h2, h3, hi, h5, h6.setCell (by simpa using h5) _⟩
theorem RefAt.set (h : RefAt w base R bs i bad) {M k : Nat} (hM : R < M) (u : Value) : RefAt (w.setCell ⟨M, k, none⟩ u) base R bs i bad := by
  have hb : base ≤ R := by obtain ⟨_, _, _, _, _, _, h5, _⟩ := h; exact h5
  exact h.far (grown_set (p := ⟨M, k, none⟩) w rfl u) (by show M ≠ R; omega) (by show base ≤ M; omega)
theorem grown_lo (g : w.grownBy w1 (some R)) (hb : Below w.heap.size w1 w2) : w.grownBy w2 (some R) :=
  ⟨hb.os.trans g.os, hb.tape.trans g.tape, hb.output.trans g.output, Nat.le_trans g.size hb.size, fun x hx hne => (hb.block x hx).trans (g.block x hx hne)⟩
theorem OE.putNew {v : Value} {l : List Ent} (h : OE w base v l) (o : Obj) (k : Nat) (u : Value) : OE ((w.alloc o).setCell ⟨w.heap.size, k, none⟩ u) base v l :=
  (h.alloc o).grown (grown_set (p := ⟨w.heap.size, k, none⟩) _ rfl u) (by
    rcases hv : v.ownBlock with _ | x
    · exact .inl rfl
    · right
      intro e2
      have h1 := (h.lt x hv).2
      have h2 : x = w.heap.size := by injection e2
      omega)
end
theorem rTake_any (s : ByteArray) (w : World) (hm : s.size ≤ 140737488355328) :
    Calls Try.prog 51 #[.string s] w fun en w' => en = .returned (takeV s.data.toList) ∧ Below w.heap.size w w' := by
  by_cases h : s.size < 8
  · exact rTake_short s w h
  · exact rTake_long s w (by omega) hm
theorem gdrewR (w : World) (q R : Nat) : w.grownBy (w.drewN q) (some R) := gdrew w q (some R)
set_option maxRecDepth 100000 in
set_option maxHeartbeats 4000000 in
theorem rEntries_any (base R : Nat) (bs : List UInt8) (i0 n0 : Nat) (w : World) (h : RefAt w base R bs i0 0) (hn : n0 < 18446744073709551616) (hbs : bs.length ≤ 1073741824) :
    Calls Try.prog 36 #[.pointer (some ⟨R, 0, none⟩), .int .u64 (n0 : Int)] w fun en w' => ∃ v l, en = .returned v ∧ OE w' w.heap.size v l ∧ w.grownBy w' (some R) ∧
      Hid ((readL n0 (bs.drop i0) [] = some l ∨ (readL n0 (bs.drop i0) [] = none ∧ l = [])) ∧ (∀ e ∈ l, e.user.size ≤ 1024 ∧ e.value.size ≤ 1073741824)) ∧ l.length ≤ 1073741824 := by
  have hRl := h.lt
  have hbR : base ≤ R := by obtain ⟨_, _, _, _, _, _, h5, _⟩ := h; exact h5
  go_enter Try.func36, Try.ntmps36
  go_wp2_with fail
  go_loopw [1, 5, 6] (fun nv lv sv wr => ∃ (k : Nat) (acc : List Ent) (last : ByteArray) (i : Nat), nv = .int .u64 k ∧ k < 18446744073709551616 ∧ sv = .string last ∧ last.size ≤ 1032 ∧ OE wr w.heap.size lv acc ∧ RefAt wr base R bs i 0 ∧ acc.length ≤ i ∧ i ≤ bs.length ∧ w.grownBy wr (some R) ∧ Hid (readUp n0 (bs.drop i0) k acc (bs.drop i) last.data.toList ∧ ∀ e ∈ acc, e.user.size ≤ 1024 ∧ e.value.size ≤ 1073741824)) (fun nv _ _ _ => (intOf nv).toNat)
  case atStart => exact ⟨n0, [], ⟨#[]⟩, i0, rfl, hn, rfl, by decide, OE.nil_ _ _, h, Nat.zero_le _, by (obtain ⟨_, _, _, _, _, h4, _, _⟩ := h; exact h4), gself _ _, Lib.hid ⟨by simp [readUp], fun e he => by cases he⟩⟩
  case round =>
    obtain ⟨k, acc, last, i, rfl, hk, rfl, hls, hown, hrf, hlen, hib, hg, HU⟩ := hrel
    by_cases hk0 : k = 0
    · subst hk0
      go_wp2_with fail
      go_ret
      exact ⟨_, acc, rfl, hown, hg, Lib.hid ⟨.inl (readUp_end HU.out.1), HU.out.2⟩, by omega⟩
    · obtain ⟨k, rfl⟩ : ∃ j, k = j + 1 := ⟨k - 1, by omega⟩
      have hk1 : decide ((0 : Int) < ((k + 1 : Nat) : Int)) = true := by rw [decide_eq_true_eq]; omega
      have gk : IntKind.u64.wrap (((k + 1 : Nat) : Int) - 1) = (k : Int) := by rw [IntKind.wrap_u64]; omega
      obtain ⟨n1, s1, b1, e1⟩ : ∃ n1 s1 b1, sNum (bs.drop i, 0) = (n1, s1, b1) := ⟨_, _, _, rfl⟩
      obtain ⟨n2, s2, b2, e2⟩ : ∃ n2 s2 b2, sNum (s1, b1) = (n2, s2, b2) := ⟨_, _, _, rfl⟩
      obtain ⟨n3, s3, b3, e3⟩ : ∃ n3 s3 b3, sNum (s2, b2) = (n3, s3, b3) := ⟨_, _, _, rfl⟩
      have hT := takeB1_of (last := last.data.toList) e1 e2 e3
      have m1 := sNum_lt (bs.drop i, 0)
      have m2 := sNum_lt (s1, b1)
      have m3 := sNum_lt (s2, b2)
      rw [e1] at m1
      rw [e2] at m2
      rw [e3] at m3
      dsimp only at m1 m2 m3
      have C1 : Hid (∀ W, RefAt W base R bs i 0 → Calls Try.prog 35 #[.pointer (some ⟨R, 0, none⟩)] W fun en w' => en = .returned (.int .u64 (n1 : Int)) ∧ (∃ i', RefAt w' base R bs i' b1 ∧ bs.drop i' = s1) ∧ W.grownBy w' (some R)) :=
        Lib.hid (fun W hr => by have h := qNum_any base R bs i 0 W hr (by omega); rw [e1] at h; exact h)
      have C2 : Hid (∀ W i1, RefAt W base R bs i1 b1 → bs.drop i1 = s1 → Calls Try.prog 35 #[.pointer (some ⟨R, 0, none⟩)] W fun en w' => en = .returned (.int .u64 (n2 : Int)) ∧ (∃ i', RefAt w' base R bs i' b2 ∧ bs.drop i' = s2) ∧ W.grownBy w' (some R)) :=
        Lib.hid (fun W i1 hr hi => by have h := qNum_any base R bs i1 b1 W hr (by omega); rw [hi, e2] at h; exact h)
      have C3 : Hid (∀ W i1, RefAt W base R bs i1 b2 → bs.drop i1 = s2 → Calls Try.prog 35 #[.pointer (some ⟨R, 0, none⟩)] W fun en w' => en = .returned (.int .u64 (n3 : Int)) ∧ (∃ i', RefAt w' base R bs i' b3 ∧ bs.drop i' = s3) ∧ W.grownBy w' (some R)) :=
        Lib.hid (fun W i1 hr hi => by have h := qNum_any base R bs i1 b2 W hr (by omega); rw [hi, e3] at h; exact h)
      obtain ⟨A0, c0, x0, x1, x2, _⟩ : ∃ A c, wr.cell? ⟨R, 0, none⟩ = some (.slice A bs.length c) ∧ wr.cell? ⟨R, 1, none⟩ = some (.int .i64 (i : Int)) ∧ wr.cell? ⟨R, 2, none⟩ = some (.int .i64 0) ∧ True := by
        obtain ⟨A, c, hh, _⟩ := hrf
        obtain ⟨x0, x1, x2, _, _, _⟩ := cells3 hh
        exact ⟨A, c, x0, x1, x2, trivial⟩
      clear e1 e2 e3
      go_wp2_with fail
      refine (C1.out _ hrf).mono ?_
      rintro _ w1 ⟨rfl, ⟨i1, hr1, hi1⟩, hg1⟩
      go_wp2_with fail
      refine (C2.out _ i1 hr1 hi1).mono ?_
      rintro _ w2 ⟨rfl, ⟨i2, hr2, hi2⟩, hg2⟩
      go_wp2_with fail
      refine (C3.out _ i2 hr2 hi2).mono ?_
      rintro _ w3 ⟨rfl, ⟨i3, hr3, hi3⟩, hg3⟩
      have g3 : w.grownBy w3 (some R) := (hg.trans (hg1.trans hg2)).trans hg3
      have hown3 := hown.rdr ((hg1.trans hg2).trans hg3) hRl
      have hs3 : s3.length = bs.length - i3 := by rw [← hi3, List.length_drop]
      rw [hs3, toList_size] at hT
      have HS3 := Lib.hid (And.intro hi3 hs3)
      clear hi1 hi2 hi3 hs3 hr1 hr2 hrf hown hg hg1 hg2 hg3 C1 C2 C3
      have HG : Hid (∀ q, RefAt (w3.drewN q) base R bs i3 b3 ∧ OE (w3.drewN q) w.heap.size _ acc ∧ w.grownBy (w3.drewN q) (some R)) := Lib.hid (fun q => ⟨hr3.drewN q, hown3.drewN q, g3.trans (gdrewR w3 q R)⟩)
      obtain ⟨A3, c3, hh3, hc3, hm3, hi3l, hb3R, hrd3⟩ := hr3
      obtain ⟨y0, y1, y2, _, _, _⟩ := cells3 hh3
      obtain ⟨L, hL⟩ : ∃ L, L = bs.length - i3 := ⟨_, rfl⟩
      have gq1 : IntKind.i64.wrap ((bs.length : Int) - (i3 : Int)) = (L : Int) := by rw [IntKind.wrap_i64]; omega
      have gq2 : IntKind.u64.wrap (L : Int) = (L : Int) := by rw [IntKind.wrap_u64]; omega
      rw [← hL] at hT
      have HT := Lib.hid hT
      have HL := Lib.hid hL
      have hLi : i3 + L = bs.length := by omega
      clear hT hL
      go_upto_region 8 with fail
      go_quiet (fail)
      have h4 := HG.out nq
      generalize World.drewN w3 nq = w4 at h4 ⊢
      obtain ⟨hr4, hown4, g4⟩ := h4
      clear HG hh3 hrd3 hm3 hc3 hi3l y0 y1 y2 x0 x1 x2 gq1 gq2 g3 hown3
      have HR4 := Lib.hid hr4
      obtain ⟨A4, c4, hh4, hc4, hm4, hi4, hb4R, hrd4⟩ := hr4
      obtain ⟨x0, x1, x2, _, _, _⟩ := cells3 hh4
      have hm4' : c4 ≤ 9223372036854775807 := by unfold maxLen at hm4; omega
      have gl : IntKind.u64.wrap (last.size : Int) = (last.size : Int) := by rw [IntKind.wrap_u64]; omega
      by_cases hb : b3 = 0
      case neg =>
        have hb' : (((b3 : Int)) == 0) = false := by rw [beq_eq_false_iff_ne]; omega
        go_wp2_with fail
        go_ret
        exact ⟨_, [], rfl, OE.nil_ _ _, g4, Lib.hid ⟨.inr ⟨readUp_none HU.out.1 (by rw [HT.out, if_pos (.inl hb)]), rfl⟩, fun e he => by cases he⟩, by simp⟩
      subst hb
      by_cases k1 : last.size < n1
      · have k1' : decide ((last.size : Int) < (n1 : Int)) = true := by simp; omega
        go_wp2_with fail
        go_ret
        exact ⟨_, [], rfl, OE.nil_ _ _, g4, Lib.hid ⟨.inr ⟨readUp_none HU.out.1 (by rw [HT.out, if_pos (.inr (.inl k1))]), rfl⟩, fun e he => by cases he⟩, by simp⟩
      have k1' : decide ((last.size : Int) < (n1 : Int)) = false := by simp; omega
      by_cases k2 : L < n2
      · have k2' : decide ((L : Int) < (n2 : Int)) = true := by simp; omega
        go_wp2_with fail
        go_ret
        exact ⟨_, [], rfl, OE.nil_ _ _, g4, Lib.hid ⟨.inr ⟨readUp_none HU.out.1 (by rw [HT.out, if_pos (.inr (.inr (.inl k2)))]), rfl⟩, fun e he => by cases he⟩, by simp⟩
      have k2' : decide ((L : Int) < (n2 : Int)) = false := by simp; omega
      have gs : IntKind.u64.wrap ((L : Int) - (n2 : Int)) = (L : Int) - (n2 : Int) := by rw [IntKind.wrap_u64]; omega
      by_cases k3 : L - n2 < n3
      · have k3' : decide ((L : Int) - (n2 : Int) < (n3 : Int)) = true := by simp; omega
        go_wp2_with fail
        go_ret
        exact ⟨_, [], rfl, OE.nil_ _ _, g4, Lib.hid ⟨.inr ⟨readUp_none HU.out.1 (by rw [HT.out, if_pos (.inr (.inr (.inr k3)))]), rfl⟩, fun e he => by cases he⟩, by simp⟩
      have k3' : decide ((L : Int) - (n2 : Int) < (n3 : Int)) = false := by simp; omega
      go_upto_region 11 with fail
      clear k1' k2' k3' gs gl
      have HTe : Hid (takeB1 (bs.drop i, 0) last.data.toList = if isKey (last.data.toList.take n1 ++ s3.take n2) then some (withV (takeE (last.data.toList.take n1 ++ s3.take n2)) ((s3.drop n2).take n3), last.data.toList.take n1 ++ s3.take n2, s3.drop (n2 + n3)) else none) := Lib.hid (by rw [HT.out, if_neg (by omega)])
      rw [← HS3.out.1, ← List.drop_drop, List.drop_drop] at HTe
      have hcv := conv_cut hrd4 hc4 hm4 (i := i3) (n := n2) (by omega)
      obtain ⟨sv, hsv⟩ : ∃ sv : ByteArray, sv = ⟨((bs.drop i3).take n2).toArray⟩ := ⟨_, rfl⟩
      have hko := key_of last ((bs.drop i3).take n2) n1
      rw [← hsv] at hcv hko
      obtain ⟨kb, hkb⟩ : ∃ kb, kb = last.extract 0 n1 ++ sv := ⟨_, rfl⟩
      have q1 := hkb.symm
      rw [q1] at hko
      rw [← hko] at HTe
      have hsvl : sv.size = n2 := by
        rw [← toList_size, hsv]
        simp only [List.length_take, List.length_drop]
        omega
      have f1 : ¬ 9223372036854775807 < min n1 last.size + sv.size := by omega
      have hks : kb.size ≤ 140737488355328 := by
        rw [← toList_size, hko, List.length_append, List.length_take, List.length_take, toList_size]
        omega
      have kn1 : (n1 : Int) ≤ (last.size : Int) := by omega
      have gn2 : IntKind.i64.wrap (n2 : Int) = (n2 : Int) := by rw [IntKind.wrap_i64]; omega
      have gs : IntKind.i64.wrap ((i3 : Int) + (n2 : Int)) = (i3 : Int) + (n2 : Int) := by rw [IntKind.wrap_i64]; omega
      have hle2 : i3 + n2 ≤ bs.length := by omega
      have HG : Hid (∀ q, RefAt (w4.drewN q) base R bs i3 0 ∧ OE (w4.drewN q) w.heap.size _ acc ∧ w.grownBy (w4.drewN q) (some R)) := Lib.hid (fun q => ⟨HR4.out.drewN q, hown4.drewN q, g4.trans (gdrewR w4 q R)⟩)
      clear hkb hko hsv HT HS3 hsvl
      go_quiet (fail)
      have h5 := HG.out nq
      generalize World.drewN w4 nq = w5 at h5 ⊢
      generalize (if c4 = i3 then A4 else A4.map (fun x => x.add i3)) = Ax4
      obtain ⟨hr5, hown5, g5⟩ := h5
      clear HG hcv q1 f1 kn1 x0 x1 x2 hh4 hrd4 hc4 hm4 hm4' hown4 g4 HR4 gs
      obtain ⟨i5, hi5⟩ : ∃ i5, i5 = i3 + n2 := ⟨_, rfl⟩
      rw [← hi5] at HTe hle2
      have gs : IntKind.i64.wrap ((i3 : Int) + (n2 : Int)) = (i5 : Int) := by rw [IntKind.wrap_i64]; omega
      have HR5 := Lib.hid hr5
      obtain ⟨A5, c5, hh5, _⟩ := hr5
      obtain ⟨x0, x1, x2, y0, y1, y2⟩ := cells3 hh5
      have HI5 := Lib.hid hi5
      clear hi5 hh5
      go_upto_region 13 with fail
      have hi5 := HI5.out
      have h6 : RefAt (w5.setCell ⟨R, 1, none⟩ (.int .i64 (i5 : Int))) base R bs i5 0 := HR5.out.put i5 (by omega)
      have o6 := hown5.rdr (grown_set (p := ⟨R, 1, none⟩) w5 rfl (.int .i64 (i5 : Int))) hRl
      have g6 := g5.trans (grown_set (p := ⟨R, 1, none⟩) w5 rfl (.int .i64 (i5 : Int)))
      clear x0 x1 x2 y0 y1 y2 gs HR5 hown5 g5
      generalize World.setCell w5 _ _ = w6 at h6 o6 g6 ⊢
      have HR6 := Lib.hid h6
      obtain ⟨A6, c6, hh6, hc6, hm6, hi6, hb6R, hrd6⟩ := h6
      obtain ⟨x0, x1, x2, _, _, _⟩ := cells3 hh6
      have hm6' : c6 ≤ 9223372036854775807 := by unfold maxLen at hm6; omega
      have hle3 : i5 + n3 ≤ bs.length := by omega
      have hcv := conv_cut hrd6 hc6 hm6 (i := i5) (n := n3) hle3
      obtain ⟨e, he⟩ : ∃ e, e = withV (takeE kb.data.toList) ((bs.drop i5).take n3) := ⟨_, rfl⟩
      have hev : (⟨((bs.drop i5).take n3).toArray⟩ : ByteArray) = e.value := by rw [he]; rfl
      rw [hev] at hcv
      rw [← he, List.drop_drop] at HTe
      have HE := Lib.hid he
      have gn3 : IntKind.i64.wrap (n3 : Int) = (n3 : Int) := by rw [IntKind.wrap_i64]; omega
      have gs : IntKind.i64.wrap ((i5 : Int) + (n3 : Int)) = (i5 : Int) + (n3 : Int) := by rw [IntKind.wrap_i64]; omega
      have HG : Hid (∀ q, RefAt (w6.drewN q) base R bs i5 0 ∧ OE (w6.drewN q) w.heap.size _ acc ∧ w.grownBy (w6.drewN q) (some R)) := Lib.hid (fun q => ⟨HR6.out.drewN q, o6.drewN q, g6.trans (gdrewR w6 q R)⟩)
      clear he hev hi5 gn2
      go_quiet (fail)
      have h7 := HG.out nq
      generalize World.drewN w6 nq = w7 at h7 ⊢
      generalize (if c6 = i5 then A6 else A6.map (fun x => x.add i5)) = Ax6
      obtain ⟨hr7, hown7, g7⟩ := h7
      clear HG hcv x0 x1 x2 hh6 hrd6 hc6 hm6 hm6' o6 g6 HR6 gs
      obtain ⟨i7, hi7⟩ : ∃ i7, i7 = i5 + n3 := ⟨_, rfl⟩
      rw [← hi7] at HTe hle3
      have gs : IntKind.i64.wrap ((i5 : Int) + (n3 : Int)) = (i7 : Int) := by rw [IntKind.wrap_i64]; omega
      have HR7 := Lib.hid hr7
      obtain ⟨A7, c7, hh7, _⟩ := hr7
      obtain ⟨x0, x1, x2, y0, y1, y2⟩ := cells3 hh7
      have HI7 := Lib.hid hi7
      clear hi7 hh7
      go_wp2_with fail
      have h8 : RefAt (w7.setCell ⟨R, 1, none⟩ (.int .i64 (i7 : Int))) base R bs i7 0 := HR7.out.put i7 (by omega)
      have o8 := hown7.rdr (grown_set (p := ⟨R, 1, none⟩) w7 rfl (.int .i64 (i7 : Int))) hRl
      have g8 := g7.trans (grown_set (p := ⟨R, 1, none⟩) w7 rfl (.int .i64 (i7 : Int)))
      clear x0 x1 x2 y0 y1 y2 gs gn3 HR7 hown7 g7
      generalize World.setCell w7 _ _ = w8 at h8 o8 g8 ⊢
      have HI := Lib.hid (rTake_any kb w8 hks)
      have g8s := g8.size
      cases hik : isKey kb.data.toList with
      | false =>
        have htv : takeV kb.data.toList = .tuple #[.agg #[.string .empty, .int .u64 0, .int .u8 0, .string .empty], .int .i64 80] := by unfold takeV; rw [hik]; rfl
        rw [htv] at HI
        rw [hik, if_neg (by decide)] at HTe
        clear htv hik
        refine HI.out.mono ?_
        rintro _ w9 ⟨rfl, hb9⟩
        have g9 := grown_lo g8 (hb9.mono g8s)
        go_wp2_with fail
        go_ret
        exact ⟨_, [], rfl, OE.nil_ _ _, grown_lo g9 ((balloc (bself w9) _).mono g9.size), Lib.hid ⟨.inr ⟨readUp_none HU.out.1 HTe.out, rfl⟩, fun e he => by cases he⟩, by simp⟩
      | true =>
        have htv : takeV kb.data.toList = .tuple #[.agg #[.string e.user, .int .u64 (e.seq.toNat : Int), .int .u8 (e.kind.toNat : Int), .string ⟨#[]⟩], .int .i64 0] := by unfold takeV; rw [if_pos hik, HE.out]; rfl
        rw [htv] at HI
        rw [hik, if_pos rfl] at HTe
        clear htv hik HE
        have HS : Hid (readUp n0 (bs.drop i0) k (acc ++ [e]) (bs.drop i7) kb.data.toList ∧ (∀ x ∈ acc ++ [e], x.user.size ≤ 1024 ∧ x.value.size ≤ 1073741824) ∧ kb.size ≤ 1032 ∧ i + 1 ≤ i7) := Lib.hid (by
          obtain ⟨q1, q2, q3, q4⟩ := takeB1_le HTe.out
          rw [List.length_drop] at q3 q4
          rw [List.length_drop] at q4
          refine ⟨readUp_step HU.out.1 HTe.out, fun x hx => ?_, by rw [← toList_size]; exact q1, by omega⟩
          rcases List.mem_append.1 hx with hx | hx
          · exact HU.out.2 x hx
          · rw [List.mem_singleton] at hx
            subst hx
            omega)
        clear HU HTe
        refine HI.out.mono ?_
        rintro _ w9 ⟨rfl, hb9⟩
        have g9 := grown_lo g8 (hb9.mono g8s)
        have h9 := h8.lo hb9 h8.lt
        have o9 := o8.below hb9 (Nat.le_refl _)
        have g9s := g9.size
        clear HI h8 o8 g8
        have o10 := o9.alloc (.cells #[.string e.user, .int .u64 (e.seq.toNat : Int), .int .u8 (e.kind.toNat : Int), .string e.value] 40)
        have hal : acc.length ≤ 1073741824 := by omega
        go_wp2_with (at_builtin; refine wl_appE rfl (.tmp 134) (.tmp 136) rfl w.heap.size _ acc rfl o10 e (g := w9.heap.size + 1) (by simp) rfl (by simp only [maxLen]; omega) (Fits.one _ _ (by omega)) (by simp; omega) ?_; intro v11 w11 o11 _ hb11)
        go_roundw
        case rel =>
          obtain ⟨h1, h2, h3, h4⟩ := HS.out
          have b10 := balloc (bself w9) (.cells #[.string e.user, .int .u64 (e.seq.toNat : Int), .int .u8 (e.kind.toNat : Int), .string e.value] 40)
          exact ⟨k, acc ++ [e], kb, i7, by go_num, by omega, rfl, h3, o11, (h9.lo b10 h9.lt).lo hb11 hRl, by rw [List.length_append, List.length_singleton]; omega, hle3, grown_lo (grown_lo g9 (b10.mono g9s)) hb11, Lib.hid ⟨h1, h2⟩⟩
        case measure => simp [intOf]
end Go.Proofs.Ytoccmedadiangaa
