/-
  What is proved here: what Read of package block comes to, at this seat's numbers. Conditions: the bytes' number.
-/
import Derived.Test.YtoccmedadiangaaBlockW10
import Derived.Test.YtoccmedadiangaaRowEnt
namespace Go.Proofs.Ytoccmedadiangaa
open Go.RowKit

theorem RdrAt.lo {w w' : World} {R B : Nat} {rest : List UInt8} {bad : Nat} (h : RdrAt w R rest bad) (hb : Below B w w') (hB : R < B) : RdrAt w' R rest bad := by
  obtain ⟨A, c, h1, h2, h3, h4⟩ := h
  exact ⟨A, c, (hb.block R hB).trans h1, h2, h3, h4.keep fun p hp => hb.cell (by omega)⟩
theorem OE.rdr {w w' : World} {base R : Nat} {v : Value} {l : List Ent} (h : OE w base v l) (hg : w.grownBy w' (some R)) (hR : R < base) : OE w' base v l := h.grown hg (by
  rcases hv : v.ownBlock with _ | x
  · exact .inl rfl
  · right
    intro e2
    have h1 := (h.lt x hv).1
    have h2 : x = R := by injection e2
    omega)
/-- the answer of Read: its entries in memory, the fault -/
def ReadPost (w : World) (r : List Ent × Nat) (en : Ending) (w' : World) : Prop := ∃ v, en = .returned (.tuple #[v, .int .i64 (r.2 : Int)]) ∧ OE w' w.heap.size v r.1 ∧ Below w.heap.size w w'
/-- so many entries on the way -/
def readUp (n : Nat) (s0 : List UInt8) (k : Nat) (acc : List Ent) (s last : List UInt8) : Prop := readL n s0 [] = (readL k s last).map (acc ++ ·)
theorem readUp_step {n k : Nat} {s0 s last key r : List UInt8} {acc : List Ent} {e : Ent} (h : readUp n s0 (k + 1) acc s last) (ht : takeB1 (s, 0) last = some (e, key, r)) : readUp n s0 k (acc ++ [e]) r key := by
  unfold readUp at h ⊢
  rw [h, readL, ht]
  simp only
  cases readL k r key with
  | none => rfl
  | some l => simp
theorem readUp_none {n k : Nat} {s0 s last : List UInt8} {acc : List Ent} (h : readUp n s0 (k + 1) acc s last) (ht : takeB1 (s, 0) last = none) : readL n s0 [] = none := by
  unfold readUp at h
  rw [h, readL, ht]
  rfl
theorem readUp_end {n : Nat} {s0 s last : List UInt8} {acc : List Ent} (h : readUp n s0 0 acc s last) : readL n s0 [] = some acc := by
  unfold readUp at h
  rw [h, readL]
  simp
section
variable {b s1 s2 : List UInt8} {ev n b1 b2 : Nat}
theorem readB_h (e1 : sNum (b, 0) = (ev, s1, b1)) (e2 : sNum (s1, b1) = (n, s2, b2)) :
    readB b = if b2 ≠ 0 ∨ 1024 < ev then ([], 100) else match readL n s2 [] with | none => ([], 100) | some l => if buildB (ev : Nat) l = (b, 0) then (l, 0) else ([], 100) := by
  unfold readB
  rw [e1]
  simp only [e2]
  rfl
end
set_option maxRecDepth 100000 in
set_option maxHeartbeats 2000000 in
theorem kRead_any (v : Value) (b : List UInt8) (w : World) (hv : SB w w.heap.size v b) (hl : b.length ≤ 1073741824) :
    Calls Try.prog 13 #[v] w (ReadPost w (readB b)) := by
  obtain ⟨ev, s1, b1, e1⟩ : ∃ n1 s1 b1, sNum (b, 0) = (n1, s1, b1) := ⟨_, _, _, rfl⟩
  obtain ⟨n, s2, b2, e2⟩ : ∃ n2 s2 b2, sNum (s1, b1) = (n2, s2, b2) := ⟨_, _, _, rfl⟩
  have hR := readB_h e1 e2
  have l1 := sNum_len (b, 0)
  have l2 := sNum_len (s1, b1)
  have m1 := sNum_lt (b, 0)
  have m2 := sNum_lt (s1, b1)
  rw [e1] at l1 m1
  rw [e2] at l2 m2
  dsimp only at l1 l2 m1 m2
  have HR := Lib.hid hR
  have C1 := Lib.hid (fun W R (hr : RdrAt W R b 0) => mNum_any R b 0 W hr)
  have C2 := Lib.hid (fun W R (hr : RdrAt W R s1 b1) => mNum_any R s1 b1 W hr)
  rw [e1] at C1
  rw [e2] at C2
  have hsl2 : s2.length ≤ b.length := by omega
  clear l1 l2 e1 e2 hR
  go_enter Try.func13, Try.ntmps13
  go_wp2_with fail
  refine (cNew_any v b w hv (by omega)).mono ?_
  rintro _ w1 ⟨R, rfl, hRb, hrd, hb1⟩
  go_wp2_with fail
  refine (C1.out _ R hrd.at_).mono ?_
  rintro _ w2 ⟨rfl, hr2, hg2⟩
  try dsimp only at hr2
  go_wp2_with fail
  refine (C2.out _ R hr2).mono ?_
  rintro _ w3 ⟨rfl, hr3, hg3⟩
  try dsimp only at hr3
  have b3 : Below w.heap.size w w3 := hb1.trans (gbelow (hg2.trans hg3) (Nat.le_of_lt hrd.at_.lt) hRb)
  have HF := Lib.hid (mFault_any R s2 b2 w3 hr3)
  clear C1 C2 hg2 hg3 hr2 hrd hb1
  go_upto_region 3 with fail
  by_cases hb : b2 = 0
  case neg =>
    have hb' : (((b2 : Int)) == 0) = false := by rw [beq_eq_false_iff_ne]; omega
    have HB : Hid (readB b = ([], 100)) := Lib.hid (by rw [HR.out, if_pos (.inl hb)])
    go_wp2_with (go_at_call 32; refine HF.out.mono ?_; rintro _ w3 ⟨rfl, rfl⟩)
    exact bodyPost_ret (v := .tuple #[.slice none 0 0, .int .i64 100]) (by simp [results, Try.results13, go_sem] <;> rfl) rfl ⟨_, by rw [HB.out]; rfl, by rw [HB.out]; exact OE.nil_ _ _, b3⟩
  subst hb
  by_cases hev : 1024 < ev
  · have hev' : decide ((1024 : Int) < (ev : Int)) = true := by simp; omega
    have HB : Hid (readB b = ([], 100)) := Lib.hid (by rw [HR.out, if_pos (.inr hev)])
    go_wp2_with (go_at_call 32; refine HF.out.mono ?_; rintro _ w3 ⟨rfl, rfl⟩)
    exact bodyPost_ret (v := .tuple #[.slice none 0 0, .int .i64 100]) (by simp [results, Try.results13, go_sem] <;> rfl) rfl ⟨_, by rw [HB.out]; rfl, by rw [HB.out]; exact OE.nil_ _ _, b3⟩
  have hev' : decide ((1024 : Int) < (ev : Int)) = false := by simp; omega
  have HR2 : Hid (readB b = match readL n s2 [] with | none => ([], 100) | some l => if buildB (ev : Nat) l = (b, 0) then (l, 0) else ([], 100)) := Lib.hid (by rw [HR.out, if_neg (by omega)])
  clear HR
  have hR3 := hr3.lt
  go_wp2_with (go_at_call 32; refine HF.out.mono ?_; rintro _ w3 ⟨rfl, rfl⟩)
  clear HF
  have hbs : w.heap.size ≤ w3.heap.size := b3.size
  go_loopw [6, 7, 8] (fun nv lv sv wr => ∃ (k : Nat) (acc : List Ent) (last : ByteArray) (s : List UInt8), nv = .int .u64 k ∧ k < 18446744073709551616 ∧ sv = .string last ∧ last.size ≤ 1032 ∧ OE wr w3.heap.size lv acc ∧ RdrAt wr R s 0 ∧ acc.length + s.length ≤ b.length ∧ Below w.heap.size w wr ∧ w3.heap.size ≤ wr.heap.size ∧ Hid (readUp n s2 k acc s last.data.toList ∧ ∀ e ∈ acc, e.user.size ≤ 1024 ∧ e.value.size ≤ 1073741824)) (fun nv _ _ _ => (intOf nv).toNat)
  case atStart => exact ⟨n, [], ⟨#[]⟩, s2, rfl, m2, rfl, by decide, OE.nil_ _ _, hr3, by simpa using hsl2, b3, Nat.le_refl _, Lib.hid ⟨by simp [readUp], fun e he => by cases he⟩⟩
  case round =>
    obtain ⟨k, acc, last, s, rfl, hk, rfl, hls, hown, hrd, hlen, hbw, hsz, HU⟩ := hrel
    by_cases hk0 : k = 0
    · subst hk0
      have HB3 : Hid (readB b = if buildB (ev : Nat) acc = (b, 0) then (acc, 0) else ([], 100)) := Lib.hid (by rw [HR2.out, readUp_end HU.out.1])
      have hal : acc.length ≤ 1073741824 := by omega
      have HK := Lib.hid (kBuild_any _ acc (ev : Int) wr hown.se (by omega) (fun e he => by have := HU.out.2 e he; omega) (by omega) (by omega))
      obtain ⟨bs, f, hbf⟩ : ∃ bs f, buildB (ev : Int) acc = (bs, f) := ⟨_, _, rfl⟩
      rw [hbf] at HK HB3
      have gev : IntKind.i64.wrap (ev : Int) = (ev : Int) := by rw [IntKind.wrap_i64]; omega
      have hvr := hv.on hbw
      clear HR2 HU hbf hev' hlen hls hrd hk hv
      go_wp2_with fail
      refine HK.out.mono ?_
      rintro _ w6 ⟨x, rfl, hox, hb6⟩
      have b6 := bstep hbw hb6
      clear HK
      by_cases hf : f = 0
      · subst hf
        have HQ := Lib.hid (kEqual_any x v bs b w6 hox.sb (hvr.on hb6))
        by_cases hbb : bs = b
        · have hd : decide (bs = b) = true := by simp [hbb]
          rw [hd] at HQ
          have HB4 : Hid (readB b = (acc, 0)) := Lib.hid (by rw [HB3.out, hbb, if_pos rfl])
          clear HB3 hbb hd
          go_wp2_with (go_at_call 34; refine HQ.out.mono ?_; rintro _ w7 ⟨rfl, hb7⟩)
          exact bodyPost_ret (by simp [results, Try.results13, go_sem] <;> rfl) rfl ⟨_, by rw [HB4.out]; rfl, by rw [HB4.out]; exact ((hown.below hb6 (Nat.le_refl _)).below hb7 (Nat.le_refl _)).rebase hbs, bstep b6 hb7⟩
        · have hd : decide (bs = b) = false := by simp [hbb]
          rw [hd] at HQ
          have HB4 : Hid (readB b = ([], 100)) := Lib.hid (by rw [HB3.out, if_neg (fun e => hbb (congrArg Prod.fst e))])
          clear HB3 hbb hd
          go_wp2_with (go_at_call 34; refine HQ.out.mono ?_; rintro _ w7 ⟨rfl, hb7⟩)
          exact bodyPost_ret (v := .tuple #[.slice none 0 0, .int .i64 100]) (by simp [results, Try.results13, go_sem] <;> rfl) rfl ⟨_, by rw [HB4.out]; rfl, by rw [HB4.out]; exact OE.nil_ _ _, bstep b6 hb7⟩
      · have hf' : (((f : Int)) == 0) = false := by rw [beq_eq_false_iff_ne]; omega
        have HB4 : Hid (readB b = ([], 100)) := Lib.hid (by rw [HB3.out, if_neg (fun e => hf (congrArg Prod.snd e))])
        clear HB3
        go_wp2_with fail
        exact bodyPost_ret (v := .tuple #[.slice none 0 0, .int .i64 100]) (by simp [results, Try.results13, go_sem] <;> rfl) rfl ⟨_, by rw [HB4.out]; rfl, by rw [HB4.out]; exact OE.nil_ _ _, b6⟩
    · have hk1 : decide ((0 : Int) < (k : Int)) = true := by simp; omega
      have gk : IntKind.u64.wrap ((k : Int) - 1) = ((k - 1 : Nat) : Int) := by rw [IntKind.wrap_u64]; omega
      have HT := Lib.hid (kTake_any R s last wr hrd (by omega) (by omega))
      have hRl := hrd.lt
      go_wp2_with fail
      refine HT.out.mono ?_
      rintro _ w5 ⟨e, kv, ok, r, rfl, hg5, HT5⟩
      clear HT
      have b5 : Below w.heap.size w w5 := hbw.trans (gbelow hg5 (Nat.le_of_lt hRl) hRb)
      have hown5 := hown.rdr hg5 hR3
      cases ok with
      | false =>
        have HB : Hid (readB b = ([], 100)) := Lib.hid (by
          have h1 := HT5.out.1
          rw [if_neg (by decide)] at h1
          have h2 := HU.out.1
          rw [show k = (k - 1) + 1 from by omega] at h2
          rw [HR2.out, readUp_none h2 h1])
        go_wp2_with fail
        exact bodyPost_ret (v := .tuple #[.slice none 0 0, .int .i64 100]) (by simp [results, Try.results13, go_sem] <;> rfl) rfl ⟨_, by rw [HB.out]; rfl, by rw [HB.out]; exact OE.nil_ _ _, balloc b5 _⟩
      | true =>
        have HS : Hid (readUp n s2 (k - 1) (acc ++ [e]) r kv.data.toList ∧ (∀ x ∈ acc ++ [e], x.user.size ≤ 1024 ∧ x.value.size ≤ 1073741824) ∧ kv.size ≤ 1032 ∧ r.length + 1 ≤ s.length ∧ RdrAt w5 R r 0) := Lib.hid (by
          have h1 := HT5.out.1
          rw [if_pos rfl] at h1
          have h2 := HU.out.1
          rw [show k = (k - 1) + 1 from by omega] at h2
          obtain ⟨q1, q2, q3, q4⟩ := takeB1_le h1
          refine ⟨readUp_step h2 h1, fun x hx => ?_, by rw [← toList_size]; exact q1, q4, HT5.out.2 rfl⟩
          rcases List.mem_append.1 hx with hx | hx
          · exact HU.out.2 x hx
          · rw [List.mem_singleton] at hx
            subst hx
            omega)
        have hs5 : w3.heap.size ≤ w5.heap.size := Nat.le_trans hsz hg5.size
        have hal : acc.length ≤ 1073741824 := by omega
        have hown6 := hown5.alloc (.cells #[.string e.user, .int .u64 (e.seq.toNat : Int), .int .u8 (e.kind.toNat : Int), .string e.value] 40)
        clear HT5 HU hg5
        go_wp2_with (at_builtin; (refine wl_appE rfl (.tmp 40) (.tmp 42) rfl w3.heap.size _ acc rfl hown6 e (g := w5.heap.size + 1) (by simp) rfl (by simp only [maxLen]; omega) (Fits.one _ _ (by omega)) (by simp; omega) ?_); intro v7 w7 hown7 _ hb7)
        go_roundw
        case rel =>
          obtain ⟨h1, h2, h3, h4, h5⟩ := HS.out
          have b6 := balloc b5 (.cells #[.string e.user, .int .u64 (e.seq.toNat : Int), .int .u8 (e.kind.toNat : Int), .string e.value] 40)
          exact ⟨k - 1, acc ++ [e], kv, r, by go_num, by omega, rfl, h3, hown7, (h5.on (balloc (bself w5) _) (Nat.le_refl _)).lo hb7 hR3, by rw [List.length_append, List.length_singleton]; omega, b6.trans (hb7.mono hbs), Nat.le_trans (by simp; omega) hb7.size, Lib.hid ⟨h1, h2⟩⟩
        case measure => simp [intOf]; omega
end Go.Proofs.Ytoccmedadiangaa
