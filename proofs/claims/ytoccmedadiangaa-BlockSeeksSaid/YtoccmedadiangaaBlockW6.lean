/-
  What is proved here: what the reference's Build comes to, at this seat's numbers. Conditions: the list's length, the texts' lengths.
-/
import Derived.Test.YtoccmedadiangaaBlockW5
namespace Go.Proofs.Ytoccmedadiangaa
open Go.RowKit

/-- two rows of the call's own, apart -/
structure Two (w : World) (base : Nat) (vo vp : Value) (out places : List UInt8) : Prop where
  oo : OB w base vo out
  op : OB w base vp places
  ne : vp.ownBlock = none ∨ vp.ownBlock ≠ vo.ownBlock
section
variable {w w' : World} {base : Nat} {vo vp v' : Value} {out out' places places' : List UInt8}
theorem Two.below (h : Two w base vo vp out places) (hb : Below w.heap.size w w') : Two w' base vo vp out places := ⟨h.oo.below hb (Nat.le_refl _), h.op.below hb (Nat.le_refl _), h.ne⟩
theorem own_apart {w : World} {base : Nat} {v u x : Value} {l : List UInt8} (hu : OB w base u l) (h : u.ownBlock = none ∨ u.ownBlock ≠ v.ownBlock) (ho : x.ownBlock = v.ownBlock ∨ x.ownBlock = some w.heap.size) : u.ownBlock = none ∨ u.ownBlock ≠ x.ownBlock := by
  rcases ho with e | e
  · rw [e]; exact h
  · rcases hv : u.ownBlock with _ | y
    · exact .inl rfl
    · right
      have := (hu.lt y hv).2
      rw [e]
      intro e2
      injection e2 with e2
      omega
theorem Two.sym (h : Two w base vo vp out places) : vo.ownBlock = none ∨ vo.ownBlock ≠ vp.ownBlock := by
  rcases hv : vo.ownBlock with _ | y
  · exact .inl rfl
  · right
    intro e
    rcases h.ne with e1 | e1
    · rw [e1] at e; cases e
    · exact e1 (by rw [← e, hv])
theorem Two.appO (h : Two w base vo vp out places) (ho : OB w' base v' out') (hg : w.grownBy w' vo.ownBlock) (hw : v'.ownBlock = vo.ownBlock ∨ v'.ownBlock = some w.heap.size) : Two w' base v' vp out' places :=
  ⟨ho, h.op.grown hg h.ne, own_apart h.op h.ne hw⟩
theorem Two.appP (h : Two w base vo vp out places) (ho : OB w' base v' places') (hg : w.grownBy w' vp.ownBlock) (hw : v'.ownBlock = vp.ownBlock ∨ v'.ownBlock = some w.heap.size) : Two w' base vo v' out places' := by
  refine ⟨h.oo.grown hg h.sym, ho, ?_⟩
  rcases own_apart h.oo h.sym hw with e | e
  · rcases hv : v'.ownBlock with _ | y
    · exact .inl rfl
    · right; rw [e]; intro x; cases x
  · right; intro x; exact e x.symm
end
set_option maxRecDepth 100000 in
set_option maxHeartbeats 2000000 in
theorem rBuild_any (v : Value) (l : List Ent) (ev : Int) (w : World) (hv : SE w w.heap.size v l) (hl : l.length ≤ 140737488351232) (hz : ∀ e ∈ l, e.user.size ≤ 9223372036854775807 ∧ e.value.size ≤ 9223372036854775807) (he1 : -9223372036854775808 ≤ ev) (he2 : ev ≤ 9223372036854775807) :
    Calls Try.prog 12 #[v, .int .i64 ev] w (BuildPost w (buildB ev l)) := by
  by_cases h1 : ev < 1
  · have HB : Hid (buildB ev l = ([], 1)) := Lib.hid (build_arg (fun h => by omega))
    go_enter Try.func12, Try.ntmps12
    go_wp2_with fail
    exact bodyPost_ret (v := .tuple #[.slice none 0 0, .int .i64 1]) (by simp [results, Try.results12, go_sem] <;> rfl) rfl ⟨_, by rw [HB.out]; rfl, by rw [HB.out]; exact OB.nil_ _ _, bself w⟩
  by_cases h2 : 1024 < ev
  · have HB : Hid (buildB ev l = ([], 1)) := Lib.hid (build_arg (fun h => by omega))
    go_enter Try.func12, Try.ntmps12
    go_wp2_with fail
    exact bodyPost_ret (v := .tuple #[.slice none 0 0, .int .i64 1]) (by simp [results, Try.results12, go_sem] <;> rfl) rfl ⟨_, by rw [HB.out]; rfl, by rw [HB.out]; exact OB.nil_ _ _, bself w⟩
  obtain ⟨en, rfl⟩ : ∃ n : Nat, ev = (n : Int) := ⟨ev.toNat, by omega⟩
  have hen1 : 1 ≤ en := by omega
  have hen2 : en ≤ 1024 := by omega
  have HRI := Lib.hid (rRightL_any v l w hv hl hz)
  cases hri : rightL l with
  | false =>
    have HB : Hid (buildB (en : Int) l = ([], 1)) := Lib.hid (build_arg (fun h => by rw [hri] at h; exact absurd h.2.2 (by simp)))
    rw [hri] at HRI
    go_enter Try.func12, Try.ntmps12
    go_wp2_with fail
    refine HRI.out.mono ?_
    rintro _ w1 ⟨rfl, hb1⟩
    go_wp2_with fail
    exact bodyPost_ret (v := .tuple #[.slice none 0 0, .int .i64 1]) (by simp [results, Try.results12, go_sem] <;> rfl) rfl ⟨_, by rw [HB.out]; rfl, by rw [HB.out]; exact OB.nil_ _ _, hb1⟩
  | true =>
    rw [hri] at HRI
    have HOK : Hid (1 ≤ en ∧ en ≤ 1024 ∧ rightL l = true) := Lib.hid ⟨hen1, hen2, hri⟩
    clear hri
    go_enter Try.func12, Try.ntmps12
    go_wp2_with fail
    refine HRI.out.mono ?_
    rintro _ w1 ⟨rfl, hb1⟩
    go_wp2_with fail
    refine (rNum_any en w1 (by omega)).mono ?_
    rintro _ w2 ⟨r2, rfl, ho2, hb2⟩
    have b2 := bstep hb1 hb2
    obtain ⟨A, c, rfl, hc, hm, hr⟩ := id hv
    go_wp2_with fail
    refine (rNum_any l.length w2 (by omega)).mono ?_
    rintro _ w3 ⟨r3, rfl, ho3, hb3⟩
    have b3 := bstep b2 hb3
    have hl20 := num_length en
    have hl21 := num_length l.length
    go_upto_region 9 with (at_builtin; refine wl_appB rfl (.tmp 27) (.tmp 31) rfl w.heap.size _ (num en) rfl ((ho2.rebase hb1.size).below hb3 (Nat.le_refl _)) w3.heap.size _ (num l.length) rfl ho3.sb (by omega) b3.size ?_; intro v4 w4 ho4 hg4 hw4 hb4)
    have b4 := b3.trans hb4
    have t4 : Two w4 w.heap.size v4 (.slice none 0 0) (outAt en l 0) [] := ⟨ho4, OB.nil_ _ _, .inl rfl⟩
    clear ho2 ho3 ho4 hg4 hw4 hb1 hb2 hb3 hb4 b2 b3 HRI hl20 hl21
    have HIN : Hid ((outAt en l 0).length ≤ 1048576) := Lib.hid (by have := num_length en; have := num_length l.length; simp only [outAt, List.length_append]; omega)
    go_wp2
    go_loopw [6, 7, 8, 9, 10] (fun vo vp sn sl i wr => ∃ k : Nat, i = .int .i64 k ∧ k ≤ l.length ∧ sn = .int .u64 (startsAt en k : Nat) ∧ (∃ last : ByteArray, sl = .string last ∧ Hid (last.data.toList = lastAt l k) ∧ last.size ≤ 2000) ∧ Two wr w.heap.size vo vp (outAt en l k) (placesAt en l k) ∧ Hid ((outAt en l k).length ≤ 1048576) ∧ Below w.heap.size w wr) (fun _ _ _ _ i _ => l.length - (intOf i).toNat)
    case atStart => exact ⟨0, rfl, Nat.zero_le _, rfl, ⟨_, rfl, Lib.hid rfl, Nat.zero_le _⟩, t4, HIN, b4⟩
    case round =>
      obtain ⟨k, rfl, hk, rfl, ⟨last, rfl, hla, hls⟩, t1, hol, hbr⟩ := hrel
      by_cases hlt : k < l.length
      · obtain ⟨b, o, rfl, hb, _, _, _, cw3⟩ := hr.ent rfl (k := k) hlt
        obtain ⟨b', o', he, hb', c0, c1, c2, c3⟩ := (hr.below hbr).ent rfl (k := k) hlt
        injection he with he
        injection he with he1 he2
        subst he1; subst he2
        obtain ⟨x, hx⟩ : ∃ x, x = l[k] := ⟨_, rfl⟩
        rw [← hx] at c0 c1 c2 c3 cw3
        have hxr : rightE x = true := by rw [hx]; exact (rightL_all HOK.out.2.2).2 _ (List.getElem_mem hlt)
        have HG : Hid (l.getD k ent0 = x) := Lib.hid (by rw [hx, List.getD_eq_getElem?_getD, List.getElem?_eq_getElem hlt]; rfl)
        clear hx
        obtain ⟨hxu, hxv⟩ := rightE_le hxr
        have hkl := lay_le hxr
        obtain ⟨Ky, hKy⟩ : ∃ Ky : ByteArray, (⟨(layE x).toArray⟩ : ByteArray) = Ky := ⟨_, rfl⟩
        have hKd : Ky.data.toList = layE x := by rw [← hKy]
        have hKs : Ky.size = (layE x).length := by rw [← toList_size Ky, hKd]
        have hKs1 : Ky.size ≤ 1032 := by omega
        have HKL := Lib.hid (fun W => rLay_any x W (by omega))
        rw [hKy] at HKL
        have HD := Lib.hid (And.intro hKd hKs)
        clear hKy hKd hKs hkl
        obtain ⟨base0, hbase0⟩ : ∃ b, b = w.heap.size := ⟨_, rfl⟩
        go_upto_region 12 with (go_at_call 27; refine (HKL.out _).mono ?_; rintro _ w1' ⟨rfl, hb1⟩)
        have t1' := t1.below hb1
        have b1' := bstep hbr hb1
        clear HKL hb1 t1 hbr c0 c1 c2 c3
        go_upto_region 13 with (go_at_call 28; refine (rShared_any last Ky _ (by omega) (by omega)).mono ?_; rintro _ w2' ⟨rfl, n2, rfl⟩)
        have t2 := t1'.below (brefl w1' n2)
        have b2 := bdrewN b1' n2
        clear t1' b1'
        generalize World.drewN w1' n2 = w2 at t2 b2 ⊢
        have hge := out_ge en l k
        have hpl := places_le en l k
        have hst := starts_le en k
        have hol2 := hol.out
        have g1 : ¬ en = 0 := by omega
        obtain ⟨O, hO⟩ : ∃ O, outAt en l k = O := ⟨_, rfl⟩
        have HO := Lib.hid hO
        rw [hO] at t2 hge hol2
        clear hO
        by_cases h0 : k % en = 0
        · have g3 : ((k : Int) % (en : Int) == 0) = true := by rw [beq_iff_eq, ← Int.natCast_emod]; omega
          have g4 : (((k : Int)).tmod (en : Int) == 0) = true := by rw [← g3, ← Int.ofNat_tmod, ← Int.natCast_emod]
          obtain ⟨Ao, co, rfl, _, _, _⟩ := t2.oo.sb
          go_upto_region 16 with (first
            | (go_at_call 29; refine (rFix_any O.length 4 w2 (by omega) (by omega) (by omega)).mono ?_; rintro _ w2a ⟨r2a, rfl, hoa, hba⟩; have t2a := t2.below hba; have b2a := bstep b2 hba)
            | (at_builtin; refine wl_appB rfl (.tmp 51) (.tmp 55) rfl w.heap.size u7 (placesAt en l k) rfl t2a.op w2a.heap.size _ (fix O.length (fixN 4)) rfl hoa.sb (by rw [fix_length, show fixN 4 = 4 from rfl]; omega) b2a.size ?_; intro v2b w2b hob hgb hwb hbb; have t2b := t2a.appP hob hgb hwb; have b2b := b2a.trans hbb))
          go_upto_region 17 with fail
          clear t2 b2 t2a b2a hoa hba hob hgb hwb hbb g3 g4
          have t2 := t2b
          have b2 := b2b
          clear t2b b2b
          generalize w2b = w2 at t2 b2 ⊢
          have hdl := num_length Ky.size
          have hkl2 := num_length 0
          have hvl := num_length x.value.size
          have hb0 : base0 = w.heap.size := hbase0
          have m2 := (b2.cell (p := ⟨b, o + k * 4 + 3, none⟩) hb).trans cw3
          go_upto_region 18 with (first
            | (go_at_call 26; refine (rNum_any 0 w2 (by omega)).mono ?_; rintro _ w3 ⟨r3, rfl, ho3, hb3⟩; have t3 := t2.below hb3; have b3 := bstep b2 hb3)
            | (at_builtin; refine wl_appB rfl (.tmp 59) (.tmp 62) rfl w.heap.size _ O rfl t3.oo w3.heap.size _ (num 0) rfl ho3.sb (by omega) b3.size ?_; intro v4 w4 ho4 hg4 hw4 hb4; have t4 := t3.appO ho4 hg4 hw4; have b4 := b3.trans hb4))
          go_upto_region 19 with (first
            | (go_at_call 26; refine (rNum_any Ky.size w4 (by omega)).mono ?_; rintro _ w5 ⟨r5, rfl, ho5, hb5⟩; have t5 := t4.below hb5; have b5 := bstep b4 hb5)
            | (at_builtin; refine wl_appB rfl (.tmp 64) (.tmp 70) rfl w.heap.size _ (O ++ num 0) rfl t5.oo w5.heap.size _ (num Ky.size) rfl ho5.sb (by simp only [List.length_append]; omega) b5.size ?_; intro v6 w6 ho6 hg6 hw6 hb6; have t6 := t5.appO ho6 hg6 hw6; have b6 := b5.trans hb6))
          have m6 := (b6.cell (p := ⟨b, o + k * 4 + 3, none⟩) hb).trans cw3
          go_upto_region 20 with (first
            | (go_at_call 26; refine (rNum_any x.value.size w6 (by omega)).mono ?_; rintro _ w7 ⟨r7, rfl, ho7, hb7⟩; have t7 := t6.below hb7; have b7 := bstep b6 hb7)
            | (at_builtin; refine wl_appB rfl (.tmp 72) (.tmp 80) rfl w.heap.size _ (O ++ num 0 ++ num Ky.size) rfl t7.oo w7.heap.size _ (num x.value.size) rfl ho7.sb (by simp only [List.length_append]; omega) b7.size ?_; intro v8 w8 ho8 hg8 hw8 hb8; have t8 := t7.appO ho8 hg8 hw8; have b8 := b7.trans hb8))
          obtain ⟨O8, hO8⟩ : ∃ o8 : List UInt8, Hid (O ++ num 0 ++ num Ky.size ++ num x.value.size = o8) := ⟨_, Lib.hid rfl⟩
          rw [hO8.out] at t8
          have hO8l : O8.length ≤ 1048606 := by rw [← hO8.out]; simp only [List.length_append]; omega
          clear m2 m6 ho8 ho3 ho4 ho5 ho6 ho7 hg4 hg6 hg8 hw4 hw6 hw8 hb3 hb4 hb5 hb6 hb7 hb8 t2 t3 t4 t5 t6 t7 b2 b3 b4 b5 b6 b7 hdl hkl2 hvl
          go_upto_region 21 with (first
            | (refine wl_s2b (o := ⟨some 86, _, _, _, _, _⟩) rfl (.tmp 85) rfl (Ky) rfl (by have := hKs1; simp only [maxLen]; omega) ?_; intro v9 w9 hs9 _ hb9 _; have t9 := t8.below hb9; have b9 := bstep b8 hb9)
            | (at_builtin; refine wl_appB rfl (.tmp 82) (.tmp 86) rfl w.heap.size _ O8 rfl t9.oo w9.heap.size _ (Ky).data.toList rfl hs9 (by rw [toList_size]; have := hKs1; omega) b9.size ?_; intro v10 w10 ho10 hg10 hw10 hb10; have t10 := t9.appO ho10 hg10 hw10; have b10 := b9.trans hb10))
          obtain ⟨O10, hO10⟩ : ∃ o8 : List UInt8, Hid (O8 ++ (Ky).data.toList = o8) := ⟨_, Lib.hid rfl⟩
          rw [hO10.out] at t10
          have hO10l : O10.length ≤ 1049700 := by rw [← hO10.out, List.length_append, toList_size]; have := hKs1; omega
          have m10 := (b10.cell (p := ⟨b, o + k * 4 + 3, none⟩) hb).trans cw3
          clear t8 t9 b8 b9 hs9 hb9 hb10 ho10 hg10 hw10 hO8l
          go_upto_region 22 with (first
            | (refine wl_s2b (o := ⟨some 94, _, _, _, _, _⟩) rfl (.tmp 93) rfl x.value rfl (by simp only [maxLen]; omega) ?_; intro v11 w11 hs11 _ hb11 _; have t11 := t10.below hb11; have b11 := bstep b10 hb11)
            | (at_builtin; refine wl_appB rfl (.tmp 88) (.tmp 94) rfl w.heap.size _ O10 rfl t11.oo w11.heap.size _ x.value.data.toList rfl hs11 (by rw [toList_size]; omega) b11.size ?_; intro v12 w12 ho12 hg12 hw12 hb12; have t12 := t11.appO ho12 hg12 hw12; have b12 := b11.trans hb12))
          have eo : O10 ++ x.value.data.toList = outAt en l (k + 1) := by
            have step : outAt en l (k + 1) = outAt en l k ++ oneB (shareAt en l k) x := by rw [outAt, HG.out]
            rw [step, HO.out, show shareAt en l k = 0 from if_pos h0, ← hO10.out, ← hO8.out, HD.out.1]
            simp [oneB, HD.out.2]
          have ep : placesAt en l k ++ fix O.length (fixN 4) = placesAt en l (k + 1) := by rw [placesAt]; rw [if_pos h0, HO.out]; rfl
          have es : startsAt en k + 1 = startsAt en (k + 1) := by rw [startsAt]; rw [if_pos h0]
          rw [eo, ep] at t12
          clear t10 t11 b10 b11 hs11 hb11 hb12 ho12 hg12 hw12 m10
          obtain ⟨Z, hZ⟩ : ∃ z, outAt en l (k + 1) = z := ⟨_, rfl⟩
          have HZ := Lib.hid hZ
          rw [hZ] at t12
          clear hZ eo
          obtain ⟨A12, c12, rfl, _, _, _⟩ := t12.oo.sb
          by_cases hlong : 1048576 < Z.length
          · have HBL : Hid (buildB (en : Int) l = ([], 4)) := Lib.hid (build_long HOK.out (i := k + 1) (by omega) (by rw [HZ.out]; exact hlong))
            go_wp2_with fail
            exact bodyPost_ret (v := .tuple #[.slice none 0 0, .int .i64 4]) (by simp [results, Try.results12, go_sem] <;> rfl) rfl ⟨_, by rw [HBL.out]; rfl, by rw [HBL.out]; exact OB.nil_ _ _, b12⟩
          · go_wp2_with fail
            go_roundw
            case rel => exact ⟨k + 1, by go_num, by omega, by (try rw [← es]) <;> first | rfl | go_num, ⟨Ky, rfl, Lib.hid (by rw [HD.out.1]; show _ = keyAt l k; unfold keyAt; rw [HG.out]), by omega⟩, by rw [HZ.out]; exact t12, Lib.hid (by rw [HZ.out]; omega), b12⟩
            case measure => simp [intOf]; omega
        · have g3 : ((k : Int) % (en : Int) == 0) = false := by rw [beq_eq_false_iff_ne, ← Int.natCast_emod]; omega
          have g4 : (((k : Int)).tmod (en : Int) == 0) = false := by rw [← g3, ← Int.ofNat_tmod, ← Int.natCast_emod]
          obtain ⟨kk, hkk⟩ : ∃ kk, partAt last.data.toList Ky.data.toList = kk := ⟨_, rfl⟩
          have hkkl := (partAt_le last.data.toList Ky.data.toList).2
          rw [toList_size] at hkkl
          rw [hkk] at hkkl ⊢
          have HKK := Lib.hid hkk
          clear hkk
          obtain ⟨d, hd⟩ : ∃ d : Nat, Ky.size - kk = d := ⟨_, rfl⟩
          have HDD := Lib.hid hd
          have hd1032 : d ≤ 1032 := by omega
          have gd : (Ky.size : Int) - (kk : Int) = (d : Int) := by omega
          clear hd
          have hk0 : (kk : Int) ≤ (Ky.size : Int) := by omega
          go_upto_region 17 with fail
          have hdl := num_length d
          have hkl2 := num_length kk
          have hvl := num_length x.value.size
          have hb0 : base0 = w.heap.size := hbase0
          have m2 := (b2.cell (p := ⟨b, o + k * 4 + 3, none⟩) hb).trans cw3
          go_upto_region 18 with (first
            | (go_at_call 26; refine (rNum_any kk w2 (by omega)).mono ?_; rintro _ w3 ⟨r3, rfl, ho3, hb3⟩; have t3 := t2.below hb3; have b3 := bstep b2 hb3)
            | (at_builtin; refine wl_appB rfl (.tmp 59) (.tmp 62) rfl w.heap.size _ O rfl t3.oo w3.heap.size _ (num kk) rfl ho3.sb (by omega) b3.size ?_; intro v4 w4 ho4 hg4 hw4 hb4; have t4 := t3.appO ho4 hg4 hw4; have b4 := b3.trans hb4))
          go_upto_region 19 with (first
            | (go_at_call 26; refine (rNum_any d w4 (by omega)).mono ?_; rintro _ w5 ⟨r5, rfl, ho5, hb5⟩; have t5 := t4.below hb5; have b5 := bstep b4 hb5)
            | (at_builtin; refine wl_appB rfl (.tmp 64) (.tmp 70) rfl w.heap.size _ (O ++ num kk) rfl t5.oo w5.heap.size _ (num d) rfl ho5.sb (by simp only [List.length_append]; omega) b5.size ?_; intro v6 w6 ho6 hg6 hw6 hb6; have t6 := t5.appO ho6 hg6 hw6; have b6 := b5.trans hb6))
          have m6 := (b6.cell (p := ⟨b, o + k * 4 + 3, none⟩) hb).trans cw3
          go_upto_region 20 with (first
            | (go_at_call 26; refine (rNum_any x.value.size w6 (by omega)).mono ?_; rintro _ w7 ⟨r7, rfl, ho7, hb7⟩; have t7 := t6.below hb7; have b7 := bstep b6 hb7)
            | (at_builtin; refine wl_appB rfl (.tmp 72) (.tmp 80) rfl w.heap.size _ (O ++ num kk ++ num d) rfl t7.oo w7.heap.size _ (num x.value.size) rfl ho7.sb (by simp only [List.length_append]; omega) b7.size ?_; intro v8 w8 ho8 hg8 hw8 hb8; have t8 := t7.appO ho8 hg8 hw8; have b8 := b7.trans hb8))
          obtain ⟨O8, hO8⟩ : ∃ o8 : List UInt8, Hid (O ++ num kk ++ num d ++ num x.value.size = o8) := ⟨_, Lib.hid rfl⟩
          rw [hO8.out] at t8
          have hO8l : O8.length ≤ 1048606 := by rw [← hO8.out]; simp only [List.length_append]; omega
          clear m2 m6 ho8 ho3 ho4 ho5 ho6 ho7 hg4 hg6 hg8 hw4 hw6 hw8 hb3 hb4 hb5 hb6 hb7 hb8 t2 t3 t4 t5 t6 t7 b2 b3 b4 b5 b6 b7 hdl hkl2 hvl
          go_upto_region 21 with (first
            | (refine wl_s2b (o := ⟨some 86, _, _, _, _, _⟩) rfl (.tmp 85) rfl (Ky.extract kk Ky.size) rfl (by have := (show (Ky.extract kk Ky.size).size ≤ 1032 from by rw [ByteArray.size_extract]; omega); simp only [maxLen]; omega) ?_; intro v9 w9 hs9 _ hb9 _; have t9 := t8.below hb9; have b9 := bstep b8 hb9)
            | (at_builtin; refine wl_appB rfl (.tmp 82) (.tmp 86) rfl w.heap.size _ O8 rfl t9.oo w9.heap.size _ (Ky.extract kk Ky.size).data.toList rfl hs9 (by rw [toList_size]; have := (show (Ky.extract kk Ky.size).size ≤ 1032 from by rw [ByteArray.size_extract]; omega); omega) b9.size ?_; intro v10 w10 ho10 hg10 hw10 hb10; have t10 := t9.appO ho10 hg10 hw10; have b10 := b9.trans hb10))
          obtain ⟨O10, hO10⟩ : ∃ o8 : List UInt8, Hid (O8 ++ (Ky.extract kk Ky.size).data.toList = o8) := ⟨_, Lib.hid rfl⟩
          rw [hO10.out] at t10
          have hO10l : O10.length ≤ 1049700 := by rw [← hO10.out, List.length_append, toList_size]; have := (show (Ky.extract kk Ky.size).size ≤ 1032 from by rw [ByteArray.size_extract]; omega); omega
          have m10 := (b10.cell (p := ⟨b, o + k * 4 + 3, none⟩) hb).trans cw3
          clear t8 t9 b8 b9 hs9 hb9 hb10 ho10 hg10 hw10 hO8l
          go_upto_region 22 with (first
            | (refine wl_s2b (o := ⟨some 94, _, _, _, _, _⟩) rfl (.tmp 93) rfl x.value rfl (by simp only [maxLen]; omega) ?_; intro v11 w11 hs11 _ hb11 _; have t11 := t10.below hb11; have b11 := bstep b10 hb11)
            | (at_builtin; refine wl_appB rfl (.tmp 88) (.tmp 94) rfl w.heap.size _ O10 rfl t11.oo w11.heap.size _ x.value.data.toList rfl hs11 (by rw [toList_size]; omega) b11.size ?_; intro v12 w12 ho12 hg12 hw12 hb12; have t12 := t11.appO ho12 hg12 hw12; have b12 := b11.trans hb12))
          have eo : O10 ++ x.value.data.toList = outAt en l (k + 1) := by
            have step : outAt en l (k + 1) = outAt en l k ++ oneB (shareAt en l k) x := by rw [outAt, HG.out]
            rw [step, HO.out, show shareAt en l k = kk from (by unfold shareAt; rw [if_neg h0]; unfold keyAt; rw [HG.out, ← hla.out, ← HD.out.1, HKK.out]), ← hO10.out, ← hO8.out, Lib.extract_to_end, HD.out.1]
            simp [oneB, ← HDD.out, HD.out.2]
          have ep : placesAt en l k = placesAt en l (k + 1) := by rw [placesAt]; rw [if_neg h0]
          have es : startsAt en k = startsAt en (k + 1) := by rw [startsAt]; rw [if_neg h0]
          rw [eo, ep] at t12
          clear t10 t11 b10 b11 hs11 hb11 hb12 ho12 hg12 hw12 m10
          obtain ⟨Z, hZ⟩ : ∃ z, outAt en l (k + 1) = z := ⟨_, rfl⟩
          have HZ := Lib.hid hZ
          rw [hZ] at t12
          clear hZ eo
          obtain ⟨A12, c12, rfl, _, _, _⟩ := t12.oo.sb
          by_cases hlong : 1048576 < Z.length
          · have HBL : Hid (buildB (en : Int) l = ([], 4)) := Lib.hid (build_long HOK.out (i := k + 1) (by omega) (by rw [HZ.out]; exact hlong))
            go_wp2_with fail
            exact bodyPost_ret (v := .tuple #[.slice none 0 0, .int .i64 4]) (by simp [results, Try.results12, go_sem] <;> rfl) rfl ⟨_, by rw [HBL.out]; rfl, by rw [HBL.out]; exact OB.nil_ _ _, b12⟩
          · go_wp2_with fail
            go_roundw
            case rel => exact ⟨k + 1, by go_num, by omega, by (try rw [← es]) <;> first | rfl | go_num, ⟨Ky, rfl, Lib.hid (by rw [HD.out.1]; show _ = keyAt l k; unfold keyAt; rw [HG.out]), by omega⟩, by rw [HZ.out]; exact t12, Lib.hid (by rw [HZ.out]; omega), b12⟩
            case measure => simp [intOf]; omega
      · have hkl : k = l.length := by omega
        subst hkl
        have hpl := places_le en l l.length
        have hst := starts_le en l.length
        have hge := out_ge en l l.length
        have hol2 := hol.out
        have hBB : Hid (outAt en l l.length ++ placesAt en l l.length ++ fix (startsAt en l.length) 4 = blockB en l) := Lib.hid rfl
        generalize outAt en l l.length = O at t1 hBB hol2 hge
        generalize placesAt en l l.length = PL at t1 hBB hpl
        generalize startsAt en l.length = st at hBB hst ⊢
        have hOl : O.length ≤ 1048576 := hol2
        have hPl : PL.length ≤ 4194304 := by omega
        have hSl : st ≤ 1048576 := by omega
        clear hpl hst hge hol2 hol
        go_upto_region 26 with (at_builtin; refine wl_appB rfl (.tmp 100) (.tmp 101) rfl w.heap.size _ O rfl t1.oo wr.heap.size _ PL rfl t1.op.sb (by omega) hbr.size ?_; intro v5 w5 ho5 hg5 hw5 hb5; have b5 := hbr.trans hb5)
        go_upto_region 27 with (first
          | (go_at_call 29; refine (rFix_any st 4 w5 (by omega) (by omega) (by omega)).mono ?_; rintro _ w6 ⟨r6, rfl, ho6, hb6⟩; have b6 := bstep b5 hb6)
          | (at_builtin; refine wl_appB rfl (.tmp 103) (.tmp 105) rfl w.heap.size _ (O ++ PL) rfl (ho5.below hb6 (Nat.le_refl _)) w6.heap.size _ (fix st (fixN 4)) rfl ho6.sb (by simp only [List.length_append, fix_length, show fixN 4 = 4 from rfl]; omega) b6.size ?_; intro v7 w7 ho7 hg7 hw7 hb7; have b7 := b6.trans hb7))
        have ho7 : OB w7 w.heap.size v7 (blockB en l) := by rw [← hBB.out]; exact ho7
        obtain ⟨Z, hZ⟩ : ∃ Z, blockB en l = Z := ⟨_, rfl⟩
        have HZ := Lib.hid hZ
        rw [hZ] at ho7
        clear hZ
        obtain ⟨A7, c7, rfl, _, _, _⟩ := ho7.sb
        by_cases hlong : 1048576 < Z.length
        · have HBL : Hid (buildB (en : Int) l = ([], 4)) := Lib.hid (by rw [build_end HOK.out, HZ.out, if_pos hlong])
          go_wp2_with fail
          exact bodyPost_ret (v := .tuple #[.slice none 0 0, .int .i64 4]) (by simp [results, Try.results12, go_sem] <;> rfl) rfl ⟨_, by rw [HBL.out]; rfl, by rw [HBL.out]; exact OB.nil_ _ _, b7⟩
        · have HBL : Hid (buildB (en : Int) l = (Z, 0)) := Lib.hid (by rw [build_end HOK.out, HZ.out, if_neg hlong])
          go_wp2_with fail
          exact bodyPost_ret (v := .tuple #[.slice A7 Z.length c7, .int .i64 0]) (by simp [results, Try.results12, go_sem] <;> rfl) rfl ⟨_, by rw [HBL.out]; rfl, by rw [HBL.out]; exact ho7, b7⟩
end Go.Proofs.Ytoccmedadiangaa
