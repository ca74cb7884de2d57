/-
  What is proved here: what batch.Join comes to; the call of the statement BatchJoins returns true and turns nothing that was there. Conditions: the lists' lengths, the texts' lengths.
-/
import Derived.Test.YtkioalfmffamhaaRowOps
import Derived.Test.YtkioalfmffamhaaBatchEntriesW
namespace Go.Proofs.Ytkioalfmffamhaa
open Go.RowKit

/-- slices of operations, one behind the other -/
def SOs (w : World) (B : Nat) : List Value → List (List Opn) → Prop
  | [], [] => True
  | v :: vs, l :: ls => SO w B v l ∧ SOs w B vs ls
  | _, _ => False
theorem SOs.get {w : World} {B : Nat} : ∀ {vs : List Value} {ls : List (List Opn)}, SOs w B vs ls → vs.length = ls.length ∧ ∀ k (hk : k < ls.length) (hk' : k < vs.length), SO w B vs[k] ls[k]
  | [], [], _ => ⟨rfl, fun k hk => by simp at hk⟩
  | v :: vs, l :: ls, h => by
    obtain ⟨h1, h2⟩ := SOs.get h.2
    refine ⟨by simp [h1], fun k hk hk' => ?_⟩
    cases k with
    | zero => exact h.1
    | succ k => exact h2 k (by simpa using hk) (by simpa using hk')
  | [], _ :: _, h => h.elim
  | _ :: _, [], h => h.elim
theorem flat_take_snoc {α : Type} (ls : List (List α)) (k : Nat) (hk : k < ls.length) : (ls.take (k + 1)).flatten = (ls.take k).flatten ++ ls[k] := by
  rw [List.take_succ_eq_append_getElem hk, List.flatten_append]; simp
theorem flat_take_le {α : Type} (ls : List (List α)) (k : Nat) (hk : k < ls.length) : (ls.take k).flatten.length + ls[k].length ≤ ls.flatten.length := by
  have h := flat_take_snoc ls k hk
  have e : ls.flatten = (ls.take (k + 1)).flatten ++ (ls.drop (k + 1)).flatten := by rw [← List.flatten_append, List.take_append_drop]
  rw [e, h]
  simp only [List.length_append]
  omega

set_option maxHeartbeats 1000000 in
theorem bJoin_any (v : Value) (vs : List Value) (ls : List (List Opn)) (w : World) (hv : Sl w w.heap.size 1 v vs.length vs) (hs : SOs w w.heap.size vs ls) (hlen : ls.flatten.length ≤ 3000000000000) :
    Calls Try.prog 20 #[v] w fun e w' => ∃ r, e = .returned r ∧ OO w' w.heap.size r ls.flatten ∧ Below w.heap.size w w' := by
  obtain ⟨hvl, hget⟩ := hs.get
  obtain ⟨A, c, rfl, hlc, hcm, hr⟩ := hv
  have hcm' : c ≤ 9223372036854775807 := by unfold maxLen at hcm; omega
  clear hcm hs
  have HG := Lib.hid hget
  have HL := Lib.hid hlen
  have HV := Lib.hid hvl
  clear hget hlen hvl
  go_enter Try.func20, Try.ntmps20
  go_wp2
  go_loopw [3, 8] (fun x i wr => ∃ k : Nat, i = .int .i64 k ∧ k ≤ vs.length ∧ OO wr w.heap.size x (ls.take k).flatten ∧ Below w.heap.size w wr) (fun _ i _ => vs.length - (intOf i).toNat)
  case atStart => exact ⟨0, rfl, Nat.zero_le _, OO.nil_ _ _, Below.refl _ _⟩
  case round =>
    obtain ⟨k, rfl, hk, hown, hbr⟩ := hrel
    have hsz := hbr.size
    by_cases hlt : k < vs.length
    · obtain ⟨b, o, rfl, hb, hc⟩ := (hr.below hbr).at_ (by omega)
      have c0 := hc k vs[k] (List.getElem?_eq_getElem hlt)
      have hkl : k < ls.length := HV.out ▸ hlt
      have hsk := Sl.below (HG.out k hkl hlt) hbr
      have hsn := flat_take_snoc ls k hkl
      have hle := flat_take_le ls k hkl
      obtain ⟨x, hx⟩ : ∃ x, x = vs[k] := ⟨_, rfl⟩
      rw [← hx] at c0 hsk
      have HX := Lib.hid (And.intro hsn hle)
      clear hx hc hsn hle
      go_wp2_with (at_builtin; refine wl_appOs rfl (.tmp 12) (.tmp 13) rfl w.heap.size _ _ rfl hown _ _ _ rfl hsk (by have := HX.out.2; have := HL.out; simp only [maxLen]; omega) (Fits.of _ _ _ (by have := HX.out.2; have := HL.out; omega)) hsz ?_; intro v2 w2 hown2 _ _ hb2)
      go_roundw
      case rel => exact ⟨k + 1, by go_num, by omega, by rw [HX.out.1]; exact hown2, hbr.trans hb2⟩
      case measure => simp [intOf]; omega
    · go_wp2
      go_ret
      refine ⟨_, rfl, ?_, hbr⟩
      rw [List.take_of_length_le (by have := HV.out; omega)] at hown
      exact hown

theorem own_store3 {w : World} {base e g n cap : Nat} {xs : List Value} (h : w.ownsRow base e 3 (.slice (some ⟨g, 0, none⟩) n cap) n xs) (k : Nat) (u0 u1 u2 : Value) :
    (∃ ys, (((w.setCell ⟨g, k * 3, none⟩ u0).setCell ⟨g, k * 3 + 1, none⟩ u1).setCell ⟨g, k * 3 + 2, none⟩ u2).ownsRow base e 3 (.slice (some ⟨g, 0, none⟩) n cap) n ys) ∧
    w.grownBy (((w.setCell ⟨g, k * 3, none⟩ u0).setCell ⟨g, k * 3 + 1, none⟩ u1).setCell ⟨g, k * 3 + 2, none⟩ u2) (some g) := by
  obtain ⟨a1, a2⟩ := h.stored (k * 3) u0
  obtain ⟨b1, b2⟩ := a1.stored (k * 3 + 1) u1
  obtain ⟨c1, c2⟩ := b1.stored (k * 3 + 2) u2
  exact ⟨⟨_, c1⟩, (a2.trans b2).trans c2⟩
theorem bytesOps_append (l m : List Opn) : bytesOps (l ++ m) = bytesOps l + bytesOps m := by simp [bytesOps]
theorem sizeOps_append (l m : List Opn) : sizeOps (l ++ m) = sizeOps l + sizeOps m := by simp [sizeOps]

set_option maxHeartbeats 2000000 in
theorem batchJoins_any (seq : UInt64) (u v : Value) (l m : List Opn) (w : World) (hu : SO w w.heap.size u l) (hv : SO w w.heap.size v m) (hok : ∀ o ∈ l, OpOk o) (hok' : ∀ o ∈ m, OpOk o) (hlen : l.length ≤ 1500000) (hlen' : m.length ≤ 1500000) :
    Calls Try.prog 5 #[.int .u64 (seq.toNat : Int), u, v] w fun e w' => e = .returned (.bool true) ∧ Below w.heap.size w w' := by
  have hlm : Fits l.length m.length 48 := Fits.of _ _ _ (by omega)
  obtain ⟨A1, c1, rfl, _, _, _⟩ := id hu
  obtain ⟨A2, c2, rfl, _, _, _⟩ := id hv
  go_enter Try.func5, Try.ntmps5
  go_wp2_with fail
  refine (shown_any w).mono ?_
  rintro e w1 ⟨rfl, hb1⟩
  go_wp2_with fail
  refine (light_any _ l w1 (SO.on hu hb1) hok).mono ?_
  rintro e w2 ⟨rfl, hb2⟩
  have hb2' := bstep hb1 hb2
  by_cases hl : lightB l = true
  · have hby := lightB_bytes hl
    go_wp2_with fail
    refine (light_any _ m w2 (SO.on hv hb2') hok').mono ?_
    rintro e w3 ⟨rfl, hb3⟩
    have hb3' := bstep hb2' hb3
    by_cases hl2 : lightB m = true
    · have hby2 := lightB_bytes hl2
      go_wp2_with fail
      refine (bJoin_any _ [.slice A1 l.length c1, .slice A2 m.length c2] [l, m] _ ⟨_, _, rfl, Nat.le_refl _, by simp [maxLen], Rd.newBlock w3 #[.slice A1 l.length c1, .slice A2 m.length c2] _ rfl (by simp) rfl⟩ ⟨(Sl.below hu hb3').alloc hb3'.size _ |>.more (by have := hb3'.size; simp; omega), (Sl.below hv hb3').alloc hb3'.size _ |>.more (by have := hb3'.size; simp; omega), trivial⟩ (by simp; omega)).mono ?_
      rintro e w4 ⟨x4, rfl, hown4, hb4⟩
      have hb4' := bstep (balloc hb3' _) hb4
      simp only [List.flatten_cons, List.flatten_nil, List.append_nil] at hown4
      obtain ⟨n, hn⟩ : ∃ n, n = (l ++ m).length := ⟨_, rfl⟩
      obtain ⟨A4, c4, hx4, _, _, _⟩ := id hown4.so
      rw [← hn] at hx4
      subst hx4
      have hn2 : n ≤ 3000000 := by rw [hn]; simp; omega
      have HN := Lib.hid hn
      clear hn
      go_wp2_with fail
      refine (bEntries_any seq _ l w4 (SO.on hu hb4') (by omega)).mono ?_
      rintro e w5 ⟨x5, rfl, hown5, hb5⟩
      have hb5' := bstep hb4' hb5
      go_wp2_with fail
      rw [u64_addk seq l.length (by omega)]
      refine (bEntries_any _ _ m w5 (SO.on hv hb5') (by omega)).mono ?_
      rintro e w6 ⟨x6, rfl, hown6, hb6⟩
      have hb6' := bstep hb5' hb6
      have hown5' := OE.below hown5 hb6 (Nat.le_refl _)
      have hle5 : (entsFrom seq l).length + (entsFrom (seq + UInt64.ofNat l.length) m).length ≤ maxLen := by
        rw [entsFrom_length, entsFrom_length]; simp only [maxLen]; omega
      have hfi5 : Fits (entsFrom seq l).length (entsFrom (seq + UInt64.ofNat l.length) m).length 48 := by rw [entsFrom_length, entsFrom_length]; exact hlm
      have hsz6 : w4.heap.size ≤ w6.heap.size := (bstep hb5 hb6).size
      go_wp2_with (at_builtin; refine wl_appEs rfl (.tmp 31) (.tmp 38) rfl w4.heap.size _ _ rfl hown5' _ _ _ rfl hown6.se hle5 hfi5 hsz6 ?_; intro v7 w7 hown7 _ _ hb7)
      have hb47 : Below w4.heap.size w4 w7 := (bstep hb5 hb6).trans hb7
      have hb7' := bstep hb4' hb47
      rw [← entsFrom_append] at hown7
      have hs4 : SO w7 w7.heap.size (.slice A4 n c4) (l ++ m) := SO.on hown4.so hb47
      refine (bEntries_any seq _ (l ++ m) w7 hs4 (by simp; omega)).mono ?_
      rintro e w8 ⟨x8, rfl, hown8, hb8⟩
      have hb8' := bstep hb7' hb8
      have hb48 := bstep hb47 hb8
      go_wp2_with fail
      refine (bSize_any _ (l ++ m) w8 (SO.on hown4.so hb48) (by simp; omega) (by rw [bytesOps_append]; omega)).mono ?_
      rintro e w9 ⟨rfl, hb9⟩
      have hb9' := bstep hb8' hb9
      have hb49 := bstep hb48 hb9
      have hown9 := hown4.below hb49 (Nat.le_refl _)
      have hw34 : w.heap.size < (w3.alloc (.cells #[.slice A1 l.length c1, .slice A2 m.length c2] 23)).heap.size := by have := hb3'.size; simp; omega
      have hlt4 := hown4.lt
      have hownx : w9.ownsRow w.heap.size 37 3 (.slice A4 n c4) n ((l ++ m).flatMap opC) := by
        have h := (hown9.rebase (base' := w.heap.size) (by omega))
        unfold OO at h
        rw [← HN.out] at h
        exact h
      clear hs4 hown9
      go_wp2_with fail
      go_loopw [47] (fun i wr => ∃ (k : Nat) (xs : List Value), i = .int .i64 k ∧ k ≤ n ∧ wr.ownsRow w.heap.size 37 3 (.slice A4 n c4) n xs ∧ w9.grownBy wr (Value.slice A4 n c4).ownBlock) (fun i _ => n - (intOf i).toNat)
      case atStart => exact ⟨0, _, rfl, Nat.zero_le _, hownx, World.grownBy.refl _ _⟩
      case round =>
        obtain ⟨k, xs, rfl, hk, hown, hgr⟩ := hrel
        by_cases hlt : k < n
        · obtain ⟨g, cap, hv4, _, _⟩ := hown.form (by omega)
          injection hv4 with e1 _ e3
          subst e1; subst e3
          have hxl : xs.length = n * 3 := hown.1
          have d0 := hown.cellAt (k * 3) (by omega)
          have d1 := hown.cellAt (k * 3 + 1) (by omega)
          have d2 := hown.cellAt (k * 3 + 2) (by omega)
          rw [List.getElem?_eq_getElem (by omega)] at d0 d1 d2
          have f0 := hown.frozenAt (k * 3)
          have f1 := hown.frozenAt (k * 3 + 1)
          have f2 := hown.frozenAt (k * 3 + 2)
          have hst := own_store3 hown k (.int .u8 0) (.string ⟨#[111, 116, 104, 101, 114]⟩) (.string ⟨#[]⟩)
          have HST := Lib.hid hst
          obtain ⟨y0, hy0⟩ : ∃ y, xs[k * 3]'(by omega) = y := ⟨_, rfl⟩
          obtain ⟨y1, hy1⟩ : ∃ y, xs[k * 3 + 1]'(by omega) = y := ⟨_, rfl⟩
          obtain ⟨y2, hy2⟩ : ∃ y, xs[k * 3 + 2]'(by omega) = y := ⟨_, rfl⟩
          rw [hy0] at d0
          rw [hy1] at d1
          rw [hy2] at d2
          clear hy0 hy1 hy2 hst hown hxl
          go_wp2
          go_roundw
          case rel => exact ⟨k + 1, _, by go_num, by omega, HST.out.1.choose_spec, hgr.trans HST.out.2⟩
          case measure => simp [intOf]; omega
        · have hbg : ∀ g, (Value.slice A4 n c4).ownBlock = some g → (w3.alloc (.cells #[.slice A1 l.length c1, .slice A2 m.length c2] 23)).heap.size ≤ g ∧ g < w4.heap.size := hlt4
          have hbr' : Below w.heap.size w wr := below_grown hb9' hgr hb9'.size (fun g hg => by have := (hbg g hg).1; omega)
          have hown7' : OE wr w4.heap.size v7 (entsFrom seq (l ++ m)) := (OE.below (OE.below hown7 hb8 (Nat.le_refl _)) hb9 (Nat.le_refl _)).grown hgr (by
            rcases hv : v7.ownBlock with _ | g7
            · exact .inl rfl
            · right
              intro e
              have h1 := (hown7.lt g7 hv).1
              have h2 := (hbg g7 e.symm).2
              omega)
          have hown8' : OE wr w7.heap.size x8 (entsFrom seq (l ++ m)) := (OE.below hown8 hb9 (Nat.le_refl _)).grown hgr (by
            rcases hv : x8.ownBlock with _ | g7
            · exact .inl rfl
            · right
              intro e
              have h1 := (hown8.lt g7 hv).1
              have h2 := (hbg g7 e.symm).2
              have h3 := hb47.size
              omega)
          clear hown hgr hlt4 hownx
          go_wp2_with fail
          refine (bJoin_any _ [.slice A1 l.length c1, .slice none 0 0, .slice A2 m.length c2] [l, [], m] _ ⟨_, _, rfl, Nat.le_refl _, by simp [maxLen], Rd.newBlock wr #[.slice A1 l.length c1, .slice none 0 0, .slice A2 m.length c2] _ rfl (by simp) rfl⟩ ⟨(Sl.below hu hbr').alloc hbr'.size _ |>.more (by have := hbr'.size; simp; omega), Sl.nil_ _ _ _, (Sl.below hv hbr').alloc hbr'.size _ |>.more (by have := hbr'.size; simp; omega), trivial⟩ (by simp; omega)).mono ?_
          rintro e w11 ⟨x11, rfl, hown11, hb11⟩
          have hb11' := bstep (balloc hbr' _) hb11
          have hbx := bstep (balloc (bself wr) _) hb11
          simp only [List.flatten_cons, List.flatten_nil, List.append_nil, List.nil_append] at hown11
          have hs7 := SE.on hown7'.se hbx
          have hs8 := SE.on hown8'.se hbx
          clear hown7' hown8' hown7 hown8
          go_wp2_with fail
          refine (rSame_true v7 x8 _ w11 hs7 hs8).mono ?_
          rintro e w12 ⟨rfl, hb12⟩
          have hb12' := bstep hb11' hb12
          go_wp2_with fail
          refine (bSize_any _ l w12 (SO.on hu hb12') (by omega) (by omega)).mono ?_
          rintro e w13 ⟨rfl, hb13⟩
          have hb13' := bstep hb12' hb13
          go_wp2_with fail
          refine (bSize_any _ m w13 (SO.on hv hb13') (by omega) (by omega)).mono ?_
          rintro e w14 ⟨rfl, hb14⟩
          have hb14' := bstep hb13' hb14
          have hbx2 := bstep (bstep hb12 hb13) hb14
          have hsum : ((sizeOps (l ++ m) : Nat) : Int) = (sizeOps l : Int) + (sizeOps m : Int) := by rw [sizeOps_append]; simp
          have hz1 : sizeOps l ≤ 20000000 := by rw [sizeOps_bytes]; omega
          have hz2 : sizeOps m ≤ 20000000 := by rw [sizeOps_bytes]; omega
          go_wp2_with fail
          refine (bEntries_any seq _ (l ++ m) w14 (SO.on hown11.so hbx2) (by simp; omega)).mono ?_
          rintro e w15 ⟨x15, rfl, hown15, hb15⟩
          have hb15' := bstep hb14' hb15
          go_wp2_with fail
          refine (rSame_true x15 x8 _ w15 hown15.se (SE.on hs8 (bstep hbx2 hb15))).mono ?_
          rintro e w16 ⟨rfl, hb16⟩
          go_wp2
          go_ret
          exact ⟨rfl, bstep hb15' hb16⟩
    · have hl' : lightB m = false := by simpa using hl2
      clear hl2
      go_wp2
      go_ret
      exact ⟨rfl, hb3'⟩
  · have hl' : lightB l = false := by simpa using hl
    clear hl
    go_wp2
    go_ret
    exact ⟨rfl, hb2'⟩
end Go.Proofs.Ytkioalfmffamhaa
