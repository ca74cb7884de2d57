/-
  What is proved here: what the closure of Seek, sort.Search by that closure and the reference's First come to, at this seat's numbers. Conditions: the lists' lengths.
-/
import Derived.Test.YtchjknbideoieaaGreatDoorK03
import Derived.Test.YtchjknbideoieaaGreatDoorK25
import Derived.Test.YtchjknbideoieaaGreatDoorK17
namespace Go.Proofs.YtchjknbideoieaaGreatDoor
open Go.RowKit
set_option maxRecDepth 100000 in
@[go_sem] theorem binOp_string_gtr_own (t : TypeId) (a b : ByteArray) : binOp .gtr t (.string a) (.string b) = pure (.bool !(Op.bytesLess a.toList b.toList || a.toList == b.toList)) := by simp [binOp, Op.stringOp]
theorem find_at (p : Ent → Bool) : ∀ (l : List Ent) (h : Nat), h ≤ l.length → (∀ t, t < h → p (l.getD t ent0) = false) → (h < l.length → p (l.getD h ent0) = true) → l.find? p = l[h]?
  | [], h, hh, _, _ => by
    have : h = 0 := by simpa using hh
    subst this
    rfl
  | a :: l, 0, _, _, h2 => by
    have := h2 (by simp)
    rw [List.getD_cons_zero] at this
    rw [List.find?_cons, this]
    rfl
  | a :: l, h + 1, hh, h1, h2 => by
    have h0 := h1 0 (by omega)
    rw [List.getD_cons_zero] at h0
    rw [List.find?_cons, h0, List.getElem?_cons_succ]
    refine find_at p l h (by simpa using hh) (fun t ht => ?_) (fun hl => ?_)
    · have := h1 (t + 1) (by omega)
      rwa [List.getD_cons_succ] at this
    · have := h2 (by simpa using hl)
      rwa [List.getD_cons_succ] at this
abbrev keyQ (user : ByteArray) (seq : UInt64) : Ent := ⟨user, seq, 0, ⟨#[]⟩⟩
theorem firstE_getD (l : List Ent) (k : Nat) (q : Ent) (hk : k < l.length) (hp : ∀ t, t < k → (!aheadE (l.getD t ent0) q) = false) (h : (!aheadE (l.getD k ent0) q) = true) : firstE l q = some l[k] := by
  unfold firstE
  rw [find_at (fun e => !aheadE e q) l k (by omega) hp (fun _ => h), List.getElem?_eq_getElem hk]
theorem firstE_none (l : List Ent) (q : Ent) (hp : ∀ t, t < l.length → (!aheadE (l.getD t ent0) q) = false) : firstE l q = none := by
  unfold firstE
  rw [find_at (fun e => !aheadE e q) l l.length (Nat.le_refl _) hp (fun h => by omega), List.getElem?_eq_none (Nat.le_refl _)]
theorem ent0_V : entV ent0 = .agg #[.string ⟨#[]⟩, .int .u64 0, .int .u8 0, .string ⟨#[]⟩] := by
  simp [ent0]
set_option maxRecDepth 100000 in
set_option maxHeartbeats 2000000 in
theorem rFirst_any (v : Value) (l : List Ent) (user : ByteArray) (seq : UInt64) (w : World) (hv : SE w w.heap.size v l) :
    Calls Tryz.prog 13 #[v, .string user, .int .u64 (seq.toNat : Int)] w fun e w' => e = .returned (.tuple #[entV ((firstE l (keyQ user seq)).getD ent0), .bool (firstE l (keyQ user seq)).isSome]) ∧ Below w.heap.size w w' := by
  obtain ⟨A, c, rfl, hc, hm, hr⟩ := hv
  have hm' : c ≤ 9223372036854775807 := by unfold maxLen at hm; omega
  clear hm
  go_enter Tryz.func13, Tryz.ntmps13
  go_wp2_with fail
  obtain ⟨W0, hW0⟩ : ∃ W0, W0 = w.alloc (.cells #[.string ⟨#[]⟩, .int .u64 0, .int .u8 0, .string ⟨#[]⟩] 29) := ⟨_, rfl⟩
  have hrow : W0.heap[w.heap.size]? = some (.cells #[.string ⟨#[]⟩, .int .u64 0, .int .u8 0, .string ⟨#[]⟩] 29 (0, 0)) := by rw [hW0]; exact heap_alloc_new w _
  have b0 : Below w.heap.size w W0 := by rw [hW0]; exact balloc (bself w) _
  have hlt0 : w.heap.size < W0.heap.size := (Array.getElem?_eq_some_iff.1 hrow).1
  change Code.wp _ _ _ _ (w.alloc (.cells #[.string ⟨#[]⟩, .int .u64 0, .int .u8 0, .string ⟨#[]⟩] 29))
  rw [← hW0]
  clear hW0
  go_loopw [8] (fun i wr => ∃ k : Nat, i = .int .i64 k ∧ k ≤ l.length ∧ Below W0.heap.size W0 wr ∧ Hid (∀ t, t < k → (!aheadE (l.getD t ent0) (keyQ user seq)) = false)) (fun i _ => l.length - (intOf i).toNat)
  case atStart => exact ⟨0, rfl, Nat.zero_le _, Below.refl _ _, Lib.hid (fun t ht => by omega)⟩
  case round =>
    obtain ⟨k, rfl, hk, hbr, HP⟩ := hrel
    by_cases hlt : k < l.length
    · have hbw := bstep b0 hbr
      obtain ⟨b, o, rfl, hb, c0, c1, c2, c3⟩ := (hr.below hbw).ent rfl (k := k) hlt
      have hg : l.getD k ent0 = l[k] := by rw [List.getD_eq_getElem?_getD, List.getElem?_eq_getElem hlt]; rfl
      obtain ⟨x, hx⟩ : ∃ x, x = l[k] := ⟨_, rfl⟩
      rw [← hx] at c0 c1 c2 c3 hg
      have HX := Lib.hid (And.intro hx hg)
      have HA : Hid (Calls Tryz.prog 33 #[.agg #[.string x.user, .int .u64 (x.seq.toNat : Int), .int .u8 (x.kind.toNat : Int), .string x.value], .agg #[.string user, .int .u64 (seq.toNat : Int), .int .u8 0, .string ⟨#[]⟩]] wr fun e w' => e = .returned (.bool (aheadE x (keyQ user seq))) ∧ Below wr.heap.size wr w') := Lib.hid (rAhead_any x (keyQ user seq) wr)
      clear hx hg
      have hbs := hbw.size
      cases haq : aheadE x (keyQ user seq) with
      | true =>
        rw [haq] at HA
        have HQ := Lib.hid haq
        clear haq
        go_wp2_with (go_at_call 33; refine HA.out.mono ?_; rintro _ w5 ⟨rfl, hb5⟩)
        go_roundw
        case rel =>
          refine ⟨k + 1, by go_num, by omega, bstep hbr hb5, Lib.hid (fun t ht => ?_)⟩
          rcases Nat.lt_or_ge t k with h1 | h1
          · exact HP.out t h1
          · obtain rfl : t = k := by omega
            rw [HX.out.2, HQ.out]
            rfl
        case measure => simp [intOf]; omega
      | false =>
        rw [haq] at HA
        have HF1 : Hid (firstE l (keyQ user seq) = some x) := Lib.hid (by
          rw [HX.out.1]
          refine firstE_getD l k _ hlt HP.out ?_
          rw [HX.out.2, haq]
          rfl)
        clear haq
        go_wp2_with fail
        refine HA.out.mono ?_
        rintro _ w5 ⟨rfl, hb5⟩
        have d0 := (hb5.cell (p := ⟨b, o + k * 4, none⟩) (by show b < _; omega)).trans c0
        have d1 := (hb5.cell (p := ⟨b, o + k * 4 + 1, none⟩) (by show b < _; omega)).trans c1
        have d2 := (hb5.cell (p := ⟨b, o + k * 4 + 2, none⟩) (by show b < _; omega)).trans c2
        have d3 := (hb5.cell (p := ⟨b, o + k * 4 + 3, none⟩) (by show b < _; omega)).trans c3
        have hrow5 := ((bstep hbr hb5).block _ hlt0).trans hrow
        obtain ⟨⟨x0, x1, x2, x3⟩, y0, y1, y2, y3⟩ := cells4 hrow5
        have b5 := bstep hbw hb5
        clear c0 c1 c2 c3 HA HP HX hb5 hrow5
        go_wp2_with fail
        exact bodyPost_ret (v := .tuple #[.agg #[.string x.user, .int .u64 (x.seq.toNat : Int), .int .u8 (x.kind.toNat : Int), .string x.value], .bool true]) (by simp [results, Tryz.results13, go_sem, x0, x1, x2, x3] <;> rfl) rfl ⟨by rw [HF1.out]; rfl, (((b5.setCell (Nat.le_refl _) _).setCell (Nat.le_refl _) _).setCell (Nat.le_refl _) _).setCell (Nat.le_refl _) _⟩
    · have hkl : k = l.length := by omega
      subst hkl
      have HF1 := Lib.hid (firstE_none l (keyQ user seq) HP.out)
      have hbw := bstep b0 hbr
      have hrow5 := (hbr.block _ hlt0).trans hrow
      obtain ⟨⟨x0, x1, x2, x3⟩, y0, y1, y2, y3⟩ := cells4 hrow5
      clear HP hrow5 hrow
      go_wp2_with fail
      exact bodyPost_ret (v := .tuple #[.agg #[.string ⟨#[]⟩, .int .u64 0, .int .u8 0, .string ⟨#[]⟩], .bool false]) (by simp [results, Tryz.results13, go_sem, x0, x1, x2, x3] <;> rfl) rfl ⟨by rw [HF1.out]; rfl, (((hbw.setCell (Nat.le_refl _) _).setCell (Nat.le_refl _) _).setCell (Nat.le_refl _) _).setCell (Nat.le_refl _) _⟩
end Go.Proofs.YtchjknbideoieaaGreatDoor
