/-
  What is proved here: whether all entries may be, by slices.ContainsFunc and by the reference, at this seat's numbers. Condition: the list's length.
-/
import Derived.Test.YtoccmedadiangaaBlockW3
import Derived.Shelf.Abstract
namespace Go.Proofs.Ytoccmedadiangaa
open Go.RowKit

set_option maxHeartbeats 1000000 in
theorem kBad_any (e : Ent) (w : World) (hu : e.user.size ≤ 9223372036854775807) (hv : e.value.size ≤ 9223372036854775807) :
    Calls Try.prog 20 #[entV e] w fun en w' => en = .returned (.bool (!rightE e)) ∧ Below w.heap.size w w' := by
  have HR := Lib.hid (fun W => iRight_any e W hu hv)
  go_enter Try.func20, Try.ntmps20
  go_wp2_with (go_at_call 21; refine (HR.out _).mono ?_; rintro _ w1 ⟨rfl, hb1⟩)
  go_ret
  exact ⟨rfl, bstep (balloc (bself w) _) hb1⟩
set_option maxHeartbeats 1000000 in
theorem kIndex_any (v : Value) (l : List Ent) (w : World) (hv : SE w w.heap.size v l) (hl : l.length ≤ 140737488351232) (hz : ∀ e ∈ l, e.user.size ≤ 9223372036854775807 ∧ e.value.size ≤ 9223372036854775807) :
    Calls Try.prog 40 #[v, .func (.func 20) #[] #[]] w fun en w' => ∃ i : Int, en = .returned (.int .i64 i) ∧ Hid (decide (0 ≤ i) = !(l.all rightE)) ∧ Below w.heap.size w w' := by
  obtain ⟨A, c, rfl, hc, hm, hr⟩ := hv
  have hm' : c ≤ 9223372036854775807 := by unfold maxLen at hm; omega
  have HZ := Lib.hid hz
  clear hz
  have eg : ∀ args w, (callFunc 20 args).run Try.prog w = .ok (.enter 20 args) w := enters_of Try.func20 (by kernel_rfl) rfl
  go_enter Try.func40, Try.ntmps40
  go_wp2
  go_loopw [5, 8] (fun _ i wr => ∃ k : Nat, i = .int .i64 k ∧ k ≤ l.length ∧ Hid (∀ j (hj : j < l.length), j < k → rightE l[j] = true) ∧ Below w.heap.size w wr) (fun _ i _ => l.length - (intOf i).toNat)
  case atStart => exact ⟨0, rfl, Nat.zero_le _, fun j hj h0 => by omega, bself w⟩
  case round =>
    obtain ⟨k, rfl, hk, hp, hbr⟩ := hrel
    by_cases hlt : k < l.length
    · obtain ⟨b, o, rfl, hb, c0, c1, c2, c3⟩ := (hr.below hbr).ent rfl (k := k) hlt
      obtain ⟨x, hx⟩ : ∃ x, x = l[k] := ⟨_, rfl⟩
      have hxz := HZ.out l[k] (List.getElem_mem hlt)
      rw [← hx] at c0 c1 c2 c3 hxz
      have HB := Lib.hid (fun W => kBad_any x W hxz.1 hxz.2)
      have HX := Lib.hid hx
      clear hx hxz
      cases hR : rightE x with
      | true =>
        simp only [hR, Bool.not_true, Bool.not_false] at HB
        go_wp2_with (go_at_fn 20; refine (HB.out _).mono ?_; rintro _ w2 ⟨rfl, hb2⟩)
        go_roundw
        case rel =>
          refine ⟨k + 1, by go_num, by omega, Lib.hid (fun j hj hjk => ?_), bstep hbr hb2⟩
          rcases Nat.lt_or_ge j k with h1 | h1
          · exact hp.out j hj h1
          · have e : j = k := by omega
            subst e; rw [← HX.out]; exact hR
        case measure => simp [intOf]; omega
      | false =>
        simp only [hR, Bool.not_true, Bool.not_false] at HB
        go_wp2_with (go_at_fn 20; refine (HB.out _).mono ?_; rintro _ w2 ⟨rfl, hb2⟩)
        go_ret
        refine ⟨_, rfl, Lib.hid ?_, bstep hbr hb2⟩
        have : l.all rightE = false := by
          rw [List.all_eq_false]
          exact ⟨x, by rw [HX.out]; exact List.getElem_mem hlt, by rw [hR]; simp⟩
        rw [this]
        simp
    · go_wp2
      go_ret
      refine ⟨_, rfl, Lib.hid ?_, hbr⟩
      have : l.all rightE = true := by
        rw [List.all_eq_true]
        intro x hx
        obtain ⟨j, hj, rfl⟩ := List.getElem_of_mem hx
        exact hp.out j hj (by omega)
      rw [this]
      rfl
set_option maxHeartbeats 1000000 in
theorem kContains_any (v : Value) (l : List Ent) (w : World) (hv : SE w w.heap.size v l) (hl : l.length ≤ 140737488351232) (hz : ∀ e ∈ l, e.user.size ≤ 9223372036854775807 ∧ e.value.size ≤ 9223372036854775807) :
    Calls Try.prog 19 #[v, .func (.func 20) #[] #[]] w fun en w' => en = .returned (.bool (!(l.all rightE))) ∧ Below w.heap.size w w' := by
  have HI := Lib.hid (kIndex_any v l w hv hl hz)
  go_enter Try.func19, Try.ntmps19
  go_wp2_with (go_at_call 40; refine HI.out.mono ?_; rintro _ w2 ⟨i, rfl, hi, hb2⟩)
  go_ret
  exact ⟨by rw [← hi.out]; rfl, hb2⟩
set_option maxHeartbeats 1000000 in
theorem rRightL_any (v : Value) (l : List Ent) (w : World) (hv : SE w w.heap.size v l) (hl : l.length ≤ 140737488351232) (hz : ∀ e ∈ l, e.user.size ≤ 9223372036854775807 ∧ e.value.size ≤ 9223372036854775807) :
    Calls Try.prog 25 #[v] w fun en w' => en = .returned (.bool (rightL l)) ∧ Below w.heap.size w w' := by
  have hv0 := Lib.hid hv
  obtain ⟨A, c, rfl, hc, hm, hr⟩ := hv
  have hm' : c ≤ 9223372036854775807 := by unfold maxLen at hm; omega
  have HZ := Lib.hid hz
  clear hz
  go_enter Try.func25, Try.ntmps25
  go_wp2
  go_loopw [3] (fun i wr => ∃ k : Nat, i = .int .i64 k ∧ k ≤ l.length ∧ Hid (∀ j (hj : j < l.length), j < k → rightE l[j] = true) ∧ Below w.heap.size w wr) (fun i _ => l.length - (intOf i).toNat)
  case atStart => exact ⟨0, rfl, Nat.zero_le _, fun j hj h0 => by omega, bself w⟩
  case round =>
    obtain ⟨k, rfl, hk, hp, hbr⟩ := hrel
    by_cases hlt : k < l.length
    · obtain ⟨b, o, rfl, hb, c0, c1, c2, c3⟩ := (hr.below hbr).ent rfl (k := k) hlt
      obtain ⟨x, hx⟩ : ∃ x, x = l[k] := ⟨_, rfl⟩
      have hxz := HZ.out l[k] (List.getElem_mem hlt)
      rw [← hx] at c0 c1 c2 c3 hxz
      have HB := Lib.hid (fun W => rRight_any x W hxz.1 hxz.2)
      have HX := Lib.hid hx
      clear hx hxz
      cases hR : rightE x with
      | true =>
        rw [hR] at HB
        go_wp2_with (go_at_call 43; refine (HB.out _).mono ?_; rintro _ w2 ⟨rfl, hb2⟩)
        go_roundw
        case rel =>
          refine ⟨k + 1, by go_num, by omega, Lib.hid (fun j hj hjk => ?_), bstep hbr hb2⟩
          rcases Nat.lt_or_ge j k with h1 | h1
          · exact hp.out j hj h1
          · have e : j = k := by omega
            subst e; rw [← HX.out]; exact hR
        case measure => simp [intOf]; omega
      | false =>
        rw [hR] at HB
        go_wp2_with (go_at_call 43; refine (HB.out _).mono ?_; rintro _ w2 ⟨rfl, hb2⟩)
        go_ret
        refine ⟨ret_bool ?_, bstep hbr hb2⟩
        have : l.all rightE = false := by
          rw [List.all_eq_false]
          exact ⟨x, by rw [HX.out]; exact List.getElem_mem hlt, by rw [hR]; simp⟩
        unfold rightL
        rw [this, Bool.and_false]
    · have hall : l.all rightE = true := by
        rw [List.all_eq_true]
        intro x hx
        obtain ⟨j, hj, rfl⟩ := List.getElem_of_mem hx
        exact hp.out j hj (by omega)
      have HRL : Hid (rightL l = risesE l) := Lib.hid (by unfold rightL; rw [hall, Bool.and_true])
      have HRI := Lib.hid (rRises_any _ l wr (hv0.out.on hbr) hl)
      clear hall hp
      go_wp2_with (go_at_call 44; refine HRI.out.mono ?_; rintro _ w2 ⟨rfl, hb2⟩)
      go_ret
      exact ⟨by rw [HRL.out]; rfl, bstep hbr hb2⟩
end Go.Proofs.Ytoccmedadiangaa
