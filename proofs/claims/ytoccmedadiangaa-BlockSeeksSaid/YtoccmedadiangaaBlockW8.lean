/-
  What is proved here: which entries are light, at the head of layer 10's statements; Read of no bytes. Conditions: the texts' lengths.
-/
import Derived.Test.YtoccmedadiangaaBlockW6
import Derived.Test.YtoccmedadiangaaReaderW
import Derived.BigQuiet
namespace Go.Proofs.Ytoccmedadiangaa
open Go.RowKit

theorem kRead_nil (w : World) : Calls Try.prog 13 #[.slice none 0 0] w fun e w' => e = .returned (.tuple #[.slice none 0 0, .int .i64 100]) ∧ Below w.heap.size w w' := by
  go_enter Try.func13, Try.ntmps13
  go_wp2_with fail
  refine (cNew_any (.slice none 0 0) [] w (SB.nil_ _ _) (by simp)).mono ?_
  rintro _ w1 ⟨R, rfl, hR, hrd, hb1⟩
  go_wp2_with fail
  refine (mNum_any R [] 0 w1 hrd.at_).mono ?_
  rintro _ w2 ⟨rfl, hr2, hg2⟩
  have hr2 : RdrAt w2 R [] 10 := hr2
  rw [show (sNum ([], 0)).1 = 0 from rfl]
  go_wp2_with fail
  refine (mNum_any R [] 10 w2 hr2).mono ?_
  rintro _ w3 ⟨rfl, hr3, hg3⟩
  have hr3 : RdrAt w3 R [] 10 := hr3
  rw [show (sNum ([], 10)).1 = 0 from rfl]
  go_wp2_with fail
  refine (mFault_any R [] 10 w3 hr3).mono ?_
  rintro _ w4 ⟨rfl, rfl⟩
  have b4 : Below w.heap.size w w4 := hb1.trans (gbelow (hg2.trans hg3) (Nat.le_of_lt hrd.at_.lt) hR)
  go_wp2_with fail
  exact bodyPost_ret (v := .tuple #[.slice none 0 0, .int .i64 100]) (by simp [results, Try.results13, go_sem] <;> rfl) rfl ⟨rfl, b4⟩

/-- which entries are light -/
def lightF : List Ent → Nat → Bool
  | [], _ => true
  | o :: l, left => decide (o.user.size ≤ left) && decide (o.value.size ≤ left - o.user.size) && lightF l (left - (o.user.size + o.value.size))
def lightB (l : List Ent) : Bool := lightF l 100000
theorem lightF_drop (l : List Ent) (k : Nat) (hk : k < l.length) (left : Nat) : lightF (l.drop k) left = (decide (l[k].user.size ≤ left) && decide (l[k].value.size ≤ left - l[k].user.size) && lightF (l.drop (k + 1)) (left - (l[k].user.size + l[k].value.size))) := by
  rw [List.drop_eq_getElem_cons hk, lightF]

set_option maxHeartbeats 1000000 in
theorem light_any (v : Value) (l : List Ent) (w : World) (hv : SE w w.heap.size v l) (hok : ∀ o ∈ l, o.user.size ≤ 9223372036854775807 ∧ o.value.size ≤ 9223372036854775807) :
    Calls Try.prog 10 #[v] w fun e w' => e = .returned (.bool (lightB l)) ∧ Below w.heap.size w w' := by
  obtain ⟨A, c, rfl, hlc, hcm, hr⟩ := hv
  have hcm' : c ≤ 9223372036854775807 := by unfold maxLen at hcm; omega
  clear hcm
  go_enter Try.func10, Try.ntmps10
  go_wp2
  go_loopw [3, 7] (fun s i wr => ∃ k left : Nat, i = .int .i64 k ∧ k ≤ l.length ∧ s = .int .i64 left ∧ left ≤ 100000 ∧ Hid (lightB l = lightF (l.drop k) left) ∧ Below w.heap.size w wr) (fun _ i _ => l.length - (intOf i).toNat)
  case atStart => exact ⟨0, 100000, rfl, Nat.zero_le _, rfl, Nat.le_refl _, rfl, Below.refl _ _⟩
  case round =>
    obtain ⟨k, left, rfl, hk, rfl, hleft, hl, hbr⟩ := hrel
    by_cases hlt : k < l.length
    · obtain ⟨b, o, rfl, hb, c0, c1, c2, c3⟩ := (hr.below hbr).ent rfl hlt
      have hoo := hok _ (List.getElem_mem hlt)
      have hd := lightF_drop l k hlt left
      obtain ⟨x, hx⟩ : ∃ x, x = l[k] := ⟨_, rfl⟩
      rw [← hx] at c0 c3 hoo hd
      clear c1 c2
      have HD := Lib.hid hd
      clear hx hd
      by_cases g1 : x.user.size ≤ left
      · have g1' : decide (left < x.user.size) = false := by simp; omega
        have gw : IntKind.i64.wrap ((left : Int) - (x.user.size : Int)) = (left : Int) - (x.user.size : Int) := IntWalk.i64_in _ (by omega)
        by_cases g2 : x.value.size ≤ left - x.user.size
        · have g2' : decide ((left : Int) - (x.user.size : Int) < (x.value.size : Int)) = false := by simp; omega
          have gv : IntKind.i64.wrap ((x.user.size : Int) + (x.value.size : Int)) = (x.user.size : Int) + (x.value.size : Int) := IntWalk.i64_in _ (by omega)
          have gx : IntKind.i64.wrap ((left : Int) - ((x.user.size : Int) + (x.value.size : Int))) = (left : Int) - ((x.user.size : Int) + (x.value.size : Int)) := IntWalk.i64_in _ (by omega)
          go_wp2
          go_quiet (fail)
          go_wp2
          go_quiet (fail)
          go_wp2
          clear gw gv gx
          go_roundw
          case rel =>
            refine ⟨k + 1, left - (x.user.size + x.value.size), by go_num, by omega, by go_num, by omega, ?_, bdrewN hbr _⟩
            show _ = _
            rw [hl.out, HD.out]
            simp [g1, g2]
          case measure => simp [intOf]; omega
        · have g2' : decide ((left : Int) - (x.user.size : Int) < (x.value.size : Int)) = true := by simp; omega
          go_wp2
          go_quiet (fail)
          go_wp2
          go_ret
          refine ⟨ret_bool ?_, bdrewN hbr _⟩
          rw [hl.out, HD.out]
          simp [g2]
      · have g1' : decide (left < x.user.size) = true := by simp; omega
        go_wp2
        go_quiet (fail)
        go_wp2
        go_ret
        refine ⟨ret_bool ?_, bdrewN hbr _⟩
        rw [hl.out, HD.out]
        simp [g1]
    · go_wp2
      go_ret
      refine ⟨ret_bool ?_, hbr⟩
      rw [hl.out, List.drop_eq_nil_of_le (by omega)]
      rfl
end Go.Proofs.Ytoccmedadiangaa
