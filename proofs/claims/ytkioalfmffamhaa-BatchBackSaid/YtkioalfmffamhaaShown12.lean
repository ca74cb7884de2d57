/-
  What is proved here: the examples at the head of layer 12's statements hold; which operations are light.
-/
import Derived.Test.YtkioalfmffamhaaBatchW3
import Derived.Test.YtkioalfmffamhaaSameW
namespace Go.Proofs.Ytkioalfmffamhaa
open Go.RowKit

def oA : Opn := ⟨1, ⟨#[97]⟩, ⟨#[120]⟩⟩
def oB : Opn := ⟨0, ⟨#[98]⟩, ⟨#[]⟩⟩
theorem enc_shown : encB 7 [oA, oB] = [7, 0, 0, 0, 0, 0, 0, 0, 2, 1, 1, 97, 1, 120, 0, 1, 98] := by decide +kernel
theorem right_shown : rightB 7 [oA, oB] = true := by decide +kernel
theorem right_shown0 : rightB 0 [oA] = false := by decide +kernel
theorem right_shownn : rightB 7 [] = false := by decide +kernel
theorem size_shown : sizeOps [oA, oB] = 19 := by decide +kernel

theorem oks_shown : ∀ o ∈ [oA, oB], OpOk o := by
  intro o ho
  simp only [List.mem_cons, List.not_mem_nil, or_false] at ho
  rcases ho with rfl | rfl <;> exact ⟨by decide, by decide⟩
theorem shown_slice (w : World) {B : Nat} (hB : w.heap.size < B) : SO (w.alloc (.cells #[.int .u8 1, .string ⟨#[97]⟩, .string ⟨#[120]⟩, .int .u8 0, .string ⟨#[98]⟩, .string ⟨#[]⟩] 37)) B (.slice (some ⟨w.heap.size, 0, none⟩) 2 2) [oA, oB] := by
  exact ⟨_, _, rfl, Nat.le_refl _, by simp [maxLen], Rd.newBlock w _ _ rfl hB rfl⟩
theorem shown_calls (W : World) (v v1 : Value) (hv : SO W W.heap.size v [oA, oB]) :
    Calls Try.prog 11 #[.int .u64 7, v] W fun e w' => ∃ r, e = .returned (.tuple #[r, .int .i64 0]) ∧ OB w' W.heap.size r [7, 0, 0, 0, 0, 0, 0, 0, 2, 1, 1, 97, 1, 120, 0, 1, 98] ∧ Below W.heap.size W w' := by
  have E := bEncode_ok 7 v [oA, oB] W hv oks_shown right_shown
  rw [enc_shown] at E
  exact E
theorem shown_calls0 (W : World) (v : Value) (hv : SO W W.heap.size v [oA]) :
    Calls Try.prog 11 #[.int .u64 0, v] W fun e w' => e = .returned (.tuple #[.slice none 0 0, .int .i64 1]) ∧ Below W.heap.size W w' :=
  bEncode_bad 0 v [oA] W hv (fun o ho => oks_shown o (by simp at ho; simp [ho])) right_shown0
theorem shown_callsn (W : World) :
    Calls Try.prog 11 #[.int .u64 7, .slice none 0 0] W fun e w' => e = .returned (.tuple #[.slice none 0 0, .int .i64 1]) ∧ Below W.heap.size W w' :=
  bEncode_bad 7 _ [] W (Sl.nil_ _ _ _) (fun o ho => by simp at ho) right_shownn
theorem shown_size (W : World) (v : Value) (hv : SO W W.heap.size v [oA, oB]) :
    Calls Try.prog 18 #[v] W fun e w' => e = .returned (.int .i64 19) ∧ Below W.heap.size W w' := by
  have E := bSize_any v [oA, oB] W hv (by simp) (by decide +kernel)
  rw [size_shown] at E
  exact E

set_option maxHeartbeats 1000000 in
theorem shown_any (w : World) : Calls Try.prog 9 #[] w fun e w' => e = .returned (.bool true) ∧ Below w.heap.size w w' := by
  have hsl := shown_slice w (B := (w.alloc (.cells #[.int .u8 1, .string ⟨#[97]⟩, .string ⟨#[120]⟩, .int .u8 0, .string ⟨#[98]⟩, .string ⟨#[]⟩] 37)).heap.size) (by simp)
  have hs1 : SO (w.alloc (.cells #[.int .u8 1, .string ⟨#[97]⟩, .string ⟨#[120]⟩, .int .u8 0, .string ⟨#[98]⟩, .string ⟨#[]⟩] 37)) (w.alloc (.cells #[.int .u8 1, .string ⟨#[97]⟩, .string ⟨#[120]⟩, .int .u8 0, .string ⟨#[98]⟩, .string ⟨#[]⟩] 37)).heap.size (.slice (some ⟨w.heap.size, 0, none⟩) 1 2) [oA] := Sl.take hsl (k := 1) (by simp) rfl
  have HS := Lib.hid hsl
  have HS1 := Lib.hid hs1
  clear hsl hs1
  go_enter Try.func9, Try.ntmps9
  go_wp2_with fail
  refine (shown_calls _ _ (.slice none 0 0) HS.out).mono ?_
  rintro e w1 ⟨r, rfl, hown1, hb1⟩
  have hb1' := bstep (balloc (bself w) _) hb1
  go_wp2_with fail
  refine (shown_calls0 w1 _ ((HS1.out.below hb1).more hb1.size)).mono ?_
  rintro e w2 ⟨rfl, hb2⟩
  have hb2' := bstep hb1' hb2
  go_wp2_with fail
  refine (shown_callsn w2).mono ?_
  rintro e w3 ⟨rfl, hb3⟩
  have hb3' := bstep hb2' hb3
  have hr3 := (hown1.sb.on hb2).on hb3
  go_wp2_with (refine wl_b2s (o := ⟨some 27, _, _, _, _, _⟩) rfl (.tmp 26) rfl r rfl _ _ hr3 ?_)
  have hs3 := Sl.below (Sl.below (Sl.below HS.out hb1) (hb2.mono hb1.size)) (hb3.mono (Nat.le_trans hb1.size hb2.size))
  refine (shown_size w3 _ (Sl.more hs3 (Nat.le_trans hb1.size (Nat.le_trans hb2.size hb3.size)))).mono ?_
  rintro e w4 ⟨rfl, hb4⟩
  go_wp2
  go_ret
  exact ⟨rfl, bstep hb3' hb4⟩

/-- which operations are light -/
def lightF : List Opn → Nat → Bool
  | [], _ => true
  | o :: l, left => decide (o.user.size ≤ left) && decide (o.value.size ≤ left - o.user.size) && lightF l (left - (o.user.size + o.value.size))
def lightB (l : List Opn) : Bool := lightF l 200000
theorem lightF_bytes (l : List Opn) : ∀ left, lightF l left = true → bytesOps l ≤ left := by
  induction l with
  | nil => intro left _; simp [bytesOps]
  | cons o l ih =>
    intro left h
    simp only [lightF, Bool.and_eq_true, decide_eq_true_eq] at h
    have := ih _ h.2
    simp only [bytesOps, List.map_cons, List.sum_cons] at *
    omega
theorem lightF_drop (l : List Opn) (k : Nat) (hk : k < l.length) (left : Nat) : lightF (l.drop k) left = (decide (l[k].user.size ≤ left) && decide (l[k].value.size ≤ left - l[k].user.size) && lightF (l.drop (k + 1)) (left - (l[k].user.size + l[k].value.size))) := by
  rw [List.drop_eq_getElem_cons hk, lightF]

set_option maxHeartbeats 1000000 in
theorem light_any (v : Value) (l : List Opn) (w : World) (hv : SO w w.heap.size v l) (hok : ∀ o ∈ l, OpOk o) :
    Calls Try.prog 10 #[v] w fun e w' => e = .returned (.bool (lightB l)) ∧ Below w.heap.size w w' := by
  obtain ⟨A, c, rfl, hlc, hcm, hr⟩ := hv
  have hcm' : c ≤ 9223372036854775807 := by unfold maxLen at hcm; omega
  clear hcm
  go_enter Try.func10, Try.ntmps10
  go_wp2
  go_loopw [3, 7] (fun s i wr => ∃ k left : Nat, i = .int .i64 k ∧ k ≤ l.length ∧ s = .int .i64 left ∧ left ≤ 200000 ∧ Hid (lightB l = lightF (l.drop k) left) ∧ Below w.heap.size w wr) (fun _ i _ => l.length - (intOf i).toNat)
  case atStart => exact ⟨0, 200000, rfl, Nat.zero_le _, rfl, Nat.le_refl _, rfl, Below.refl _ _⟩
  case round =>
    obtain ⟨k, left, rfl, hk, rfl, hleft, hl, hbr⟩ := hrel
    by_cases hlt : k < l.length
    · obtain ⟨b, o, rfl, hb, c0, c1, c2⟩ := (hr.below hbr).op rfl hlt
      have hoo := hok _ (List.getElem_mem hlt)
      have hd := lightF_drop l k hlt left
      obtain ⟨x, hx⟩ : ∃ x, x = l[k] := ⟨_, rfl⟩
      rw [← hx] at c0 c1 c2 hoo hd
      unfold OpOk at hoo
      have HD := Lib.hid hd
      clear hx hd
      by_cases g1 : x.user.size ≤ left
      · have g1' : decide (left < x.user.size) = false := by simp; omega
        have gw : IntKind.i64.wrap ((left : Int) - (x.user.size : Int)) = (left : Int) - (x.user.size : Int) := IntWalk.i64_in _ (by omega)
        by_cases g2 : x.value.size ≤ left - x.user.size
        · have g2' : decide ((left : Int) - (x.user.size : Int) < (x.value.size : Int)) = false := by simp; omega
          have gv : IntKind.i64.wrap ((x.user.size : Int) + (x.value.size : Int)) = (x.user.size : Int) + (x.value.size : Int) := IntWalk.i64_in _ (by omega)
          have gx : IntKind.i64.wrap ((left : Int) - ((x.user.size : Int) + (x.value.size : Int))) = (left : Int) - ((x.user.size : Int) + (x.value.size : Int)) := IntWalk.i64_in _ (by omega)
          go_wp2
          go_quiet (fail)
          go_wp2
          go_quiet (fail)
          go_wp2
          clear gw gv gx
          go_roundw
          case rel =>
            refine ⟨k + 1, left - (x.user.size + x.value.size), by go_num, by omega, by go_num, by omega, ?_, bdrewN hbr _⟩
            show _ = _
            rw [hl.out, HD.out]
            simp [g1, g2]
          case measure => simp [intOf]; omega
        · have g2' : decide ((left : Int) - (x.user.size : Int) < (x.value.size : Int)) = true := by simp; omega
          go_wp2
          go_quiet (fail)
          go_wp2
          go_ret
          refine ⟨ret_bool ?_, bdrewN hbr _⟩
          rw [hl.out, HD.out]
          simp [g2]
      · have g1' : decide (left < x.user.size) = true := by simp; omega
        go_wp2
        go_quiet (fail)
        go_wp2
        go_ret
        refine ⟨ret_bool ?_, bdrewN hbr _⟩
        rw [hl.out, HD.out]
        simp [g1]
    · go_wp2
      go_ret
      refine ⟨ret_bool ?_, hbr⟩
      rw [hl.out, List.drop_eq_nil_of_le (by omega)]
      rfl
end Go.Proofs.Ytkioalfmffamhaa
