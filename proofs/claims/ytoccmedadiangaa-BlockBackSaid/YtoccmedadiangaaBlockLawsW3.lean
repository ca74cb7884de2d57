/-
  What is proved here: the call of the statement BlockBack returns true and turns nothing that was there. Conditions: the texts' lengths.
-/
import Derived.Test.YtoccmedadiangaaBlockLawsW
namespace Go.Proofs.Ytoccmedadiangaa
open Go.RowKit

theorem sb_take {w : World} {B c k : Nat} {A : Option Addr} {bs : List UInt8} (h : SB w B (.slice A bs.length c) bs) (hk : k ≤ bs.length) : SB w B (.slice A k c) (bs.take k) := by
  have h1 := Sl.take h hk rfl
  unfold SB
  rw [List.length_take, Nat.min_eq_left hk, bv_take]
  simpa using h1
theorem build_three (ev : Int) (l : List Ent) : (∃ bs, buildB ev l = (bs, 0)) ∨ buildB ev l = ([], 1) ∨ buildB ev l = ([], 4) := by
  unfold buildB
  split
  · split
    · exact .inr (.inr rfl)
    · exact .inl ⟨_, rfl⟩
  · exact .inr (.inl rfl)
set_option maxRecDepth 100000 in
set_option maxHeartbeats 2000000 in
theorem blockBack_any (v : Value) (l : List Ent) (ev : Int) (x : UInt8) (w : World) (hv : SE w w.heap.size v l) (hl : l.length ≤ 140737488351232) (hz : ∀ e ∈ l, e.user.size ≤ 9223372036854775807 ∧ e.value.size ≤ 9223372036854775807) (he1 : -9223372036854775808 ≤ ev) (he2 : ev ≤ 9223372036854775807) :
    Calls Try.prog 5 #[v, .int .i64 ev, .int .u8 (x.toNat : Int)] w fun e w' => e = .returned (.bool true) ∧ Below w.heap.size w w' := by
  have HL := Lib.hid (fun w1 (hb : Below w.heap.size w w1) => light_any v l w1 (hv.on hb) hz)
  have HK := fun w1 (hb : Below w.heap.size w w1) {bs : List UInt8} {f : Nat} (h : buildB ev l = (bs, f)) => kBuild_is (w := w1) (hv.on hb) hl hz he1 he2 h
  have HV := Lib.hid hv
  clear hv hz
  go_enter Try.func5, Try.ntmps5
  go_wp2_with fail
  refine (shown_any w).mono ?_
  rintro e w1 ⟨rfl, b1⟩
  go_wp2_with fail
  refine (HL.out w1 b1).mono ?_
  rintro e w2 ⟨rfl, hb2⟩
  have b2 := bstep b1 hb2
  cases hlb : lightB l with
  | true =>
    rcases build_three ev l with ⟨bs, hA⟩ | hA | hA
    · have hbl := (buildB_ok hA).2.2.2.2.1
      have hR1 := Lib.hid (readB_back hA)
      have hR2 := readB_less hA
      have hR3 := Lib.hid (readB_more hA x)
      have h6 := hR2.2
      have HR2 := Lib.hid hR2.1
      clear hR2
      have A1 := Lib.hid (fun w1 hb => HK w1 hb hA 0 rfl)
      clear HK hA
      go_wp2_with fail
      refine (A1.out _ b2).mono ?_
      rintro e w3 ⟨r3, rfl, ho3, hb3⟩
      have b3 := bstep b2 hb3
      have HS3 := Lib.hid ho3.sb
      obtain ⟨A3, c3, rfl, hc3, hm3, hrd3⟩ := ho3.sb
      have hm3' : c3 ≤ 9223372036854775807 := by unfold maxLen at hm3; omega
      clear hrd3 ho3 A1 hm3
      go_wp2_with fail
      refine (kRead_is HS3.out (by omega) hR1.out 0 rfl).mono ?_
      rintro e w4 ⟨r4, rfl, ho4, hb4⟩
      have b4 := bstep b3 hb4
      have HS4 := Lib.hid (HS3.out.on hb4)
      have hse4 := ho4.se
      clear ho4 HS3
      have gk : IntKind.i64.wrap ((bs.length : Int) - 1) = ((bs.length - 1 : Nat) : Int) := by rw [IntKind.wrap_i64]; omega
      have hk1 : ((bs.length - 1 : Nat) : Int) ≤ (bs.length : Int) := by omega
      go_wp2_with fail
      refine (kRead_is (sb_take HS4.out (by omega)) (by rw [List.length_take]; omega) HR2.out 100 rfl).mono ?_
      rintro e w5 ⟨r5, rfl, ho5, hb5⟩
      have b5 := bstep b4 hb5
      have HS5 := Lib.hid (HS4.out.on hb5)
      have hse5 := hse4.on hb5
      clear ho5 HS4 hse4 gk hk1
      go_upto_region 11 with fail
      go_wp2_with (at_builtin; first
        | ((refine wl_appB rfl (.tmp 53) (.tmp 54) rfl w5.heap.size _ [] rfl (OB.lit0 w5 (Nat.le_refl _)) w5.heap.size _ bs rfl (HS5.out.alloc (Nat.le_refl _) _) (by simp; omega) (by simp) ?_); intro v6 w6 ho6 _ _ hb6)
        | ((refine wl_app1 rfl (.tmp 55) (.tmp 57) rfl w5.heap.size _ ([] ++ bs) rfl ho6 _ x rfl rfl rfl (by simp; omega) (by have := hb6.size; simp at this; omega) ?_); intro v7 w7 ho7 _ _ hb7))
      rw [List.nil_append] at ho7
      have b57 : Below w5.heap.size w5 w7 := ((balloc (bself w5) _).trans hb6).trans hb7
      have b7 := bstep b5 b57
      refine (kRead_is ho7.sb (by rw [List.length_append, List.length_singleton]; omega) hR3.out 100 rfl).mono ?_
      rintro e w8 ⟨r8, rfl, _, hb8⟩
      have b8 := bstep b7 hb8
      have HS := Lib.hid (rSame_true v r4 l w8 (HV.out.on b8) ((hse5.on b57).on hb8))
      clear ho7 ho6 hse5 HV
      go_wp2_with (go_at_call 15; refine HS.out.mono ?_; rintro _ w9 ⟨rfl, hb9⟩)
      go_ret
      exact ⟨rfl, bstep b8 hb9⟩
    · skip
      have A1 := Lib.hid (fun w1 hb => HK w1 hb hA 1 rfl)
      clear HK hA
      go_wp2_with fail
      refine (A1.out _ b2).mono ?_
      rintro e w3 ⟨r3, rfl, ho3, hb3⟩
      have b3 := bstep b2 hb3
      obtain ⟨A3, c3, rfl, _, _, _⟩ := ho3.sb
      go_wp2_with fail
      go_ret
      exact ⟨rfl, b3⟩
    · skip
      have A1 := Lib.hid (fun w1 hb => HK w1 hb hA 4 rfl)
      clear HK hA
      go_wp2_with fail
      refine (A1.out _ b2).mono ?_
      rintro e w3 ⟨r3, rfl, ho3, hb3⟩
      have b3 := bstep b2 hb3
      obtain ⟨A3, c3, rfl, _, _, _⟩ := ho3.sb
      go_wp2_with fail
      go_ret
      exact ⟨rfl, b3⟩
  | false =>
    go_wp2
    go_ret
    exact ⟨rfl, b2⟩
end Go.Proofs.Ytoccmedadiangaa
