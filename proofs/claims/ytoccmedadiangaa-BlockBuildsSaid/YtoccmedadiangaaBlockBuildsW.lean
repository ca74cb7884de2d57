/-
  What is proved here: the call of the statement BlockBuilds returns true and turns nothing that was there. Conditions: the texts' lengths.
-/
import Derived.Test.YtoccmedadiangaaShown10
namespace Go.Proofs.Ytoccmedadiangaa
open Go.RowKit

set_option maxHeartbeats 1000000 in
theorem blockBuilds_any (v : Value) (l : List Ent) (ev : Int) (w : World) (hv : SE w w.heap.size v l) (hl : l.length ≤ 140737488351232) (hz : ∀ e ∈ l, e.user.size ≤ 9223372036854775807 ∧ e.value.size ≤ 9223372036854775807) (he1 : -9223372036854775808 ≤ ev) (he2 : ev ≤ 9223372036854775807) :
    Calls Try.prog 3 #[v, .int .i64 ev] w fun e w' => e = .returned (.bool true) ∧ Below w.heap.size w w' := by
  have HL := Lib.hid (fun w1 (hb : Below w.heap.size w w1) => light_any v l w1 (hv.on hb) hz)
  have HK := Lib.hid (fun w1 (hb : Below w.heap.size w w1) => kBuild_any v l ev w1 (hv.on hb) hl hz he1 he2)
  have HR := Lib.hid (fun w1 (hb : Below w.heap.size w w1) => rBuild_any v l ev w1 (hv.on hb) hl hz he1 he2)
  obtain ⟨⟨bs, f⟩, hr⟩ : ∃ r, buildB ev l = r := ⟨_, rfl⟩
  rw [hr] at HK HR
  clear hr hv hz
  go_enter Try.func3, Try.ntmps3
  go_wp2_with fail
  refine (shown_any w).mono ?_
  rintro e w1 ⟨rfl, b1⟩
  go_wp2_with fail
  refine (HL.out w1 b1).mono ?_
  rintro e w2 ⟨rfl, hb2⟩
  have b2 := bstep b1 hb2
  cases hlb : lightB l with
  | true =>
    go_wp2_with fail
    refine (HK.out w2 b2).mono ?_
    rintro e w3 ⟨r3, rfl, ho3, hb3⟩
    have b3 := bstep b2 hb3
    go_wp2_with fail
    refine (HR.out w3 b3).mono ?_
    rintro e w4 ⟨r4, rfl, ho4, hb4⟩
    have b4 := bstep b3 hb4
    have s3 := ho3.sb.on hb4
    have s4 := ho4.sb
    clear ho3 ho4
    go_wp2_with (first
      | (refine wl_b2s (o := ⟨some 30, _, _, _, _, _⟩) rfl (.tmp 29) rfl r3 rfl _ _ s3 ?_)
      | (refine wl_b2s (o := ⟨some 32, _, _, _, _, _⟩) rfl (.tmp 31) rfl r4 rfl _ _ s4 ?_))
    go_ret
    exact ⟨ret_bool (by simp), b4⟩
  | false =>
    go_wp2
    go_ret
    exact ⟨rfl, b2⟩
end Go.Proofs.Ytoccmedadiangaa
