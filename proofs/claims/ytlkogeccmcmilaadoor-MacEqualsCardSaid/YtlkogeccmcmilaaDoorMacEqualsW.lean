/-
  What is proved here: what MacEquals of tantaluslaw04 comes to, at this seat's numbers. Conditions: the bytes' length; the table of constants.
-/
import Derived.Test.YtlkogeccmcmilaaDoorMacShown
namespace Go.Proofs.YtlkogeccmcmilaaDoor
open Go.RowKit

set_option maxRecDepth 100000 in
set_option maxHeartbeats 1000000 in
theorem macEquals_any (a b : List UInt8) (v u : Value) (W : World) (hv : SB W W.heap.size v a) (hu : SB W W.heap.size u b) (hl : a.length ≤ 140737488351232) (hk : KTab W 0) (h1 : 0 < W.heap.size) :
    Calls Tryd.prog 4 #[v, u] W fun e W' => e = .returned (.bool true) ∧ Below W.heap.size W W' := by
  obtain ⟨A, c0, rfl, _, _, _⟩ := id hv
  obtain ⟨A2, c2, rfl, _, _, _⟩ := id hu
  have haa : (a == a) = true := by simp
  obtain ⟨q, hq⟩ : ∃ q, (a == b) = q := ⟨_, rfl⟩
  have HQ := Lib.hid hq
  clear hq
  go_enter Tryd.func4, Tryd.ntmps4
  go_wp2_with fail
  refine (shown4_any _ hk h1).mono ?_
  rintro e w1 ⟨rfl, hb1⟩
  go_wp2_with fail
  refine (kEqual_any a b _ _ w1 (hv.on hb1) (hu.on hb1)).mono ?_
  rintro e w2 ⟨he, hb2⟩
  rw [HQ.out] at he
  subst he
  have b2 := bstep hb1 hb2
  have z2 := b2.size
  go_wp2_with fail
  refine (rEqual_any a b _ _ w2 (hv.on b2) (hu.on b2)).mono ?_
  rintro e w3 ⟨he, rfl⟩
  rw [HQ.out] at he
  subst he
  have own0 : OB (w3.alloc (.cells #[] 5)) w3.heap.size (.slice (some ⟨w3.heap.size, 0, none⟩) 0 0) [] := OB.lit0 w3 (Nat.le_refl _)
  have hsrc : SB (w3.alloc (.cells #[] 5)) W.heap.size (.slice A a.length c0) a := SB.alloc (hv.below b2) z2 _
  have hlen : ([] : List UInt8).length + a.length ≤ 140737488355328 := by simp only [List.length_nil]; omega
  have hbz : w3.heap.size ≤ (w3.alloc (.cells #[] 5)).heap.size := by simp
  have HB : Hid (∀ w4, Below w3.heap.size (w3.alloc (.cells #[] 5)) w4 → Below W.heap.size W w4) := Lib.hid (fun w4 h => bstep b2 ((balloc (bself w3) _).trans h))
  go_wp2_with (at_builtin; go_loud (refine wl_appB rfl (.tmp 17) (.tmp 18) rfl w3.heap.size _ [] rfl own0 W.heap.size _ a rfl hsrc hlen hbz ?_); intro v4 w4 hown4 hg4 ho4 hb4; rw [List.nil_append] at hown4; have b4 := HB.out w4 hb4)
  refine (kEqual_any a a _ _ w4 (hv.on b4) hown4.sb).mono ?_
  rintro e w5 ⟨he, hb5⟩
  rw [haa] at he
  subst he
  have b5 := bstep b4 hb5
  go_wp2_with fail
  go_ret
  exact ⟨rfl, b5⟩
end Go.Proofs.YtlkogeccmcmilaaDoor
