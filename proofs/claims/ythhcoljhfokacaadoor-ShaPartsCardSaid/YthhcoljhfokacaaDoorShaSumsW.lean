/-
  What is proved here: what ShaSums and ShaNil of tantaluslaw03 come to, at this seat's numbers. Conditions: the bytes' length; the tables of constants.
-/
import Derived.Test.YthhcoljhfokacaaDoorShaShown
import Derived.Test.YthhcoljhfokacaaDoorShaRefW4
namespace Go.Proofs.YthhcoljhfokacaaDoor
open Go.RowKit

theorem rSumC (bs : List UInt8) (c : Array Value) (hc : dgA (shaOf bs) = c) (v : Value) (w : World) (hv : SB w w.heap.size v bs) (hl : bs.length ≤ 140737488351232) (hk : KTab w 0) (h0 : 0 < w.heap.size) :
    Calls Tryd.prog 10 #[v] w fun e w' => e = .returned (.agg c) ∧ Below w.heap.size w w' := by subst hc; exact rSum_any bs v w hv hl hk h0
theorem kStSumC (base P : Nat) (bs : List UInt8) (c : Array Value) (hc : dgA (shaOf bs) = c) (w : World) (h : StAt w base P bs) (hl : bs.length ≤ 1152921504606846000) (hk : KTab w 1) (h1 : 1 < w.heap.size) :
    Calls Tryd.prog 13 #[.pointer (some ⟨P, 0, none⟩)] w fun e w' => e = .returned (.agg c) ∧ Below w.heap.size w w' := by subst hc; exact kStSum_any base P bs w h hl hk h1
theorem kStSumN (c : Array Value) (hc : dgA (shaOf []) = c) (w : World) (hk : KTab w 1) (h1 : 1 < w.heap.size) :
    Calls Tryd.prog 13 #[.pointer none] w fun e w' => e = .returned (.agg c) ∧ Below w.heap.size w w' := by subst hc; exact kStSum_nil w hk h1
/-- one slice of bytes, laid just now as a list -/
theorem LL.one {w : World} {v : Value} {b : List UInt8} {g : Nat} (t : TypeId) (hg : g = w.heap.size) (h : SB w w.heap.size v b) : LL (w.alloc (.cells #[v] t)) (w.alloc (.cells #[v] t)).heap.size (.slice (some ⟨g, 0, none⟩) 1 1) [b] :=
  LL.new [v] [b] t hg rfl rfl (by simp [maxLen]) (fun i u l h1 h2 => by
    rcases i with _ | i
    · simp at h1 h2; subst h1; subst h2; exact h
    · simp at h1)
theorem flat1 (b : List UInt8) : [b].flatten = b := by simp
set_option maxRecDepth 100000 in
set_option maxHeartbeats 2000000 in
theorem shaSums_any (b : List UInt8) (v : Value) (W : World) (hv : SB W W.heap.size v b) (hl : b.length ≤ 140737488351232) (hk0 : KTab W 0) (hk1 : KTab W 1) (h1 : 1 < W.heap.size) :
    Calls Tryd.prog 3 #[v] W fun e W' => e = .returned (.bool true) ∧ Below W.heap.size W W' := by
  obtain ⟨A, c0, rfl, _, _, _⟩ := id hv
  obtain ⟨c, hc⟩ : ∃ c, dgA (shaOf b) = c := ⟨_, rfl⟩
  have HC := Lib.hid hc
  have hEq : ∀ w', (Op.equalIn 10000 25 (.agg c) (.agg c)).run Tryd.prog w' = .ok true w' := fun w' => run_eqC w' c _ (shaOf_length b) hc
  clear hc
  go_enter Tryd.func3, Tryd.ntmps3
  go_wp2_with fail
  refine (shown_any _ hk1 h1).mono ?_
  rintro e w1 ⟨rfl, hb1⟩
  have z1 := hb1.size
  have own0 : OB (w1.alloc (.cells #[] 5)) w1.heap.size (.slice (some ⟨w1.heap.size, 0, none⟩) 0 0) [] := OB.lit0 w1 (Nat.le_refl _)
  have hsrc : SB (w1.alloc (.cells #[] 5)) W.heap.size (.slice A b.length c0) b := SB.alloc (hv.below hb1) z1 _
  have hlen : ([] : List UInt8).length + b.length ≤ 140737488355328 := by simp only [List.length_nil]; omega
  have hbz : w1.heap.size ≤ (w1.alloc (.cells #[] 5)).heap.size := by simp
  have HB : Hid (∀ w3, Below w1.heap.size (w1.alloc (.cells #[] 5)) w3 → Below W.heap.size W w3) := Lib.hid (fun w3 h => bstep hb1 ((balloc (bself w1) _).trans h))
  go_upto_region 3 with (at_builtin; go_loud (refine wl_appB rfl (.tmp 6) (.tmp 7) rfl w1.heap.size _ [] rfl own0 W.heap.size _ b rfl hsrc hlen hbz ?_); intro v3 w3 hown3 hg3 ho3 hb3; rw [List.nil_append] at hown3; obtain ⟨A3, c3, hv3, _, _, _⟩ := hown3.sb; subst hv3; have b3 := HB.out w3 hb3)
  have z3 := b3.size
  have hs3 := hown3.sb
  have hL : LL (w3.alloc (.cells #[.slice A b.length c0] 22)) _ (.slice (some ⟨w3.heap.size, 0, none⟩) 1 1) [b] := LL.one 22 rfl ((hv.below b3).more z3)
  have b4 : Below W.heap.size W (w3.alloc (.cells #[.slice A b.length c0] 22)) := balloc b3 _
  have hs4 : SB (w3.alloc (.cells #[.slice A b.length c0] 22)) w3.heap.size (.slice A3 b.length c3) b := SB.alloc hs3 (Nat.le_refl _) _
  have z4 : w3.heap.size ≤ (w3.alloc (.cells #[.slice A b.length c0] 22)).heap.size := by simp
  clear own0 hsrc hlen hbz HB hb3 ho3 hg3 hown3 hs3
  go_wp2_with fail
  generalize World.alloc _ _ = w4 at hL b4 hs4 z4 ⊢
  refine (kSumC [b] c (by rw [flat1]; exact HC.out) _ w4 hL (by rw [flat1]; omega) (hk1.on b4 h1) (by omega)).mono ?_
  rintro e w5 ⟨rfl, hb5⟩
  have b5 := bstep b4 hb5
  have z5 := hb5.size
  have hs5 : SB w5 w3.heap.size (.slice A3 b.length c3) b := SB.below hs4 (hb5.mono z4)
  go_wp2_with fail
  refine (rSumC b c HC.out _ w5 (hs5.more (by omega)) hl (hk0.on0 b5 (by omega)) (by omega)).mono ?_
  rintro e w6 ⟨rfl, hb6⟩
  have b6 := bstep b5 hb6
  have hs6 : SB w6 w3.heap.size (.slice A3 b.length c3) b := SB.below hs5 (hb6.mono (by omega))
  have x1 := run_b2s w6 _ _ _ (hv.below b6)
  have x2 := run_b2s w6 _ _ _ hs6
  go_wp2_with fail
  go_ret
  exact ⟨rfl, b6⟩
set_option maxRecDepth 100000 in
set_option maxHeartbeats 2000000 in
theorem shaNil_any (v : Value) (W : World) (hk1 : KTab W 1) (h1 : 1 < W.heap.size) :
    Calls Tryd.prog 4 #[v] W fun e W' => e = .returned (.bool true) ∧ Below W.heap.size W W' := by
  obtain ⟨c, hc⟩ : ∃ c, dgA (shaOf []) = c := ⟨_, rfl⟩
  have HC := Lib.hid hc
  have hEq : ∀ w', (Op.equalIn 10000 25 (.agg c) (.agg c)).run Tryd.prog w' = .ok true w' := fun w' => run_eqC w' c _ (shaOf_length []) hc
  clear hc
  go_enter Tryd.func4, Tryd.ntmps4
  go_wp2_with fail
  refine (kWrite_nil _ _).mono ?_
  rintro e w0 ⟨rfl, rfl⟩
  go_wp2_with fail
  refine (shown_any _ hk1 h1).mono ?_
  rintro e w1 ⟨rfl, hb1⟩
  have z1 := hb1.size
  go_wp2_with fail
  refine (kLen_nil _).mono ?_
  rintro e w2 ⟨rfl, rfl⟩
  go_wp2_with fail
  refine (kStSumN c HC.out _ (hk1.on hb1 h1) (by omega)).mono ?_
  rintro e w3 ⟨rfl, hb3⟩
  have b3 := bstep hb1 hb3
  have z3 := b3.size
  go_wp2_with fail
  refine (kSumC [] c HC.out _ _ (LL.nil_ _ _) (by decide) (hk1.on b3 h1) (by omega)).mono ?_
  rintro e w4 ⟨rfl, hb4⟩
  have b4 := bstep b3 hb4
  go_wp2_with fail
  go_ret
  exact ⟨rfl, b4⟩
end Go.Proofs.YthhcoljhfokacaaDoor
