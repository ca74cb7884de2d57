/-
  What is proved here: what MacTells of tantaluslaw04 comes to, at this seat's numbers. Conditions: the bytes' length; the table of constants.
-/
import Derived.Test.YtlkogeccmcmilaaDoorMacShown
namespace Go.Proofs.YtlkogeccmcmilaaDoor
open Go.RowKit

theorem set_eq (b : List UInt8) (k : Nat) (hk : k < b.length) (y : UInt8) : (b.set k y == b) = (y == b[k]) := by
  rw [Bool.eq_iff_iff, beq_iff_eq, beq_iff_eq]
  constructor
  · intro h
    have := congrArg (fun l => l[k]?) h
    simp only [List.getElem?_set_self hk, List.getElem?_eq_getElem hk] at this
    exact Option.some.inj this
  · intro h; rw [h, List.set_getElem_self]
theorem ne_len {a b : List UInt8} (h : a.length ≠ b.length) : (a == b) = false := by
  rw [Bool.eq_false_iff]
  intro e
  rw [beq_iff_eq] at e
  exact h (by rw [e])
/-- one byte of what is owned is another -/
theorem OB.put {w : World} {base g n c : Nat} {l : List UInt8} (h : OB w base (.slice (some ⟨g, 0, none⟩) n c) l) (hn : n = l.length) (k : Nat) (hk : k < l.length) (y : UInt8) :
    w.frozen? ⟨g, k, none⟩ = false ∧ (∃ q : UInt8, w.cell? ⟨g, k, none⟩ = some (.int .u8 (q.toNat : Int))) ∧ OB (w.setCell ⟨g, k, none⟩ (.int .u8 (y.toNat : Int))) base (.slice (some ⟨g, 0, none⟩) n c) (l.set k y) := by
  subst hn
  obtain ⟨h1, h2⟩ := h
  rcases h2 with ⟨e, _⟩ | ⟨g', cap, cur, e1, e2, e3, e4, e5, e6, e7⟩
  · cases e
  · injection e1 with e1 _ e8
    injection e1 with e1
    injection e1 with e1
    subst e1; subst e8
    have hcur : cur[k]? = some (u8v l[k]) := by
      have h3 : (cur.toList.take (l.length * 1))[k]? = some (u8v l[k]) := by rw [e7]; exact bv_get l k hk
      rw [List.getElem?_take, if_pos (by omega)] at h3
      simpa using h3
    refine ⟨by simp [World.frozen?, e3], ⟨l[k], by rw [cell_of_row _ _ k _ _ _ e3]; exact hcur⟩, by simp [bv], .inr ⟨g, c, cur.setIfInBounds k (u8v y), by rw [List.length_set], e2, ?_, by rw [List.length_set]; exact e4, e5, by rw [Array.size_setIfInBounds]; exact e6, ?_⟩⟩
    · simp [World.setCell, Array.getElem?_modify, e3]
    · rw [List.length_set, Array.toList_setIfInBounds, List.take_set, e7]
      simp [bv, List.map_set]
set_option maxRecDepth 100000 in
set_option maxHeartbeats 2000000 in
theorem macTells_any (b : List UInt8) (v : Value) (pl : UInt64) (y : UInt8) (W : World) (hv : SB W W.heap.size v b) (hl : b.length ≤ 140737488351232) (hk : KTab W 0) (h1 : 0 < W.heap.size) :
    Calls Tryd.prog 7 #[v, .int .u64 (pl.toNat : Int), .int .u8 (y.toNat : Int)] W fun e W' => e = .returned (.bool true) ∧ Below W.heap.size W W' := by
  obtain ⟨A, c0, rfl, hlc, hcm, hr⟩ := id hv
  have hcm2 : c0 ≤ 9223372036854775807 := by unfold maxLen at hcm; omega
  clear hcm
  go_enter Tryd.func7, Tryd.ntmps7
  go_wp2_with fail
  refine (shown4_any _ hk h1).mono ?_
  rintro e w1 ⟨rfl, hb1⟩
  have z1 := hb1.size
  by_cases h0 : b.length = 0
  · have hbn : b = [] := List.eq_nil_of_length_eq_zero h0
    subst hbn
    have HE1 := Lib.hid (kEqual_any [] [] _ (.slice none 0 0) w1 (hv.on hb1) (SB.nil_ _ _))
    clear h0
    go_wp2_with fail
    refine HE1.out.mono ?_
    rintro e w2 ⟨he, hb2⟩
    rw [show (([] : List UInt8) == []) = true from rfl] at he
    subst he
    have b2 := bstep hb1 hb2
    have q2 : SB (w2.alloc (.cells #[.int .u8 (y.toNat : Int)] 5)) (w2.alloc (.cells #[.int .u8 (y.toNat : Int)] 5)).heap.size (.slice (some ⟨w2.heap.size, 0, none⟩) 1 1) [y] := (SB.new1 w2 y).more (by rw [World.size_alloc]; exact Nat.le_refl _)
    have HE2 := Lib.hid (kEqual_any [] [y] _ _ _ (hv.on (balloc b2 (.cells #[.int .u8 (y.toNat : Int)] 5))) q2)
    have b3 := Lib.hid (balloc b2 (.cells #[.int .u8 (y.toNat : Int)] 5))
    clear q2 HE1
    go_wp2_with fail
    refine HE2.out.mono ?_
    rintro e w4 ⟨he, hb4⟩
    rw [show (([] : List UInt8) == [y]) = false from rfl] at he
    subst he
    have b4 := bstep b3.out hb4
    go_wp2_with fail
    go_ret
    exact ⟨rfl, b4⟩
  · obtain ⟨k, hk0⟩ : ∃ k, k = pl.toNat % b.length := ⟨_, rfl⟩
    have hkl : k < b.length := by rw [hk0]; exact Nat.mod_lt _ (by omega)
    have e1 : (pl.toNat : Int) % (b.length : Int) = (k : Int) := by rw [hk0]; norm_cast
    have hpl := pl.toNat_lt
    clear hk0
    have own0 : OB (w1.alloc (.cells #[] 5)) w1.heap.size (.slice (some ⟨w1.heap.size, 0, none⟩) 0 0) [] := OB.lit0 w1 (Nat.le_refl _)
    have hsrc : SB (w1.alloc (.cells #[] 5)) W.heap.size (.slice A b.length c0) b := SB.alloc (hv.below hb1) z1 _
    have hlen : ([] : List UInt8).length + b.length ≤ 140737488355328 := by simp only [List.length_nil]; omega
    have hbz : w1.heap.size ≤ (w1.alloc (.cells #[] 5)).heap.size := by simp
    have HB : Hid (∀ v3 w3, OB w3 w1.heap.size v3 ([] ++ b) → (v3.ownBlock = (Value.slice (some ⟨w1.heap.size, 0, none⟩) 0 0).ownBlock ∨ v3.ownBlock = some (w1.alloc (.cells #[] 5)).heap.size) → Below w1.heap.size (w1.alloc (.cells #[] 5)) w3 →
        Below W.heap.size W w3 ∧ ∃ g c3, v3 = .slice (some ⟨g, 0, none⟩) b.length c3 ∧ w3.frozen? ⟨g, k, none⟩ = false ∧ (∃ q : UInt8, w3.cell? ⟨g, k, none⟩ = some (.int .u8 (q.toNat : Int))) ∧ OB (w3.setCell ⟨g, k, none⟩ (.int .u8 (y.toNat : Int))) w1.heap.size (.slice (some ⟨g, 0, none⟩) b.length c3) (b.set k y) ∧ Below W.heap.size W (w3.setCell ⟨g, k, none⟩ (.int .u8 (y.toNat : Int)))) := Lib.hid (fun v3 w3 ho hw hb => by
      rw [List.nil_append] at ho
      have hbW : Below W.heap.size W w3 := bstep hb1 ((balloc (bself w1) _).trans hb)
      refine ⟨hbW, ?_⟩
      obtain ⟨g, hg⟩ : ∃ g, v3.ownBlock = some g := by
        rcases hw with h | h
        · exact ⟨_, h⟩
        · exact ⟨_, h⟩
      have hlt := ho.lt g hg
      obtain ⟨A3, c3, e3, _, _, _⟩ := ho.sb
      subst e3
      obtain ⟨g1, g2⟩ := ho
      rcases g2 with ⟨e, _⟩ | ⟨g', cap, cur, f1, f2⟩
      · rw [e] at hg; cases hg
      · injection f1 with f1 _ f3
        subst f1; subst f3
        have ho2 : OB w3 w1.heap.size (.slice (some ⟨g', 0, none⟩) b.length c3) b := ⟨g1, .inr ⟨g', c3, cur, rfl, f2⟩⟩
        obtain ⟨p1, p2, p3⟩ := ho2.put rfl k hkl y
        exact ⟨g', c3, rfl, p1, p2, p3, hbW.setCell (Nat.le_trans z1 f2.1) _⟩)
    go_upto_region 6 with (at_builtin; go_loud (refine wl_appB rfl (.tmp 32) (.tmp 33) rfl w1.heap.size _ [] rfl own0 W.heap.size _ b rfl hsrc hlen hbz ?_); intro v3 w3 hown3 hg3 ho3 hb3; obtain ⟨b3, g, c3, hv3, hf3, ⟨q3, hq3⟩, hown4, b4⟩ := HB.out v3 w3 hown3 ho3 hb3; subst hv3)
    have HO := Lib.hid (And.intro hown4 b4)
    clear own0 hsrc hlen hbz HB hown3 ho3 hb3 hg3 hown4 b4
    go_upto_region 7 with fail
    obtain ⟨hown4, b4⟩ := HO.out
    generalize World.setCell _ _ _ = w4 at hown4 b4 ⊢
    clear HO hf3 hq3
    have z14 : w1.heap.size ≤ w4.heap.size := by
      obtain ⟨g1, g2⟩ := hown4
      have h3 := hb1.size
      rcases g2 with ⟨e, _⟩ | ⟨g', cap, cur, f1, f2, f3, _⟩
      · cases e
      · have := (Array.getElem?_eq_some_iff.1 f3).1; omega
    obtain ⟨b0, o0, rfl, hbl, hcell⟩ := hr.at_ (by omega)
    obtain ⟨bk, hbk⟩ : ∃ bk, bk = b[k] := ⟨_, rfl⟩
    have KS : Hid (∀ w', Below W.heap.size W w' → w'.cell? ⟨b0, o0 + k, none⟩ = some (.int .u8 (bk.toNat : Int))) := Lib.hid (fun w' h => by rw [hbk]; exact (h.cell (p := ⟨b0, o0 + k, none⟩) hbl).trans (hcell k _ (bv_at hkl)))
    have eq1 : (b.set k y == b) = ((y.toNat : Int) == (bk.toNat : Int)) := by
      rw [set_eq b k hkl y, ← hbk, Bool.eq_iff_iff, beq_iff_eq, beq_iff_eq, ← UInt8.toNat_inj]
      omega
    have eq2 : (b == b.take (b.length - 1)) = false := ne_len (by rw [List.length_take]; omega)
    have eq3 : (b == b.set k y ++ [y]) = false := ne_len (by rw [List.length_append, List.length_set]; simp)
    have hlx : (b.set k y).length = b.length := List.length_set
    have HE1 : Hid (Calls Tryd.prog 13 #[.slice (some ⟨g, 0, none⟩) b.length c3, .slice (some ⟨b0, o0, none⟩) b.length c0] w4.drew fun e w'' => e = .returned (.bool ((y.toNat : Int) == (bk.toNat : Int))) ∧ Below w4.drew.heap.size w4.drew w'') := Lib.hid (by rw [← eq1]; exact kEqual_any (b.set k y) b _ _ w4.drew hown4.sb.drew ((hv.on b4).drew))
    have HE2 : Hid (∀ w', Below W.heap.size W w' → Calls Tryd.prog 13 #[.slice (some ⟨b0, o0, none⟩) b.length c0, .slice (some ⟨b0, o0, none⟩) (b.length - 1) c0] w' fun e w'' => e = .returned (.bool false) ∧ Below w'.heap.size w' w'') := Lib.hid (fun w' h => by
      rw [← eq2]
      refine kEqual_any b (b.take (b.length - 1)) _ _ w' (hv.on h) ?_
      have h2 := Sl.take (hv.on h) (k := b.length - 1) (by omega) rfl
      unfold SB
      rw [List.length_take, Nat.min_eq_left (by omega), bv_take]
      rw [Nat.mul_one] at h2
      exact h2)
    have HE3 : Hid (∀ v8 w', Below W.heap.size W w' → OB w' w1.heap.size v8 (b.set k y ++ [y]) → Calls Tryd.prog 13 #[.slice (some ⟨b0, o0, none⟩) b.length c0, v8] w' fun e w'' => e = .returned (.bool false) ∧ Below w'.heap.size w' w'') := Lib.hid (fun v8 w' h ho => by rw [← eq3]; exact kEqual_any b _ _ _ w' (hv.on h) ho.sb)
    have y1 : (b.length : Int) - 1 ≤ (c0 : Int) := by omega
    have y2 : (0 : Int) ≤ (b.length : Int) - 1 := by omega
    have y5 : (1 : Int) ≤ (b.length : Int) := by omega
    have y3 : ((b.length : Int) - 1).toNat = b.length - 1 := by omega
    have y4 : IntKind.i64.wrap ((b.length : Int) - 1) = (b.length : Int) - 1 := IntWalk.i64_in _ (by omega)
    clear eq1 eq2 eq3 hcell hbk
    refine wp_region_noPanic ?_
    refine wp_region_held_drew (S := fun w' => w'.cell? ⟨b0, o0 + k, none⟩ = some (.int .u8 (bk.toNat : Int))) (by kernel_rfl) (KS.out _ (bdrew b4)) (fun hHeld => ?_)
    refine reg_take 0 (v := ?_) (by rfl) (by kernel_rfl) (by kernel_rfl) (by kernel_rfl) (fun _ _ _ h => h) (by rfl) ?_ (by assumption) ?_
    rotate_left
    · (intro wq hSq; (try dsimp only at hSq); go_split_ands; go_simp; (try with_reducible rfl))
    try simp only [Act.put, List.setIfInBounds_toArray, List.set_cons_zero, List.set_cons_succ]
    refine reg_take 1 (v := ?_) (by rfl) (by kernel_rfl) (by kernel_rfl) (by kernel_rfl) (fun _ _ _ h => h) (by rfl) ?_ (by assumption) ?_
    rotate_left
    · (intro wq hSq; (try dsimp only at hSq); go_split_ands; go_simp; (try with_reducible rfl))
    try simp only [Act.put, List.setIfInBounds_toArray, List.set_cons_zero, List.set_cons_succ]
    refine reg_take 2 (v := ?_) (by rfl) (by kernel_rfl) (by kernel_rfl) (by kernel_rfl) (fun _ _ _ h => h) (by rfl) ?_ (by assumption) ?_
    rotate_left
    · (intro wq hSq; (try dsimp only at hSq); go_split_ands; go_simp; (try with_reducible rfl))
    try simp only [Act.put, List.setIfInBounds_toArray, List.set_cons_zero, List.set_cons_succ]
    refine reg_take 3 (v := ?_) (by rfl) (by kernel_rfl) (by kernel_rfl) (by kernel_rfl) (fun _ _ _ h => h) (by rfl) ?_ (by assumption) ?_
    rotate_left
    · (intro wq hSq; (try dsimp only at hSq); go_split_ands; go_simp; (try with_reducible rfl))
    try simp only [Act.put, List.setIfInBounds_toArray, List.set_cons_zero, List.set_cons_succ]
    refine reg_take 5 (v := ?_) (by rfl) (by kernel_rfl) (by kernel_rfl) (by kernel_rfl) (fun _ _ _ h => h) (by rfl) ?_ (by assumption) ?_
    rotate_left
    · (intro wq hSq; (try dsimp only at hSq); go_split_ands; go_simp; (try with_reducible rfl))
    try simp only [Act.put, List.setIfInBounds_toArray, List.set_cons_zero, List.set_cons_succ]
    refine reg_take 6 (v := ?_) (by rfl) (by kernel_rfl) (by kernel_rfl) (by kernel_rfl) (fun _ _ _ h => h) (by rfl) ?_ (by assumption) ?_
    rotate_left
    · (intro wq hSq; (try dsimp only at hSq); go_split_ands; go_simp; (try with_reducible rfl))
    try simp only [Act.put, List.setIfInBounds_toArray, List.set_cons_zero, List.set_cons_succ]
    refine reg_take 7 (v := ?_) (by rfl) (by kernel_rfl) (by kernel_rfl) (by kernel_rfl) (fun _ _ _ h => h) (by rfl) ?_ (by assumption) ?_
    rotate_left
    · (intro wq hSq; (try dsimp only at hSq); go_split_ands; go_simp; (try with_reducible rfl))
    try simp only [Act.put, List.setIfInBounds_toArray, List.set_cons_zero, List.set_cons_succ]
    refine reg_take 8 (v := ?_) (by rfl) (by kernel_rfl) (by kernel_rfl) (by kernel_rfl) (fun _ _ _ h => h) (by rfl) ?_ (by assumption) ?_
    rotate_left
    · (intro wq hSq; (try dsimp only at hSq); go_split_ands; go_simp; (try with_reducible rfl))
    try simp only [Act.put, List.setIfInBounds_toArray, List.set_cons_zero, List.set_cons_succ]
    refine reg_take 9 (v := ?_) (by rfl) (by kernel_rfl) (by kernel_rfl) (by kernel_rfl) (fun _ _ _ h => h) (by rfl) ?_ (by assumption) ?_
    rotate_left
    · (intro wq hSq; (try dsimp only at hSq); go_split_ands; go_simp; (try with_reducible rfl))
    try simp only [Act.put, List.setIfInBounds_toArray, List.set_cons_zero, List.set_cons_succ]
    refine reg_take 10 (v := ?_) (by rfl) (by kernel_rfl) (by kernel_rfl) (by kernel_rfl) (fun _ _ _ h => h) (by rfl) ?_ (by assumption) ?_
    rotate_left
    · (intro wq hSq; (try dsimp only at hSq); go_split_ands; go_simp; (try with_reducible rfl))
    try simp only [Act.put, List.setIfInBounds_toArray, List.set_cons_zero, List.set_cons_succ]
    refine reg_one 4 (by rfl) (by kernel_rfl) (by rfl) (fun K hK => ?_)
    (go_simp; go_at_call 13; refine HE1.out.mono ?_; rintro e w5 ⟨rfl, hb5⟩; have b5 := bstep (bdrew b4) hb5; go_wp2_with fail)
    refine hK.out _ _ ?_ (fun hHeld => ?_)
    · exact KS.out _ b5
    clear hK K
    try simp only [Act.put, List.setIfInBounds_toArray, List.set_cons_zero, List.set_cons_succ]
    refine reg_take 11 (v := ?_) (by rfl) (by kernel_rfl) (by kernel_rfl) (by kernel_rfl) (fun _ _ _ h => h) (by rfl) ?_ (by assumption) ?_
    rotate_left
    · (intro wq hSq; (try dsimp only at hSq); go_split_ands; go_simp; (try with_reducible rfl))
    try simp only [Act.put, List.setIfInBounds_toArray, List.set_cons_zero, List.set_cons_succ]
    refine reg_take 12 (v := ?_) (by rfl) (by kernel_rfl) (by kernel_rfl) (by kernel_rfl) (fun _ _ _ h => h) (by rfl) ?_ (by assumption) ?_
    rotate_left
    · (intro wq hSq; (try dsimp only at hSq); go_split_ands; go_simp; (try with_reducible rfl))
    try simp only [Act.put, List.setIfInBounds_toArray, List.set_cons_zero, List.set_cons_succ]
    refine reg_take 13 (v := ?_) (by rfl) (by kernel_rfl) (by kernel_rfl) (by kernel_rfl) (fun _ _ _ h => h) (by rfl) ?_ (by assumption) ?_
    rotate_left
    · (intro wq hSq; (try dsimp only at hSq); go_split_ands; go_simp; (try with_reducible rfl))
    try simp only [Act.put, List.setIfInBounds_toArray, List.set_cons_zero, List.set_cons_succ]
    refine reg_take 14 (v := ?_) (by rfl) (by kernel_rfl) (by kernel_rfl) (by kernel_rfl) (fun _ _ _ h => h) (by rfl) ?_ (by assumption) ?_
    rotate_left
    · (intro wq hSq; (try dsimp only at hSq); go_split_ands; go_simp; (try with_reducible rfl))
    try simp only [Act.put, List.setIfInBounds_toArray, List.set_cons_zero, List.set_cons_succ]
    refine reg_take 15 (v := ?_) (by rfl) (by kernel_rfl) (by kernel_rfl) (by kernel_rfl) (fun _ _ _ h => h) (by rfl) ?_ (by assumption) ?_
    rotate_left
    · (intro wq hSq; (try dsimp only at hSq); go_split_ands; go_simp; (try with_reducible rfl))
    try simp only [Act.put, List.setIfInBounds_toArray, List.set_cons_zero, List.set_cons_succ]
    refine reg_take 16 (v := ?_) (by rfl) (by kernel_rfl) (by kernel_rfl) (by kernel_rfl) (fun _ _ _ h => h) (by rfl) ?_ (by assumption) ?_
    rotate_left
    · (intro wq hSq; (try dsimp only at hSq); go_split_ands; go_simp; (try with_reducible rfl))
    try simp only [Act.put, List.setIfInBounds_toArray, List.set_cons_zero, List.set_cons_succ]
    refine reg_take 17 (v := ?_) (by rfl) (by kernel_rfl) (by kernel_rfl) (by kernel_rfl) (fun _ _ _ h => h) (by rfl) ?_ (by assumption) ?_
    rotate_left
    · (intro wq hSq; (try dsimp only at hSq); go_split_ands; go_simp; (try with_reducible rfl))
    try simp only [Act.put, List.setIfInBounds_toArray, List.set_cons_zero, List.set_cons_succ]
    refine reg_take 18 (v := ?_) (by rfl) (by kernel_rfl) (by kernel_rfl) (by kernel_rfl) (fun _ _ _ h => h) (by rfl) ?_ (by assumption) ?_
    rotate_left
    · (intro wq hSq; (try dsimp only at hSq); go_split_ands; go_simp; (try with_reducible rfl))
    try simp only [Act.put, List.setIfInBounds_toArray, List.set_cons_zero, List.set_cons_succ]
    refine reg_take 19 (v := ?_) (by rfl) (by kernel_rfl) (by kernel_rfl) (by kernel_rfl) (fun _ _ _ h => h) (by rfl) ?_ (by assumption) ?_
    rotate_left
    · (intro wq hSq; (try dsimp only at hSq); go_split_ands; go_simp; (try with_reducible rfl))
    try simp only [Act.put, List.setIfInBounds_toArray, List.set_cons_zero, List.set_cons_succ]
    refine reg_one 20 (by rfl) (by kernel_rfl) (by rfl) (fun K hK => ?_)
    (go_simp; go_at_call 13; refine (HE2.out _ b5).mono ?_; rintro e w6 ⟨rfl, hb6⟩; have b6 := bstep b5 hb6; go_wp2_with fail)
    refine hK.out _ _ ?_ (fun hHeld => ?_)
    · exact KS.out _ b6
    clear hK K
    try simp only [Act.put, List.setIfInBounds_toArray, List.set_cons_zero, List.set_cons_succ]
    refine reg_take 21 (v := ?_) (by rfl) (by kernel_rfl) (by kernel_rfl) (by kernel_rfl) (fun _ _ _ h => h) (by rfl) ?_ (by assumption) ?_
    rotate_left
    · (intro wq hSq; (try dsimp only at hSq); go_split_ands; go_simp; (try with_reducible rfl))
    try simp only [Act.put, List.setIfInBounds_toArray, List.set_cons_zero, List.set_cons_succ]
    refine reg_take 22 (v := ?_) (by rfl) (by kernel_rfl) (by kernel_rfl) (by kernel_rfl) (fun _ _ _ h => h) (by rfl) ?_ (by assumption) ?_
    rotate_left
    · (intro wq hSq; (try dsimp only at hSq); go_split_ands; go_simp; (try with_reducible rfl))
    try simp only [Act.put, List.setIfInBounds_toArray, List.set_cons_zero, List.set_cons_succ]
    refine reg_take 23 (v := ?_) (by rfl) (by kernel_rfl) (by kernel_rfl) (by kernel_rfl) (fun _ _ _ h => h) (by rfl) ?_ (by assumption) ?_
    rotate_left
    · (intro wq hSq; (try dsimp only at hSq); go_split_ands; go_simp; (try with_reducible rfl))
    try simp only [Act.put, List.setIfInBounds_toArray, List.set_cons_zero, List.set_cons_succ]
    refine reg_take 24 (v := ?_) (by rfl) (by kernel_rfl) (by kernel_rfl) (by kernel_rfl) (fun _ _ _ h => h) (by rfl) ?_ (by assumption) ?_
    rotate_left
    · (intro wq hSq; (try dsimp only at hSq); go_split_ands; go_simp; (try with_reducible rfl))
    try simp only [Act.put, List.setIfInBounds_toArray, List.set_cons_zero, List.set_cons_succ]
    refine reg_take 25 (v := ?_) (by rfl) (by kernel_rfl) (by kernel_rfl) (by kernel_rfl) (fun _ _ _ h => h) (by rfl) ?_ (by assumption) ?_
    rotate_left
    · (intro wq hSq; (try dsimp only at hSq); go_split_ands; go_simp; (try with_reducible rfl))
    try simp only [Act.put, List.setIfInBounds_toArray, List.set_cons_zero, List.set_cons_succ]
    refine reg_take 26 (v := ?_) (by rfl) (by kernel_rfl) (by kernel_rfl) (by kernel_rfl) (fun _ _ _ h => h) (by rfl) ?_ (by assumption) ?_
    rotate_left
    · (intro wq hSq; (try dsimp only at hSq); go_split_ands; go_simp; (try with_reducible rfl))
    try simp only [Act.put, List.setIfInBounds_toArray, List.set_cons_zero, List.set_cons_succ]
    have b46 : Below w4.heap.size w4 w6 := bstep (bstep (bdrew (bself w4)) hb5) hb6
    have z46 := b46.size
    have own6 : OB (w6.alloc (.cells #[.int .u8 (y.toNat : Int)] 5)) w1.heap.size (.slice (some ⟨g, 0, none⟩) b.length c3) (b.set k y) := OB.alloc (hown4.below b46 (Nat.le_refl _)) _
    have src6 : SB (w6.alloc (.cells #[.int .u8 (y.toNat : Int)] 5)) (w6.heap.size + 1) (.slice (some ⟨w6.heap.size, 0, none⟩) 1 1) [y] := SB.new1 w6 y
    have hlen6 : (b.set k y).length + [y].length ≤ 140737488355328 := by rw [hlx]; simp; omega
    have hbz6 : w1.heap.size ≤ (w6.alloc (.cells #[.int .u8 (y.toNat : Int)] 5)).heap.size := by rw [World.size_alloc]; omega
    refine reg_one 27 (by rfl) (by kernel_rfl) (by rfl) (fun K hK => ?_)
    (go_simp)
    refine hK.out _ _ ?_ (fun hHeld => ?_)
    · exact KS.out _ (balloc b6 _)
    clear hK K
    try simp only [Act.put, List.setIfInBounds_toArray, List.set_cons_zero, List.set_cons_succ]
    refine reg_one 28 (by rfl) (by kernel_rfl) (by rfl) (fun K hK => ?_)
    (refine wp_appB (.tmp 64) (.tmp 66) rfl w1.heap.size _ (b.set k y) rfl own6 (w6.heap.size + 1) _ [y] rfl src6 hlen6 hbz6 ?_; intro v8 w8 hown8 hg8 ho8 hb8; have b8 : Below W.heap.size W w8 := (balloc b6 _).trans (hb8.mono z1); have HC := Lib.hid (HE3.out v8 w8 b8 hown8); obtain ⟨A8, c8, e8, _, _, _⟩ := hown8.sb; obtain ⟨m8, hm8⟩ : ∃ m8, m8 = (b.set k y ++ [y]).length := ⟨_, rfl⟩; rw [← hm8] at e8; clear hm8 hown8 hg8 ho8 hb8; subst e8)
    refine hK.out _ _ ?_ (fun hHeld => ?_)
    · exact KS.out _ b8
    clear hK K
    try simp only [Act.put, List.setIfInBounds_toArray, List.set_cons_zero, List.set_cons_succ]
    refine reg_one 29 (by rfl) (by kernel_rfl) (by rfl) (fun K hK => ?_)
    (go_simp; go_at_call 13; refine HC.out.mono ?_; rintro e w9 ⟨rfl, hb9⟩; have b9 := bstep b8 hb9; go_wp2_with fail)
    refine hK.out _ _ ?_ (fun hHeld => ?_)
    · exact KS.out _ b9
    clear hK K
    try simp only [Act.put, List.setIfInBounds_toArray, List.set_cons_zero, List.set_cons_succ]
    refine reg_take 30 (v := ?_) (by rfl) (by kernel_rfl) (by kernel_rfl) (by kernel_rfl) (fun _ _ _ h => h) (by rfl) ?_ (by assumption) ?_
    rotate_left
    · (intro wq hSq; (try dsimp only at hSq); go_split_ands; go_simp; (try with_reducible rfl))
    try simp only [Act.put, List.setIfInBounds_toArray, List.set_cons_zero, List.set_cons_succ]
    refine reg_take 31 (v := ?_) (by rfl) (by kernel_rfl) (by kernel_rfl) (by kernel_rfl) (fun _ _ _ h => h) (by rfl) ?_ (by assumption) ?_
    rotate_left
    · (intro wq hSq; (try dsimp only at hSq); go_split_ands; go_simp; (try with_reducible rfl))
    try simp only [Act.put, List.setIfInBounds_toArray, List.set_cons_zero, List.set_cons_succ]
    refine reg_take 32 (v := ?_) (by rfl) (by kernel_rfl) (by kernel_rfl) (by kernel_rfl) (fun _ _ _ h => h) (by rfl) ?_ (by assumption) ?_
    rotate_left
    · (intro wq hSq; (try dsimp only at hSq); go_split_ands; go_simp; (try with_reducible rfl))
    try simp only [Act.put, List.setIfInBounds_toArray, List.set_cons_zero, List.set_cons_succ]
    refine wpAnyH_done (by kernel_rfl) (noPanic_mk ?_) _
    go_wp2_with fail
    go_ret
    exact ⟨rfl, b9⟩
end Go.Proofs.YtlkogeccmcmilaaDoor
