/-
  What is proved here: what Rises of ikey and of the reference, and the reference's Ahead, come to, at this seat's numbers. Condition: the list's length.
-/
import Derived.Test.YtoccmedadiangaaIkeyW3
import Derived.Lib.Bytealg
import Derived.WalkLawsBesides
namespace Go.Proofs.Ytoccmedadiangaa
open Go.RowKit

theorem aheadE_1 {a b : Ent} (h1 : Op.bytesLess a.user.toList b.user.toList = true) : aheadE a b = true := by unfold aheadE; rw [show ltB a.user.toList b.user.toList = true from h1]; rfl
set_option maxHeartbeats 1000000 in
theorem rAhead_any (a b : Ent) (w : World) :
    Calls Try.prog 52 #[entV a, entV b] w fun e w' => e = .returned (.bool (aheadE a b)) ∧ Below w.heap.size w w' := by
  go_enter Try.func52, Try.ntmps52
  go_wp2
  all_goals go_ret
  all_goals refine ⟨ret_bool ?_, (((Below.refl _ _).alloc (Nat.le_refl _) _).alloc (by simp) _)⟩
  all_goals unfold aheadE ltB
  all_goals first | (simp [*]; done) | (have e := ltB_irr b.user.toList; simp only [ltB] at e; simp [*])
theorem rises_iff : ∀ l : List Ent, risesE l = true ↔ ∀ k (h : k + 1 < l.length), aheadE (l[k]'(by omega)) l[k + 1] = true
  | [] => by simp [risesE]
  | [a] => by simp [risesE]
  | a :: b :: l => by
    rw [risesE, Bool.and_eq_true, rises_iff (b :: l)]
    refine ⟨fun ⟨h1, h2⟩ k hk => ?_, fun h => ⟨h 0 (by simp), fun k hk => ?_⟩⟩
    · cases k with
      | zero => exact h1
      | succ k => exact h2 k (by simpa using hk)
    · exact h (k + 1) (by simpa using hk)
theorem rises_bad {l : List Ent} {k : Nat} (hk : k + 1 < l.length) (h : aheadE (l[k]'(by omega)) l[k + 1] = false) : risesE l = false := by
  cases hr : risesE l with
  | false => rfl
  | true => rw [(rises_iff l).1 hr k hk] at h; cases h
theorem rises_step {l : List Ent} {k : Nat} {x y : Ent} (hp : Hid (∀ j (h : j + 1 < l.length), j < k → aheadE (l[j]'(by omega)) l[j + 1] = true)) (hlt : k + 1 < l.length) (HX : Hid (x = l[k]'(by omega) ∧ y = l[k + 1])) (F3 : Hid (aheadE x y = true)) :
    Hid (∀ j (h : j + 1 < l.length), j < k + 1 → aheadE (l[j]'(by omega)) l[j + 1] = true) := by
  refine Lib.hid (fun j hj hjk => ?_)
  rcases Nat.lt_or_ge j k with h | h
  · exact hp.out j hj h
  · obtain rfl : j = k := by omega
    rw [← HX.out.1, ← HX.out.2]; exact F3.out
/-- the three ways that two texts stand -/
theorem three (x y : Ent) : (Op.bytesLess x.user.toList y.user.toList = true ∧ (x.user.toList == y.user.toList) = false ∧ aheadE x y = true) ∨
    (Op.bytesLess x.user.toList y.user.toList = false ∧ (x.user.toList == y.user.toList) = true ∧ aheadE x y = decide (y.seq.toNat < x.seq.toNat)) ∨
    (Op.bytesLess x.user.toList y.user.toList = false ∧ (x.user.toList == y.user.toList) = false ∧ aheadE x y = false) := by
  unfold aheadE
  cases h1 : ltB x.user.toList y.user.toList with
  | true =>
    left
    refine ⟨h1, ?_, by simp⟩
    rw [beq_eq_false_iff_ne]
    intro e
    rw [e, ltB_irr] at h1
    cases h1
  | false =>
    right
    cases h2 : (x.user.toList == y.user.toList) with
    | true => left; exact ⟨h1, rfl, by simp⟩
    | false => right; exact ⟨h1, rfl, by simp⟩

set_option maxRecDepth 100000 in
set_option maxHeartbeats 4000000 in
theorem iRises_any (v : Value) (l : List Ent) (w : World) (hv : SE w w.heap.size v l) (hl : l.length ≤ 140737488351232) :
    Calls Try.prog 18 #[v] w fun e w' => e = .returned (.bool (risesE l)) ∧ Below w.heap.size w w' := by
  obtain ⟨A, c, rfl, hlc, hcm, hr⟩ := hv
  have hcm' : c ≤ 9223372036854775807 := by unfold maxLen at hcm; omega
  clear hcm
  go_enter Try.func18, Try.ntmps18
  go_wp2
  go_loopw [3] (fun i wr => ∃ k : Nat, i = .int .i64 ((k : Int) + 1) ∧ k ≤ l.length ∧ Hid (∀ j (h : j + 1 < l.length), j < k → aheadE (l[j]'(by omega)) l[j + 1] = true) ∧ Below w.heap.size w wr) (fun i _ => l.length + 1 - (intOf i).toNat)
  case atStart => exact ⟨0, rfl, Nat.zero_le _, Lib.hid (fun j _ h => by omega), Below.refl _ _⟩
  case round =>
    obtain ⟨k, rfl, hk, hp, hbr⟩ := hrel
    by_cases hlt : k + 1 < l.length
    · obtain ⟨b, o, rfl, hb, c0, c1, c2, c3⟩ := (hr.below hbr).ent rfl (k := k) (by omega)
      obtain ⟨b', o', he, hb', d0, d1, d2, d3⟩ := (hr.below hbr).ent rfl (k := k + 1) hlt
      injection he with he
      injection he with he1 he2
      subst he1; subst he2
      obtain ⟨x, hx⟩ : ∃ x, x = l[k] := ⟨_, rfl⟩
      obtain ⟨y, hy⟩ : ∃ y, y = l[k + 1] := ⟨_, rfl⟩
      rw [← hx] at c0 c1 c2 c3
      rw [← hy] at d0 d1 d2 d3
      have HX := Lib.hid (And.intro hx hy)
      clear hx hy
      have hsz := hbr.size
      have keepS : ∀ w', Below wr.heap.size wr w' → (w'.cell? ⟨b, o + k * 4, none⟩ = some (.string x.user) ∧ w'.cell? ⟨b, o + k * 4 + 1, none⟩ = some (.int .u64 (x.seq.toNat : Int)) ∧ w'.cell? ⟨b, o + k * 4 + 2, none⟩ = some (.int .u8 (x.kind.toNat : Int)) ∧ w'.cell? ⟨b, o + k * 4 + 3, none⟩ = some (.string x.value) ∧ w'.cell? ⟨b, o + (k + 1) * 4, none⟩ = some (.string y.user) ∧ w'.cell? ⟨b, o + (k + 1) * 4 + 1, none⟩ = some (.int .u64 (y.seq.toNat : Int)) ∧ w'.cell? ⟨b, o + (k + 1) * 4 + 2, none⟩ = some (.int .u8 (y.kind.toNat : Int)) ∧ w'.cell? ⟨b, o + (k + 1) * 4 + 3, none⟩ = some (.string y.value)) := fun w' h' =>
        ⟨(h'.cell (by simp; omega)).trans c0, (h'.cell (by simp; omega)).trans c1, (h'.cell (by simp; omega)).trans c2, (h'.cell (by simp; omega)).trans c3, (h'.cell (by simp; omega)).trans d0, (h'.cell (by simp; omega)).trans d1, (h'.cell (by simp; omega)).trans d2, (h'.cell (by simp; omega)).trans d3⟩
      have KS := Lib.hid keepS
      clear keepS c0 c1 c2 c3 d0 d1 d2 d3
      have gi : IntKind.i64.wrap (k : Int) = (k : Int) := IntWalk.i64_in _ (by omega)
      have hlt2 : k < l.length := by omega
      have hlt3 : (0 : Int) ≤ (k : Int) + 1 := by omega
      have hxs := u64_lt x.seq
      have hys := u64_lt y.seq
      have h3 := three x y
      rcases h3 with ⟨f1, f2, f3⟩ | ⟨f1, f2, f3⟩ | ⟨f1, f2, f3⟩
      · have F3 := Lib.hid f3
        clear f3
        go_wp2
        go_region_held3 (fun w' => w'.cell? ⟨b, o + k * 4, none⟩ = some (.string x.user) ∧ w'.cell? ⟨b, o + k * 4 + 1, none⟩ = some (.int .u64 (x.seq.toNat : Int)) ∧ w'.cell? ⟨b, o + k * 4 + 2, none⟩ = some (.int .u8 (x.kind.toNat : Int)) ∧ w'.cell? ⟨b, o + k * 4 + 3, none⟩ = some (.string x.value) ∧ w'.cell? ⟨b, o + (k + 1) * 4, none⟩ = some (.string y.user) ∧ w'.cell? ⟨b, o + (k + 1) * 4 + 1, none⟩ = some (.int .u64 (y.seq.toNat : Int)) ∧ w'.cell? ⟨b, o + (k + 1) * 4 + 2, none⟩ = some (.int .u8 (y.kind.toNat : Int)) ∧ w'.cell? ⟨b, o + (k + 1) * 4 + 3, none⟩ = some (.string y.value)) (exact KS.out _ (by repeat (first | exact bself wr | refine bdrew ?_ | refine balloc ?_ _))) (fail)
        all_goals go_wp2
        all_goals
          go_roundw
          case rel => exact ⟨k + 1, by go_num, by omega, rises_step hp hlt HX F3, bstep hbr (by repeat (first | exact bself wr | refine bdrew ?_ | refine balloc ?_ _))⟩
          case measure => simp [intOf]; omega
      · by_cases hs : y.seq.toNat < x.seq.toNat
        · have F3 : Hid (aheadE x y = true) := Lib.hid (by rw [f3]; simpa using hs)
          clear f3
          go_wp2
          go_region_held3 (fun w' => w'.cell? ⟨b, o + k * 4, none⟩ = some (.string x.user) ∧ w'.cell? ⟨b, o + k * 4 + 1, none⟩ = some (.int .u64 (x.seq.toNat : Int)) ∧ w'.cell? ⟨b, o + k * 4 + 2, none⟩ = some (.int .u8 (x.kind.toNat : Int)) ∧ w'.cell? ⟨b, o + k * 4 + 3, none⟩ = some (.string x.value) ∧ w'.cell? ⟨b, o + (k + 1) * 4, none⟩ = some (.string y.user) ∧ w'.cell? ⟨b, o + (k + 1) * 4 + 1, none⟩ = some (.int .u64 (y.seq.toNat : Int)) ∧ w'.cell? ⟨b, o + (k + 1) * 4 + 2, none⟩ = some (.int .u8 (y.kind.toNat : Int)) ∧ w'.cell? ⟨b, o + (k + 1) * 4 + 3, none⟩ = some (.string y.value)) (exact KS.out _ (by repeat (first | exact bself wr | refine bdrew ?_ | refine balloc ?_ _))) (fail)
          all_goals go_wp2
          all_goals
            go_roundw
            case rel => exact ⟨k + 1, by go_num, by omega, rises_step hp hlt HX F3, bstep hbr (by repeat (first | exact bself wr | refine bdrew ?_ | refine balloc ?_ _))⟩
            case measure => simp [intOf]; omega
        · have F3 : Hid (aheadE x y = false) := Lib.hid (by rw [f3]; simpa using hs)
          clear f3
          go_wp2
          go_region_held3 (fun w' => w'.cell? ⟨b, o + k * 4, none⟩ = some (.string x.user) ∧ w'.cell? ⟨b, o + k * 4 + 1, none⟩ = some (.int .u64 (x.seq.toNat : Int)) ∧ w'.cell? ⟨b, o + k * 4 + 2, none⟩ = some (.int .u8 (x.kind.toNat : Int)) ∧ w'.cell? ⟨b, o + k * 4 + 3, none⟩ = some (.string x.value) ∧ w'.cell? ⟨b, o + (k + 1) * 4, none⟩ = some (.string y.user) ∧ w'.cell? ⟨b, o + (k + 1) * 4 + 1, none⟩ = some (.int .u64 (y.seq.toNat : Int)) ∧ w'.cell? ⟨b, o + (k + 1) * 4 + 2, none⟩ = some (.int .u8 (y.kind.toNat : Int)) ∧ w'.cell? ⟨b, o + (k + 1) * 4 + 3, none⟩ = some (.string y.value)) (exact KS.out _ (by repeat (first | exact bself wr | refine bdrew ?_ | refine balloc ?_ _))) (fail)
          all_goals go_wp2
          all_goals
            go_ret
            exact ⟨ret_bool (rises_bad hlt (by rw [← HX.out.1, ← HX.out.2]; exact F3.out)).symm, bstep hbr (by repeat (first | exact bself wr | refine bdrew ?_ | refine balloc ?_ _))⟩
      · have F3 := Lib.hid f3
        clear f3
        go_wp2
        go_region_held3 (fun w' => w'.cell? ⟨b, o + k * 4, none⟩ = some (.string x.user) ∧ w'.cell? ⟨b, o + k * 4 + 1, none⟩ = some (.int .u64 (x.seq.toNat : Int)) ∧ w'.cell? ⟨b, o + k * 4 + 2, none⟩ = some (.int .u8 (x.kind.toNat : Int)) ∧ w'.cell? ⟨b, o + k * 4 + 3, none⟩ = some (.string x.value) ∧ w'.cell? ⟨b, o + (k + 1) * 4, none⟩ = some (.string y.user) ∧ w'.cell? ⟨b, o + (k + 1) * 4 + 1, none⟩ = some (.int .u64 (y.seq.toNat : Int)) ∧ w'.cell? ⟨b, o + (k + 1) * 4 + 2, none⟩ = some (.int .u8 (y.kind.toNat : Int)) ∧ w'.cell? ⟨b, o + (k + 1) * 4 + 3, none⟩ = some (.string y.value)) (exact KS.out _ (by repeat (first | exact bself wr | refine bdrew ?_ | refine balloc ?_ _))) (fail)
        all_goals go_wp2
        all_goals
          go_ret
          exact ⟨ret_bool (rises_bad hlt (by rw [← HX.out.1, ← HX.out.2]; exact F3.out)).symm, bstep hbr (by repeat (first | exact bself wr | refine bdrew ?_ | refine balloc ?_ _))⟩
    · go_wp2
      go_ret
      refine ⟨ret_bool ?_, hbr⟩
      exact ((rises_iff l).2 (fun j hj => hp.out j hj (by omega))).symm

set_option maxRecDepth 100000 in
set_option maxHeartbeats 4000000 in
theorem rRises_any (v : Value) (l : List Ent) (w : World) (hv : SE w w.heap.size v l) (hl : l.length ≤ 140737488351232) :
    Calls Try.prog 44 #[v] w fun e w' => e = .returned (.bool (risesE l)) ∧ Below w.heap.size w w' := by
  obtain ⟨A, c, rfl, hlc, hcm, hr⟩ := hv
  have hcm' : c ≤ 9223372036854775807 := by unfold maxLen at hcm; omega
  clear hcm
  go_enter Try.func44, Try.ntmps44
  go_wp2
  go_loopw [3] (fun i wr => ∃ k : Nat, i = .int .i64 ((k : Int) + 1) ∧ k ≤ l.length ∧ Hid (∀ j (h : j + 1 < l.length), j < k → aheadE (l[j]'(by omega)) l[j + 1] = true) ∧ Below w.heap.size w wr) (fun i _ => l.length + 1 - (intOf i).toNat)
  case atStart => exact ⟨0, rfl, Nat.zero_le _, Lib.hid (fun j _ h => by omega), Below.refl _ _⟩
  case round =>
    obtain ⟨k, rfl, hk, hp, hbr⟩ := hrel
    by_cases hlt : k + 1 < l.length
    · obtain ⟨b, o, rfl, hb, c0, c1, c2, c3⟩ := (hr.below hbr).ent rfl (k := k) (by omega)
      obtain ⟨b', o', he, hb', d0, d1, d2, d3⟩ := (hr.below hbr).ent rfl (k := k + 1) hlt
      injection he with he
      injection he with he1 he2
      subst he1; subst he2
      obtain ⟨x, hx⟩ : ∃ x, x = l[k] := ⟨_, rfl⟩
      obtain ⟨y, hy⟩ : ∃ y, y = l[k + 1] := ⟨_, rfl⟩
      rw [← hx] at c0 c1 c2 c3
      rw [← hy] at d0 d1 d2 d3
      have HX := Lib.hid (And.intro hx hy)
      clear hx hy
      have hsz := hbr.size
      have keepS : ∀ w', Below wr.heap.size wr w' → (w'.cell? ⟨b, o + k * 4, none⟩ = some (.string x.user) ∧ w'.cell? ⟨b, o + k * 4 + 1, none⟩ = some (.int .u64 (x.seq.toNat : Int)) ∧ w'.cell? ⟨b, o + k * 4 + 2, none⟩ = some (.int .u8 (x.kind.toNat : Int)) ∧ w'.cell? ⟨b, o + k * 4 + 3, none⟩ = some (.string x.value) ∧ w'.cell? ⟨b, o + (k + 1) * 4, none⟩ = some (.string y.user) ∧ w'.cell? ⟨b, o + (k + 1) * 4 + 1, none⟩ = some (.int .u64 (y.seq.toNat : Int)) ∧ w'.cell? ⟨b, o + (k + 1) * 4 + 2, none⟩ = some (.int .u8 (y.kind.toNat : Int)) ∧ w'.cell? ⟨b, o + (k + 1) * 4 + 3, none⟩ = some (.string y.value)) := fun w' h' =>
        ⟨(h'.cell (by simp; omega)).trans c0, (h'.cell (by simp; omega)).trans c1, (h'.cell (by simp; omega)).trans c2, (h'.cell (by simp; omega)).trans c3, (h'.cell (by simp; omega)).trans d0, (h'.cell (by simp; omega)).trans d1, (h'.cell (by simp; omega)).trans d2, (h'.cell (by simp; omega)).trans d3⟩
      have KS := Lib.hid keepS
      clear keepS c0 c1 c2 c3 d0 d1 d2 d3
      have gi : IntKind.i64.wrap (k : Int) = (k : Int) := IntWalk.i64_in _ (by omega)
      have hlt2 : k < l.length := by omega
      have hlt3 : (0 : Int) ≤ (k : Int) + 1 := by omega
      go_wp2
      refine wp_region_noPanic ?_
      refine wp_region_held_drew (S := fun w' => w'.cell? ⟨b, o + k * 4, none⟩ = some (.string x.user) ∧ w'.cell? ⟨b, o + k * 4 + 1, none⟩ = some (.int .u64 (x.seq.toNat : Int)) ∧ w'.cell? ⟨b, o + k * 4 + 2, none⟩ = some (.int .u8 (x.kind.toNat : Int)) ∧ w'.cell? ⟨b, o + k * 4 + 3, none⟩ = some (.string x.value) ∧ w'.cell? ⟨b, o + (k + 1) * 4, none⟩ = some (.string y.user) ∧ w'.cell? ⟨b, o + (k + 1) * 4 + 1, none⟩ = some (.int .u64 (y.seq.toNat : Int)) ∧ w'.cell? ⟨b, o + (k + 1) * 4 + 2, none⟩ = some (.int .u8 (y.kind.toNat : Int)) ∧ w'.cell? ⟨b, o + (k + 1) * 4 + 3, none⟩ = some (.string y.value)) (by kernel_rfl) (KS.out _ (bdrew (bself wr))) (fun hHeld => ?_)
      refine reg_take 0 (v := ?_) (by rfl) (by kernel_rfl) (by kernel_rfl) (by kernel_rfl) (fun _ _ _ h => h) (by rfl) ?_ (by assumption) ?_
      rotate_left
      · (intro wq hSq; (try dsimp only at hSq); go_split_ands; go_simp; (try with_reducible rfl))
      try simp only [Act.put, List.setIfInBounds_toArray, List.set_cons_zero, List.set_cons_succ]
      refine reg_take 1 (v := ?_) (by rfl) (by kernel_rfl) (by kernel_rfl) (by kernel_rfl) (fun _ _ _ h => h) (by rfl) ?_ (by assumption) ?_
      rotate_left
      · (intro wq hSq; (try dsimp only at hSq); go_split_ands; go_simp; (try with_reducible rfl))
      try simp only [Act.put, List.setIfInBounds_toArray, List.set_cons_zero, List.set_cons_succ]
      refine reg_take 2 (v := ?_) (by rfl) (by kernel_rfl) (by kernel_rfl) (by kernel_rfl) (fun _ _ _ h => h) (by rfl) ?_ (by assumption) ?_
      rotate_left
      · (intro wq hSq; (try dsimp only at hSq); go_split_ands; go_simp; (try with_reducible rfl))
      try simp only [Act.put, List.setIfInBounds_toArray, List.set_cons_zero, List.set_cons_succ]
      refine reg_take 3 (v := ?_) (by rfl) (by kernel_rfl) (by kernel_rfl) (by kernel_rfl) (fun _ _ _ h => h) (by rfl) ?_ (by assumption) ?_
      rotate_left
      · (intro wq hSq; (try dsimp only at hSq); go_split_ands; go_simp; (try with_reducible rfl))
      try simp only [Act.put, List.setIfInBounds_toArray, List.set_cons_zero, List.set_cons_succ]
      refine reg_take 4 (v := ?_) (by rfl) (by kernel_rfl) (by kernel_rfl) (by kernel_rfl) (fun _ _ _ h => h) (by rfl) ?_ (by assumption) ?_
      rotate_left
      · (intro wq hSq; (try dsimp only at hSq); go_split_ands; go_simp; (try with_reducible rfl))
      try simp only [Act.put, List.setIfInBounds_toArray, List.set_cons_zero, List.set_cons_succ]
      refine reg_take 5 (v := ?_) (by rfl) (by kernel_rfl) (by kernel_rfl) (by kernel_rfl) (fun _ _ _ h => h) (by rfl) ?_ (by assumption) ?_
      rotate_left
      · (intro wq hSq; (try dsimp only at hSq); go_split_ands; go_simp; (try with_reducible rfl))
      try simp only [Act.put, List.setIfInBounds_toArray, List.set_cons_zero, List.set_cons_succ]
      refine reg_take 6 (v := ?_) (by rfl) (by kernel_rfl) (by kernel_rfl) (by kernel_rfl) (fun _ _ _ h => h) (by rfl) ?_ (by assumption) ?_
      rotate_left
      · (intro wq hSq; (try dsimp only at hSq); go_split_ands; go_simp; (try with_reducible rfl))
      try simp only [Act.put, List.setIfInBounds_toArray, List.set_cons_zero, List.set_cons_succ]
      refine reg_take 7 (v := ?_) (by rfl) (by kernel_rfl) (by kernel_rfl) (by kernel_rfl) (fun _ _ _ h => h) (by rfl) ?_ (by assumption) ?_
      rotate_left
      · (intro wq hSq; (try dsimp only at hSq); go_split_ands; go_simp; (try with_reducible rfl))
      try simp only [Act.put, List.setIfInBounds_toArray, List.set_cons_zero, List.set_cons_succ]
      refine reg_take 8 (v := ?_) (by rfl) (by kernel_rfl) (by kernel_rfl) (by kernel_rfl) (fun _ _ _ h => h) (by rfl) ?_ (by assumption) ?_
      rotate_left
      · (intro wq hSq; (try dsimp only at hSq); go_split_ands; go_simp; (try with_reducible rfl))
      try simp only [Act.put, List.setIfInBounds_toArray, List.set_cons_zero, List.set_cons_succ]
      refine reg_one 9 (by rfl) (by kernel_rfl) (by rfl) (fun K hK => ?_)
      (go_simp; go_at_call 52; refine (rAhead_any x y _).mono ?_; rintro e w5 ⟨rfl, hb5⟩; go_wp2_with fail)
      refine hK.out _ _ ?_ (fun hHeld => ?_)
      · exact KS.out _ (bstep (bdrew (bself wr)) hb5)
      clear hK K
      try simp only [Act.put, List.setIfInBounds_toArray, List.set_cons_zero, List.set_cons_succ]
      refine reg_take 10 (v := ?_) (by rfl) (by kernel_rfl) (by kernel_rfl) (by kernel_rfl) (fun _ _ _ h => h) (by rfl) ?_ (by assumption) ?_
      rotate_left
      · (intro wq hSq; (try dsimp only at hSq); go_split_ands; go_simp; (try with_reducible rfl))
      try simp only [Act.put, List.setIfInBounds_toArray, List.set_cons_zero, List.set_cons_succ]
      refine wpAnyH_done (by kernel_rfl) (noPanic_mk ?_) _
      have hb6 : Below w.heap.size w w5 := bstep hbr (bstep (bdrew (bself wr)) hb5)
      cases hF : aheadE x y with
      | true =>
        have F3 := Lib.hid hF
        clear hF
        go_wp2
        go_roundw
        case rel => exact ⟨k + 1, by go_num, by omega, rises_step hp hlt HX F3, hb6⟩
        case measure => simp [intOf]; omega
      | false =>
        have F3 := Lib.hid hF
        clear hF
        go_wp2
        go_ret
        exact ⟨ret_bool (rises_bad hlt (by rw [← HX.out.1, ← HX.out.2]; exact F3.out)).symm, hb6⟩
    · go_wp2
      go_ret
      refine ⟨ret_bool ?_, hbr⟩
      exact ((rises_iff l).2 (fun j hj => hp.out j hj (by omega))).symm
end Go.Proofs.Ytoccmedadiangaa
