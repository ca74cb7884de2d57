/-
  What is proved here: what Between and After of ikey and of the reference come to, at this seat's numbers. Conditions: the texts' lengths.
-/
import Derived.Test.YtfdmemfdhakcbaaIkeyW3
namespace Go.Proofs.Ytfdmemfdhakcbaa
open Go.RowKit

theorem partAt_go : ∀ (a b : List UInt8) (k : Nat), k ≤ partAt a b → ∀ (h1 : k < a.length) (h2 : k < b.length), (a[k] = b[k] → k + 1 ≤ partAt a b) ∧ (a[k] ≠ b[k] → partAt a b = k)
  | [], _, _, _, h1, _ => by simp at h1
  | _ :: _, [], _, _, _, h2 => by simp at h2
  | x :: a, y :: b, 0, _, _, _ => by
    refine ⟨fun h => ?_, fun h => ?_⟩
    · simp only [List.getElem_cons_zero] at h
      simp [partAt, h]
    · simp only [List.getElem_cons_zero] at h
      simp [partAt, h]
  | x :: a, y :: b, k + 1, h, h1, h2 => by
    rw [partAt] at h
    by_cases e : x = y
    · rw [if_pos e] at h
      have ih := partAt_go a b k (by omega) (by simpa using h1) (by simpa using h2)
      simp only [List.getElem_cons_succ]
      rw [partAt, if_pos e]
      exact ⟨fun h => by have := ih.1 h; omega, fun h => by have := ih.2 h; omega⟩
    · rw [if_neg e] at h; omega
theorem lowAt_go : ∀ (a : List UInt8) (k : Nat), k ≤ lowAt a → ∀ (h1 : k < a.length), (a[k].toNat = 255 → k + 1 ≤ lowAt a) ∧ (a[k].toNat ≠ 255 → lowAt a = k)
  | [], _, _, h1 => by simp at h1
  | x :: a, 0, _, _ => by
    refine ⟨fun h => ?_, fun h => ?_⟩
    · simp only [List.getElem_cons_zero] at h
      simp [lowAt, h]
    · simp only [List.getElem_cons_zero] at h
      simp [lowAt, h]
  | x :: a, k + 1, h, h1 => by
    rw [lowAt] at h
    by_cases e : x.toNat = 255
    · rw [if_pos e] at h
      have ih := lowAt_go a k (by omega) (by simpa using h1)
      simp only [List.getElem_cons_succ]
      rw [lowAt, if_pos e]
      exact ⟨fun h => by have := ih.1 h; omega, fun h => by have := ih.2 h; omega⟩
    · rw [if_neg e] at h; omega
theorem lowAt_le : ∀ a, lowAt a ≤ a.length
  | [] => Nat.le_refl _
  | x :: a => by
    rw [lowAt]
    have := lowAt_le a
    split <;> simp <;> omega
theorem raise_eq (s : ByteArray) (k : Nat) (h : k < s.size) (y : UInt8) (hy : s[k] = y) : s.extract 0 k ++ (⟨#[UInt8.ofNat (y.toNat + 1)]⟩ : ByteArray) = ⟨(raise s.data.toList k).toArray⟩ := by
  have hs := toList_size s
  have h1 : s.data.toList[k]? = some y := by
    rw [List.getElem?_eq_getElem (by omega), ← hy]; rfl
  apply ByteArray.ext
  apply Array.toList_inj.1
  have h2 := Lib.extract_data s 0 k
  unfold raise
  rw [h1]
  simp only [ByteArray.data_append, Array.toList_append, h2]
  simp
theorem sget (s : ByteArray) (k : Nat) (h : k < s.size) : s.data.toList[k]'(by rw [toList_size]; exact h) = s[k] := rfl
theorem byteUp (y : UInt8) (h : y.toNat < 255) : IntKind.u8.wrap ((y.toNat : Int) + 1) = ((UInt8.ofNat (y.toNat + 1)).toNat : Int) := by
  rw [UInt8.toNat_ofNat', IntKind.wrap_u8]; omega

set_option maxRecDepth 100000 in
set_option maxHeartbeats 1000000 in
theorem iBetween_any (a b : ByteArray) (w : World) (ha : a.size ≤ 140737488351232) (hb : b.size ≤ 140737488351232) :
    Calls Try.prog 19 #[.string a, .string b] w fun en w' => en = .returned (.string ⟨(between a.data.toList b.data.toList).toArray⟩) ∧ Below w.heap.size w w' := by
  have hsa := toList_size a
  have hsb := toList_size b
  have HA := Lib.hid hsa
  have HB := Lib.hid hsb
  clear hsa hsb
  go_enter Try.func19, Try.ntmps19
  go_wp2
  all_goals
    go_loopw [11] (fun i wr => ∃ k n : Nat, i = .int .i64 k ∧ k ≤ a.size ∧ k ≤ b.size ∧ wr = w.drewN n ∧ Hid (k ≤ partAt a.data.toList b.data.toList)) (fun i _ => a.size - (intOf i).toNat)
    case atStart => exact ⟨0, 0, rfl, Nat.zero_le _, Nat.zero_le _, rfl, Nat.zero_le _⟩
    case round =>
      obtain ⟨k, n, rfl, hka, hkb, rfl, hp⟩ := hrel
      by_cases hlt : k < a.size ∧ k < b.size
      · obtain ⟨h1, h2⟩ := hlt
        have hgo := partAt_go a.data.toList b.data.toList k hp.out (by rw [HA.out]; exact h1) (by rw [HB.out]; exact h2)
        obtain ⟨y, hy⟩ : ∃ y, y = a[k] := ⟨_, rfl⟩
        obtain ⟨z, hz⟩ : ∃ z, z = b[k] := ⟨_, rfl⟩
        rw [sget a k h1, sget b k h2, ← hy, ← hz] at hgo
        have HG := Lib.hid hgo
        have HY := Lib.hid hy
        have HZ := Lib.hid hz
        have ey := hy.symm
        have ez := hz.symm
        have hy8 := u8_lt y
        have hz8 := u8_lt z
        clear hgo hy hz
        by_cases hyz : y.toNat = z.toNat
        · have t1 : ((y.toNat : Int) == (z.toNat : Int)) = true := by rw [beq_iff_eq]; omega
          have HE : Hid (y = z) := Lib.hid (UInt8.toNat_inj.1 hyz)
          clear hyz
          go_wp2
          go_quiet (fail)
          go_wp2
          go_roundw
          case rel => exact ⟨k + 1, _, by go_num, by omega, by omega, rfl, HG.out.1 HE.out⟩
          case measure => simp [intOf]; omega
        · have t1 : ((y.toNat : Int) == (z.toNat : Int)) = false := by rw [beq_eq_false_iff_ne]; omega
          have hpk : partAt a.data.toList b.data.toList = k := HG.out.2 (fun e => hyz (by rw [e]))
          have HPK := Lib.hid hpk
          have hga : (a.data.toList[k]?.getD 0) = y := by rw [List.getElem?_eq_getElem (by rw [HA.out]; exact h1)]; exact HY.out.symm
          have hgb : (b.data.toList[k]?.getD 0) = z := by rw [List.getElem?_eq_getElem (by rw [HB.out]; exact h2)]; exact HZ.out.symm
          have HGG := Lib.hid (And.intro hga hgb)
          clear hpk hga hgb
          by_cases hlt2 : y.toNat + 2 ≤ z.toNat
          · have gs : IntKind.u8.wrap ((z.toNat : Int) - (y.toNat : Int)) = (z.toNat : Int) - (y.toNat : Int) := by rw [IntKind.wrap_u8]; omega
            have t2 : decide (y.toNat < z.toNat) = true := by simp; omega
            have t3 : decide ((1 : Int) < (z.toNat : Int) - (y.toNat : Int)) = true := by simp; omega
            have hbu := byteUp y (by omega)
            have hre := raise_eq a k h1 y ey
            obtain ⟨x, hx⟩ : ∃ x, x = UInt8.ofNat (y.toNat + 1) := ⟨_, rfl⟩
            obtain ⟨sv, hsv⟩ : ∃ sv : ByteArray, sv = ⟨(raise a.data.toList k).toArray⟩ := ⟨_, rfl⟩
            rw [← hx] at hbu hre
            rw [← hsv] at hre
            have HSV := Lib.hid hsv
            have f1 : ¬ 9223372036854775807 < k + 1 := by omega
            clear hx hsv
            go_wp2
            go_quiet (fail)
            go_wp2
            go_quiet (fail)
            go_wp2
            refine wp_region_noPanic ?_
            refine wp_region_held_drew (S := fun _ => True) (by kernel_rfl) trivial (fun hHeld => ?_)
            refine reg_take 0 (v := ?_) (by rfl) (by kernel_rfl) (by kernel_rfl) (by kernel_rfl) (fun _ _ _ h => h) (by rfl) ?_ (by assumption) ?_
            rotate_left
            · (intro wq hSq; (try dsimp only at hSq); go_split_ands; go_simp; (try with_reducible rfl))
            try simp only [Act.put, List.setIfInBounds_toArray, List.set_cons_zero, List.set_cons_succ]
            refine reg_take 1 (v := ?_) (by rfl) (by kernel_rfl) (by kernel_rfl) (by kernel_rfl) (fun _ _ _ h => h) (by rfl) ?_ (by assumption) ?_
            rotate_left
            · (intro wq hSq; (try dsimp only at hSq); go_split_ands; go_simp; (try with_reducible rfl))
            try simp only [Act.put, List.setIfInBounds_toArray, List.set_cons_zero, List.set_cons_succ]
            refine reg_take 2 (v := ?_) (by rfl) (by kernel_rfl) (by kernel_rfl) (by kernel_rfl) (fun _ _ _ h => h) (by rfl) ?_ (by assumption) ?_
            rotate_left
            · (intro wq hSq; (try dsimp only at hSq); go_split_ands; go_simp; (try with_reducible rfl))
            try simp only [Act.put, List.setIfInBounds_toArray, List.set_cons_zero, List.set_cons_succ]
            refine reg_take 3 (v := ?_) (by rfl) (by kernel_rfl) (by kernel_rfl) (by kernel_rfl) (fun _ _ _ h => h) (by rfl) ?_ (by assumption) ?_
            rotate_left
            · (intro wq hSq; (try dsimp only at hSq); go_split_ands; go_simp; (try with_reducible rfl))
            try simp only [Act.put, List.setIfInBounds_toArray, List.set_cons_zero, List.set_cons_succ]
            refine reg_take 4 (v := ?_) (by rfl) (by kernel_rfl) (by kernel_rfl) (by kernel_rfl) (fun _ _ _ h => h) (by rfl) ?_ (by assumption) ?_
            rotate_left
            · (intro wq hSq; (try dsimp only at hSq); go_split_ands; go_simp; (try with_reducible rfl))
            try simp only [Act.put, List.setIfInBounds_toArray, List.set_cons_zero, List.set_cons_succ]
            refine reg_take 5 (v := ?_) (by rfl) (by kernel_rfl) (by kernel_rfl) (by kernel_rfl) (fun _ _ _ h => h) (by rfl) ?_ (by assumption) ?_
            rotate_left
            · (intro wq hSq; (try dsimp only at hSq); go_split_ands; go_simp; (try with_reducible rfl))
            try simp only [Act.put, List.setIfInBounds_toArray, List.set_cons_zero, List.set_cons_succ]
            refine reg_take 6 (v := ?_) (by rfl) (by kernel_rfl) (by kernel_rfl) (by kernel_rfl) (fun _ _ _ h => h) (by rfl) ?_ (by assumption) ?_
            rotate_left
            · (intro wq hSq; (try dsimp only at hSq); go_split_ands; go_simp; (try with_reducible rfl))
            try simp only [Act.put, List.setIfInBounds_toArray, List.set_cons_zero, List.set_cons_succ]
            refine reg_one 7 (by rfl) (by kernel_rfl) (by rfl) (fun K hK => ?_)
            (go_simp)
            refine hK.out _ _ ?_ (fun hHeld => ?_)
            · trivial
            clear hK K
            try simp only [Act.put, List.setIfInBounds_toArray, List.set_cons_zero, List.set_cons_succ]
            refine reg_add (fun w' => (convert 45 9 (.slice (some ⟨w.heap.size, 0, none⟩) 1 1)).run Try.prog w' = .ok (.string ⟨[x].toArray⟩) w') (by assumption) (run_b2s _ _ (w.heap.size + 1) [x] (SB.newAt x rfl (by simp))) (fun hHeld => ?_)
            refine reg_take 8 (v := ?_) (by rfl) (by kernel_rfl) (by kernel_rfl) (by kernel_rfl) (fun _ _ _ h => h) (by rfl) ?_ (by assumption) ?_
            rotate_left
            · (intro wq hSq; (try dsimp only at hSq); go_split_ands; go_simp; (try with_reducible rfl))
            try simp only [Act.put, List.setIfInBounds_toArray, List.set_cons_zero, List.set_cons_succ]
            refine reg_take 9 (v := ?_) (by rfl) (by kernel_rfl) (by kernel_rfl) (by kernel_rfl) (fun _ _ _ h => h) (by rfl) ?_ (by assumption) ?_
            rotate_left
            · (intro wq hSq; (try dsimp only at hSq); go_split_ands; go_simp; (try with_reducible rfl))
            try simp only [Act.put, List.setIfInBounds_toArray, List.set_cons_zero, List.set_cons_succ]
            refine reg_take 10 (v := ?_) (by rfl) (by kernel_rfl) (by kernel_rfl) (by kernel_rfl) (fun _ _ _ h => h) (by rfl) ?_ (by assumption) ?_
            rotate_left
            · (intro wq hSq; (try dsimp only at hSq); go_split_ands; go_simp; (try with_reducible rfl))
            try simp only [Act.put, List.setIfInBounds_toArray, List.set_cons_zero, List.set_cons_succ]
            refine wpAnyH_done (by kernel_rfl) (noPanic_mk ?_) _
            go_wp2
            go_ret
            refine ⟨ret_str ?_, balloc (brefl w _) _⟩
            rw [HSV.out]
            unfold between
            rw [HPK.out, HGG.out.1, HGG.out.2, if_pos ⟨by rw [HA.out]; exact h1, by rw [HB.out]; exact h2, hlt2⟩]
          · by_cases hlt3 : y.toNat < z.toNat
            · have gs : IntKind.u8.wrap ((z.toNat : Int) - (y.toNat : Int)) = (z.toNat : Int) - (y.toNat : Int) := by rw [IntKind.wrap_u8]; omega
              have t2 : decide (y.toNat < z.toNat) = true := by simp; omega
              have t3 : decide ((1 : Int) < (z.toNat : Int) - (y.toNat : Int)) = false := by simp; omega
              go_wp2
              go_quiet (fail)
              go_wp2
              go_quiet (fail)
              go_wp2
              go_ret
              refine ⟨ret_str ?_, ⟨rfl, rfl, rfl, Nat.le_refl _, fun _ _ => rfl⟩⟩
              unfold between
              rw [HPK.out, HGG.out.1, HGG.out.2, if_neg (by omega)]
            · have t2 : decide (y.toNat < z.toNat) = false := by simp; omega
              go_wp2
              go_quiet (fail)
              go_wp2
              go_quiet (fail)
              go_wp2
              go_ret
              refine ⟨ret_str ?_, ⟨rfl, rfl, rfl, Nat.le_refl _, fun _ _ => rfl⟩⟩
              unfold between
              rw [HPK.out, HGG.out.1, HGG.out.2, if_neg (by omega)]
      · have hpl := partAt_le a.data.toList b.data.toList
        rw [HA.out, HB.out] at hpl
        have HPL := Lib.hid hpl
        clear hpl
        first
          | (have hge : ¬ k < b.size := by omega
             go_wp2)
          | (have hge : ¬ k < a.size := by omega
             go_wp2)
        go_ret
        refine ⟨ret_str ?_, ⟨rfl, rfl, rfl, Nat.le_refl _, fun _ _ => rfl⟩⟩
        unfold between
        rw [if_neg (by have := HPL.out; have := hp.out; have := HA.out; have := HB.out; omega)]

set_option maxRecDepth 100000 in
set_option maxHeartbeats 1000000 in
theorem rBetween_any (a b : ByteArray) (w : World) (ha : a.size ≤ 140737488351232) (hb : b.size ≤ 140737488351232) :
    Calls Try.prog 20 #[.string a, .string b] w fun en w' => en = .returned (.string ⟨(between a.data.toList b.data.toList).toArray⟩) ∧ Below w.heap.size w w' := by
  have hsa := toList_size a
  have hsb := toList_size b
  have HA := Lib.hid hsa
  have HB := Lib.hid hsb
  clear hsa hsb
  go_enter Try.func20, Try.ntmps20
  go_wp2
  go_loopw [5] (fun i wr => ∃ k n : Nat, i = .int .i64 k ∧ k ≤ a.size ∧ k ≤ b.size ∧ wr = w.drewN n ∧ Hid (k ≤ partAt a.data.toList b.data.toList)) (fun i _ => a.size - (intOf i).toNat)
  case atStart => exact ⟨0, 0, rfl, Nat.zero_le _, Nat.zero_le _, rfl, Nat.zero_le _⟩
  case round =>
    obtain ⟨k, n, rfl, hka, hkb, rfl, hp⟩ := hrel
    by_cases hlt : k < a.size ∧ k < b.size
    · obtain ⟨h1, h2⟩ := hlt
      have hgo := partAt_go a.data.toList b.data.toList k hp.out (by rw [HA.out]; exact h1) (by rw [HB.out]; exact h2)
      obtain ⟨y, hy⟩ : ∃ y, y = a[k] := ⟨_, rfl⟩
      obtain ⟨z, hz⟩ : ∃ z, z = b[k] := ⟨_, rfl⟩
      rw [sget a k h1, sget b k h2, ← hy, ← hz] at hgo
      have HG := Lib.hid hgo
      have HY := Lib.hid hy
      have HZ := Lib.hid hz
      have ey := hy.symm
      have ez := hz.symm
      have hy8 := u8_lt y
      have hz8 := u8_lt z
      have u1 : decide (k < a.size) = true := by simp; omega
      have u2 : decide (k < b.size) = true := by simp; omega
      clear hgo hy hz
      by_cases hyz : y.toNat = z.toNat
      · have t1 : ((y.toNat : Int) == (z.toNat : Int)) = true := by rw [beq_iff_eq]; omega
        have HE : Hid (y = z) := Lib.hid (UInt8.toNat_inj.1 hyz)
        clear hyz
        go_wp2
        go_quiet (fail)
        go_wp2
        go_roundw
        case rel => exact ⟨k + 1, _, by go_num, by omega, by omega, rfl, HG.out.1 HE.out⟩
        case measure => simp [intOf]; omega
      · have t1 : ((y.toNat : Int) == (z.toNat : Int)) = false := by rw [beq_eq_false_iff_ne]; omega
        have hpk : partAt a.data.toList b.data.toList = k := HG.out.2 (fun e => hyz (by rw [e]))
        have HPK := Lib.hid hpk
        have hga : (a.data.toList[k]?.getD 0) = y := by rw [List.getElem?_eq_getElem (by rw [HA.out]; exact h1)]; exact HY.out.symm
        have hgb : (b.data.toList[k]?.getD 0) = z := by rw [List.getElem?_eq_getElem (by rw [HB.out]; exact h2)]; exact HZ.out.symm
        have HGG := Lib.hid (And.intro hga hgb)
        clear hpk hga hgb
        have gs : IntKind.i64.wrap ((z.toNat : Int) - (y.toNat : Int)) = (z.toNat : Int) - (y.toNat : Int) := IntWalk.i64_in _ (by omega)
        have gy : IntKind.i64.wrap (y.toNat : Int) = (y.toNat : Int) := IntWalk.i64_in _ (by omega)
        have gz : IntKind.i64.wrap (z.toNat : Int) = (z.toNat : Int) := IntWalk.i64_in _ (by omega)
        by_cases hlt2 : y.toNat + 2 ≤ z.toNat
        · have t3 : decide ((2 : Int) ≤ (z.toNat : Int) - (y.toNat : Int)) = true := by simp; omega
          have hbu := byteUp y (by omega)
          have hre := raise_eq a k h1 y ey
          obtain ⟨x, hx⟩ : ∃ x, x = UInt8.ofNat (y.toNat + 1) := ⟨_, rfl⟩
          obtain ⟨sv, hsv⟩ : ∃ sv : ByteArray, sv = ⟨(raise a.data.toList k).toArray⟩ := ⟨_, rfl⟩
          rw [← hx] at hbu hre
          rw [← hsv] at hre
          have HSV := Lib.hid hsv
          have f1 : ¬ 9223372036854775807 < k + 1 := by omega
          clear hx hsv
          go_wp2
          go_quiet (fail)
          go_wp2
          go_quiet (fail)
          go_wp2
          refine wp_region_noPanic ?_
          refine wp_region_held_drew (S := fun _ => True) (by kernel_rfl) trivial (fun hHeld => ?_)
          refine reg_take 0 (v := ?_) (by rfl) (by kernel_rfl) (by kernel_rfl) (by kernel_rfl) (fun _ _ _ h => h) (by rfl) ?_ (by assumption) ?_
          rotate_left
          · (intro wq hSq; (try dsimp only at hSq); go_split_ands; go_simp; (try with_reducible rfl))
          try simp only [Act.put, List.setIfInBounds_toArray, List.set_cons_zero, List.set_cons_succ]
          refine reg_take 1 (v := ?_) (by rfl) (by kernel_rfl) (by kernel_rfl) (by kernel_rfl) (fun _ _ _ h => h) (by rfl) ?_ (by assumption) ?_
          rotate_left
          · (intro wq hSq; (try dsimp only at hSq); go_split_ands; go_simp; (try with_reducible rfl))
          try simp only [Act.put, List.setIfInBounds_toArray, List.set_cons_zero, List.set_cons_succ]
          refine reg_take 2 (v := ?_) (by rfl) (by kernel_rfl) (by kernel_rfl) (by kernel_rfl) (fun _ _ _ h => h) (by rfl) ?_ (by assumption) ?_
          rotate_left
          · (intro wq hSq; (try dsimp only at hSq); go_split_ands; go_simp; (try with_reducible rfl))
          try simp only [Act.put, List.setIfInBounds_toArray, List.set_cons_zero, List.set_cons_succ]
          refine reg_take 3 (v := ?_) (by rfl) (by kernel_rfl) (by kernel_rfl) (by kernel_rfl) (fun _ _ _ h => h) (by rfl) ?_ (by assumption) ?_
          rotate_left
          · (intro wq hSq; (try dsimp only at hSq); go_split_ands; go_simp; (try with_reducible rfl))
          try simp only [Act.put, List.setIfInBounds_toArray, List.set_cons_zero, List.set_cons_succ]
          refine reg_take 4 (v := ?_) (by rfl) (by kernel_rfl) (by kernel_rfl) (by kernel_rfl) (fun _ _ _ h => h) (by rfl) ?_ (by assumption) ?_
          rotate_left
          · (intro wq hSq; (try dsimp only at hSq); go_split_ands; go_simp; (try with_reducible rfl))
          try simp only [Act.put, List.setIfInBounds_toArray, List.set_cons_zero, List.set_cons_succ]
          refine reg_take 5 (v := ?_) (by rfl) (by kernel_rfl) (by kernel_rfl) (by kernel_rfl) (fun _ _ _ h => h) (by rfl) ?_ (by assumption) ?_
          rotate_left
          · (intro wq hSq; (try dsimp only at hSq); go_split_ands; go_simp; (try with_reducible rfl))
          try simp only [Act.put, List.setIfInBounds_toArray, List.set_cons_zero, List.set_cons_succ]
          refine reg_take 6 (v := ?_) (by rfl) (by kernel_rfl) (by kernel_rfl) (by kernel_rfl) (fun _ _ _ h => h) (by rfl) ?_ (by assumption) ?_
          rotate_left
          · (intro wq hSq; (try dsimp only at hSq); go_split_ands; go_simp; (try with_reducible rfl))
          try simp only [Act.put, List.setIfInBounds_toArray, List.set_cons_zero, List.set_cons_succ]
          refine reg_one 7 (by rfl) (by kernel_rfl) (by rfl) (fun K hK => ?_)
          (go_simp)
          refine hK.out _ _ ?_ (fun hHeld => ?_)
          · trivial
          clear hK K
          try simp only [Act.put, List.setIfInBounds_toArray, List.set_cons_zero, List.set_cons_succ]
          refine reg_add (fun w' => (convert 45 9 (.slice (some ⟨w.heap.size, 0, none⟩) 1 1)).run Try.prog w' = .ok (.string ⟨[x].toArray⟩) w') (by assumption) (run_b2s _ _ (w.heap.size + 1) [x] (SB.newAt x rfl (by simp))) (fun hHeld => ?_)
          refine reg_take 8 (v := ?_) (by rfl) (by kernel_rfl) (by kernel_rfl) (by kernel_rfl) (fun _ _ _ h => h) (by rfl) ?_ (by assumption) ?_
          rotate_left
          · (intro wq hSq; (try dsimp only at hSq); go_split_ands; go_simp; (try with_reducible rfl))
          try simp only [Act.put, List.setIfInBounds_toArray, List.set_cons_zero, List.set_cons_succ]
          refine reg_take 9 (v := ?_) (by rfl) (by kernel_rfl) (by kernel_rfl) (by kernel_rfl) (fun _ _ _ h => h) (by rfl) ?_ (by assumption) ?_
          rotate_left
          · (intro wq hSq; (try dsimp only at hSq); go_split_ands; go_simp; (try with_reducible rfl))
          try simp only [Act.put, List.setIfInBounds_toArray, List.set_cons_zero, List.set_cons_succ]
          refine reg_take 10 (v := ?_) (by rfl) (by kernel_rfl) (by kernel_rfl) (by kernel_rfl) (fun _ _ _ h => h) (by rfl) ?_ (by assumption) ?_
          rotate_left
          · (intro wq hSq; (try dsimp only at hSq); go_split_ands; go_simp; (try with_reducible rfl))
          try simp only [Act.put, List.setIfInBounds_toArray, List.set_cons_zero, List.set_cons_succ]
          refine wpAnyH_done (by kernel_rfl) (noPanic_mk ?_) _
          go_wp2
          go_ret
          refine ⟨ret_str ?_, balloc (brefl w _) _⟩
          rw [HSV.out]
          unfold between
          rw [HPK.out, HGG.out.1, HGG.out.2, if_pos ⟨by rw [HA.out]; exact h1, by rw [HB.out]; exact h2, hlt2⟩]
        · have t3 : decide ((2 : Int) ≤ (z.toNat : Int) - (y.toNat : Int)) = false := by simp; omega
          go_wp2
          go_quiet (fail)
          go_wp2
          go_quiet (fail)
          go_wp2
          go_ret
          refine ⟨ret_str ?_, ⟨rfl, rfl, rfl, Nat.le_refl _, fun _ _ => rfl⟩⟩
          unfold between
          rw [HPK.out, HGG.out.1, HGG.out.2, if_neg (by omega)]
    · have hpl := partAt_le a.data.toList b.data.toList
      rw [HA.out, HB.out] at hpl
      have HPL := Lib.hid hpl
      clear hpl
      by_cases h1 : k < a.size
      · have u1 : decide (k < a.size) = true := by simp; omega
        have u2 : decide (k < b.size) = false := by simp; omega
        go_wp2
        go_quiet (fail)
        go_wp2
        go_quiet (fail)
        go_wp2
        go_ret
        refine ⟨ret_str ?_, ⟨rfl, rfl, rfl, Nat.le_refl _, fun _ _ => rfl⟩⟩
        unfold between
        rw [if_neg (by have := HPL.out; have := hp.out; have := HA.out; have := HB.out; omega)]
      · have u1 : decide (k < a.size) = false := by simp; omega
        go_wp2
        go_quiet (fail)
        go_wp2
        go_quiet (fail)
        go_wp2
        go_ret
        refine ⟨ret_str ?_, ⟨rfl, rfl, rfl, Nat.le_refl _, fun _ _ => rfl⟩⟩
        unfold between
        rw [if_neg (by have := HPL.out; have := hp.out; have := HA.out; have := HB.out; omega)]
end Go.Proofs.Ytfdmemfdhakcbaa
