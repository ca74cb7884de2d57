/-
  What is proved here: how many bytes two texts begin with alike, by the program and by the reference, at this seat's numbers. Conditions: the texts' lengths.
-/
import Derived.Test.YtoccmedadiangaaIkeyW6
import Derived.Test.YtoccmedadiangaaBlockLaw2
namespace Go.Proofs.Ytoccmedadiangaa
open Go.RowKit

theorem part_go : ∀ (a b : List UInt8) (k : Nat), k ≤ partAt a b → ∀ (h1 : k < a.length) (h2 : k < b.length), (a[k] = b[k] → k + 1 ≤ partAt a b) ∧ (a[k] ≠ b[k] → partAt a b = k)
  | [], _, _, _, h1, _ => by simp at h1
  | _ :: _, [], _, _, _, h2 => by simp at h2
  | x :: a, y :: b, 0, _, _, _ => by
    refine ⟨fun h => ?_, fun h => ?_⟩
    · simp only [List.getElem_cons_zero] at h
      simp [partAt, h]
    · simp only [List.getElem_cons_zero] at h
      simp [partAt, h]
  | x :: a, y :: b, k + 1, h, h1, h2 => by
    rw [partAt] at h
    by_cases e : x = y
    · rw [if_pos e] at h
      have ih := part_go a b k (by omega) (by simpa using h1) (by simpa using h2)
      simp only [List.getElem_cons_succ]
      rw [partAt, if_pos e]
      exact ⟨fun h => by have := ih.1 h; omega, fun h => by have := ih.2 h; omega⟩
    · rw [if_neg e] at h; omega
theorem sget' (s : ByteArray) (k : Nat) (h : k < s.size) : s.data.toList[k]'(by rw [toList_size]; exact h) = s[k] := rfl
theorem ret_i64 {a b : Nat} (h : a = b) : Ending.returned (.int .i64 (a : Int)) = Ending.returned (.int .i64 (b : Int)) := by rw [h]
set_option maxRecDepth 100000 in
set_option maxHeartbeats 1000000 in
theorem kAlike_any (a b : ByteArray) (w : World) (ha : a.size ≤ 140737488351232) (hb : b.size ≤ 140737488351232) :
    Calls Try.prog 42 #[.string a, .string b] w fun en w' => en = .returned (.int .i64 (partAt a.data.toList b.data.toList : Nat)) ∧ ∃ n, w' = w.drewN n := by
  have hsa := toList_size a
  have hsb := toList_size b
  have hle := partAt_le a.data.toList b.data.toList
  rw [hsa, hsb] at hle
  have HA := Lib.hid hsa
  have HB := Lib.hid hsb
  have HL := Lib.hid hle
  clear hsa hsb hle
  have hab : a.size ≤ b.size ∨ b.size < a.size := by omega
  rcases hab with hab | hab
  all_goals
    go_enter Try.func42, Try.ntmps42
    go_wp2
    go_loopw [6, 13] (fun _ i wr => ∃ k n : Nat, i = .int .i64 k ∧ k ≤ a.size ∧ k ≤ b.size ∧ wr = w.drewN n ∧ Hid (k ≤ partAt a.data.toList b.data.toList)) (fun _ i _ => a.size - (intOf i).toNat)
    case atStart => exact ⟨0, 0, rfl, Nat.zero_le _, Nat.zero_le _, rfl, Nat.zero_le _⟩
    case round =>
      obtain ⟨k, n, rfl, hka, hkb, rfl, hp⟩ := hrel
      by_cases hlt : k < a.size ∧ k < b.size
      · obtain ⟨h1, h2⟩ := hlt
        have hgo := part_go a.data.toList b.data.toList k hp.out (by rw [HA.out]; exact h1) (by rw [HB.out]; exact h2)
        obtain ⟨y, hy⟩ : ∃ y, y = a[k] := ⟨_, rfl⟩
        obtain ⟨z, hz⟩ : ∃ z, z = b[k] := ⟨_, rfl⟩
        rw [sget' a k h1, sget' b k h2, ← hy, ← hz] at hgo
        have HG := Lib.hid hgo
        have ey := hy.symm
        have ez := hz.symm
        have hy8 := u8_lt y
        have hz8 := u8_lt z
        clear hgo hy hz
        by_cases hyz : y.toNat = z.toNat
        · have t1 : ((y.toNat : Int) == (z.toNat : Int)) = true := by rw [beq_iff_eq]; omega
          have HE : Hid (y = z) := Lib.hid (UInt8.toNat_inj.1 hyz)
          clear hyz
          go_wp2
          go_quiet (fail)
          go_wp2
          go_roundw
          case rel => exact ⟨k + 1, _, by go_num, by omega, by omega, rfl, HG.out.1 HE.out⟩
          case measure => simp [intOf]; omega
        · have t1 : ((y.toNat : Int) == (z.toNat : Int)) = false := by rw [beq_eq_false_iff_ne]; omega
          have hpk : partAt a.data.toList b.data.toList = k := HG.out.2 (fun e => hyz (by rw [e]))
          have HPK := Lib.hid hpk
          clear hpk
          go_wp2
          go_quiet (fail)
          go_wp2
          go_ret
          exact ⟨ret_i64 HPK.out.symm, _, World.drewN_drewN w n _⟩
      · have HPK : Hid (partAt a.data.toList b.data.toList = k) := Lib.hid (by have := HL.out; have := hp.out; omega)
        go_wp2
        go_ret
        rw [HPK.out]
        first | exact ⟨ret_i64 (a := a.size) (b := k) (by omega), n, rfl⟩ | exact ⟨ret_i64 (a := b.size) (b := k) (by omega), n, rfl⟩
set_option maxRecDepth 100000 in
set_option maxHeartbeats 1000000 in
theorem rShared_any (a b : ByteArray) (w : World) (ha : a.size ≤ 140737488351232) (hb : b.size ≤ 140737488351232) :
    Calls Try.prog 28 #[.string a, .string b] w fun en w' => en = .returned (.int .i64 (partAt a.data.toList b.data.toList : Nat)) ∧ ∃ n, w' = w.drewN n := by
  have hsa := toList_size a
  have hsb := toList_size b
  have hle := partAt_le a.data.toList b.data.toList
  rw [hsa, hsb] at hle
  have HA := Lib.hid hsa
  have HB := Lib.hid hsb
  have HL := Lib.hid hle
  clear hsa hsb hle
  go_enter Try.func28, Try.ntmps28
  go_wp2
  go_loopw [5] (fun i wr => ∃ k n : Nat, i = .int .i64 k ∧ k ≤ a.size ∧ k ≤ b.size ∧ wr = w.drewN n ∧ Hid (k ≤ partAt a.data.toList b.data.toList)) (fun i _ => a.size - (intOf i).toNat)
  case atStart => exact ⟨0, 0, rfl, Nat.zero_le _, Nat.zero_le _, rfl, Nat.zero_le _⟩
  case round =>
    obtain ⟨k, n, rfl, hka, hkb, rfl, hp⟩ := hrel
    by_cases hlt : k < a.size
    · have d1 : decide (k < a.size) = true := by simp; omega
      by_cases hlt2 : k < b.size
      · have d2 : decide (k < b.size) = true := by simp; omega
        have hgo := part_go a.data.toList b.data.toList k hp.out (by rw [HA.out]; exact hlt) (by rw [HB.out]; exact hlt2)
        obtain ⟨y, hy⟩ : ∃ y, y = a[k] := ⟨_, rfl⟩
        obtain ⟨z, hz⟩ : ∃ z, z = b[k] := ⟨_, rfl⟩
        rw [sget' a k hlt, sget' b k hlt2, ← hy, ← hz] at hgo
        have HG := Lib.hid hgo
        have ey := hy.symm
        have ez := hz.symm
        have hy8 := u8_lt y
        have hz8 := u8_lt z
        clear hgo hy hz
        by_cases hyz : y.toNat = z.toNat
        · have t1 : ((y.toNat : Int) == (z.toNat : Int)) = true := by rw [beq_iff_eq]; omega
          have HE : Hid (y = z) := Lib.hid (UInt8.toNat_inj.1 hyz)
          clear hyz
          go_wp2
          go_quiet (fail)
          go_wp2
          go_roundw
          case rel => exact ⟨k + 1, _, by go_num, by omega, by omega, rfl, HG.out.1 HE.out⟩
          case measure => simp [intOf]; omega
        · have t1 : ((y.toNat : Int) == (z.toNat : Int)) = false := by rw [beq_eq_false_iff_ne]; omega
          have hpk : partAt a.data.toList b.data.toList = k := HG.out.2 (fun e => hyz (by rw [e]))
          have HPK := Lib.hid hpk
          clear hpk
          go_wp2
          go_quiet (fail)
          go_wp2
          go_ret
          exact ⟨ret_i64 HPK.out.symm, _, World.drewN_drewN w n _⟩
      · have d2 : decide (k < b.size) = false := by simp; omega
        have HPK : Hid (partAt a.data.toList b.data.toList = k) := Lib.hid (by have := HL.out; have := hp.out; omega)
        go_wp2
        go_quiet (fail)
        go_wp2
        go_ret
        exact ⟨ret_i64 HPK.out.symm, _, World.drewN_drewN w n _⟩
    · have d1 : decide (k < a.size) = false := by simp; omega
      have HPK : Hid (partAt a.data.toList b.data.toList = k) := Lib.hid (by have := HL.out; have := hp.out; omega)
      go_wp2
      go_quiet (fail)
      go_wp2
      go_ret
      exact ⟨ret_i64 HPK.out.symm, _, World.drewN_drewN w n _⟩
end Go.Proofs.Ytoccmedadiangaa
