/-
  What is proved here: what bits.Len, merkle's split and the reference's part come to (the walk of bits.Len64 is the shelf's), at this seat's numbers. Condition: the number's size.
-/
import Derived.Test.YtjmlohfldkbbaaaDoorMerkleLaw2
import Derived.Test.YtjmlohfldkbbaaaDoorDig
import Derived.Lib.Strings
import Derived.Lib.Slices
import Derived.Lib.Small
import Derived.Lib.Walk
import Derived.Lib.BitFns
namespace Go.Proofs.YtjmlohfldkbbaaaDoor
open Go.RowKit

theorem wrapM (b : Nat) (hb : b ≤ 8) : wrap64 (wrap64 (b : Int)) = (b : Int) := by
  unfold wrap64
  omega
theorem wrapL (c b : Nat) (hc : c ≤ 56) (hb : b ≤ 8) : wrap64 ((c : Int) + wrap64 (b : Int)) = ((c + b : Nat) : Int) := by
  unfold wrap64
  omega
theorem l8tab (n : Nat) (h : n < Lib.len8tab.size) : (((Lib.len8tab[n]'h).toNat : Nat) : Int) = (Lib.bitLen n : Int) := by
  have h1 : n < 256 := by rw [Lib.len8tab_size] at h; exact h
  have h2 := Lib.len8_eq ⟨n, h1⟩
  unfold Lib.len8 at h2
  rw [← h2]
  simp [h]
set_option maxHeartbeats 4000000 in
set_option maxRecDepth 100000 in
theorem bitsLen64 (x : Int) (w : World) (h0 : 0 ≤ x) (h1 : x ≤ 18446744073709551615) :
    Calls Tryd.prog 38 #[.int .u64 x] w fun e w' => e = .returned (.int .i64 (Lib.bitLen x.toNat)) ∧ w' = w := by
  go_enter Tryd.func38, Tryd.ntmps38
  go_wp2
  all_goals first
    | (exfalso; rename_i hh; exact hh (by rw [Lib.len8tab_size]; omega))
    | (rename_i hh; rw [Lib.len8tab_size] at hh; go_ret; refine ⟨congrArg Ending.returned (congrArg (Value.int IntKind.i64) ?_), rfl⟩; rw [l8tab])
  all_goals first
    | (show wrap64 (56 + wrap64 ((Lib.bitLen (x / 4294967296 / 65536 / 256).toNat : Nat) : Int)) = _
       have e : (x / 4294967296 / 65536 / 256).toNat = x.toNat / 72057594037927936 := by omega
       have l := Lib.bitLen_le8' (x / 4294967296 / 65536 / 256) (by omega) (by omega)
       have s := Lib.bitLen_shift56 x.toNat (by omega) (by omega)
       rw [e] at l ⊢
       rw [s]
       exact wrapL 56 _ (by decide) l)
    | (show wrap64 (48 + wrap64 ((Lib.bitLen (x / 4294967296 / 65536).toNat : Nat) : Int)) = _
       have e : (x / 4294967296 / 65536).toNat = x.toNat / 281474976710656 := by omega
       have l := Lib.bitLen_le8' (x / 4294967296 / 65536) (by omega) (by omega)
       have s := Lib.bitLen_shift48 x.toNat (by omega) (by omega)
       rw [e] at l ⊢
       rw [s]
       exact wrapL 48 _ (by decide) l)
    | (show wrap64 (40 + wrap64 ((Lib.bitLen (x / 4294967296 / 256).toNat : Nat) : Int)) = _
       have e : (x / 4294967296 / 256).toNat = x.toNat / 1099511627776 := by omega
       have l := Lib.bitLen_le8' (x / 4294967296 / 256) (by omega) (by omega)
       have s := Lib.bitLen_shift40 x.toNat (by omega) (by omega)
       rw [e] at l ⊢
       rw [s]
       exact wrapL 40 _ (by decide) l)
    | (show wrap64 (32 + wrap64 ((Lib.bitLen (x / 4294967296).toNat : Nat) : Int)) = _
       have e : (x / 4294967296).toNat = x.toNat / 4294967296 := by omega
       have l := Lib.bitLen_le8' (x / 4294967296) (by omega) (by omega)
       have s := Lib.bitLen_shift32 x.toNat (by omega) (by omega)
       rw [e] at l ⊢
       rw [s]
       exact wrapL 32 _ (by decide) l)
    | (show wrap64 (24 + wrap64 ((Lib.bitLen (x / 65536 / 256).toNat : Nat) : Int)) = _
       have e : (x / 65536 / 256).toNat = x.toNat / 16777216 := by omega
       have l := Lib.bitLen_le8' (x / 65536 / 256) (by omega) (by omega)
       have s := Lib.bitLen_shift24 x.toNat (by omega) (by omega)
       rw [e] at l ⊢
       rw [s]
       exact wrapL 24 _ (by decide) l)
    | (show wrap64 (16 + wrap64 ((Lib.bitLen (x / 65536).toNat : Nat) : Int)) = _
       have e : (x / 65536).toNat = x.toNat / 65536 := by omega
       have l := Lib.bitLen_le8' (x / 65536) (by omega) (by omega)
       have s := Lib.bitLen_shift16 x.toNat (by omega) (by omega)
       rw [e] at l ⊢
       rw [s]
       exact wrapL 16 _ (by decide) l)
    | (show wrap64 (8 + wrap64 ((Lib.bitLen (x / 256).toNat : Nat) : Int)) = _
       have e : (x / 256).toNat = x.toNat / 256 := by omega
       have l := Lib.bitLen_le8' (x / 256) (by omega) (by omega)
       have s := Lib.bitLen_shift8 x.toNat (by omega) (by omega)
       rw [e] at l ⊢
       rw [s]
       exact wrapL 8 _ (by decide) l)
    | (have l := Lib.bitLen_le8' x (by omega) (by omega)
       exact wrapM _ l)
theorem bitsLen (x : Int) (w : World) (h0 : 0 ≤ x) (h1 : x ≤ 18446744073709551615) :
    Calls Tryd.prog 30 #[.int .u64 x] w fun e w' => e = .returned (.int .i64 (Lib.bitLen x.toNat)) ∧ w' = w := by
  go_enter Tryd.func30, Tryd.ntmps30
  go_wp2_with fail
  refine (bitsLen64 x _ h0 h1).mono ?_
  rintro e w' ⟨rfl, rfl⟩
  go_wp2_with fail
  go_ret
  exact ⟨rfl, rfl⟩
/-- the greatest power of two below n, by its bits -/
theorem part_bits (n : Nat) : 2 ≤ n → n < 18446744073709551616 → ∃ k, Lib.bitLen (n - 1) = k + 1 ∧ part n = 2 ^ k := by
  induction n using Nat.strongRecOn with
  | _ n ih =>
    intro h2 hl
    by_cases h : n ≤ 2
    · have : n = 2 := by omega
      subst this
      exact ⟨0, by decide, part_small (by omega)⟩
    · obtain ⟨k, h3, h4⟩ := ih ((n + 1) / 2) (by omega) (by omega) (by omega)
      refine ⟨k + 1, ?_, ?_⟩
      · rw [Lib.bitLen_half (n - 1) (by omega) (by omega), show (n - 1) / 2 = (n + 1) / 2 - 1 by omega, h3]; omega
      · rw [part_big (by omega), h4, Nat.pow_succ]; omega
theorem wrap_pow (k : Nat) (h : k ≤ 62) : IntKind.i64.wrap (2 ^ k : Int) = 2 ^ k := by
  rw [IntKind.wrap_i64]
  have h1 : (2 : Int) ^ k ≤ 2 ^ 62 := by
    have := Nat.pow_le_pow_right (n := 2) (by omega) h
    exact_mod_cast this
  have h2 : (0 : Int) < 2 ^ k := Int.pow_pos (by omega)
  omega
theorem kSplit_any (n : Nat) (w : World) (h2 : 2 ≤ n) (hl : n ≤ 9223372036854775807) : Calls Tryd.prog 21 #[.int .i64 (n : Int)] w fun e w' => e = .returned (.int .i64 (part n : Int)) ∧ w' = w := by
  obtain ⟨k, h3, h4⟩ := part_bits n h2 (by omega)
  have hk : k ≤ 62 := by
    have := Lib.bitLen_le (n - 1) 63 (by omega) (by omega)
    omega
  have hpk := wrap_pow k hk
  have hB := Lib.hid (bitsLen ((n : Int) - 1) w (by omega) (by omega))
  have e1 : ((n : Int) - 1).toNat = n - 1 := by omega
  rw [e1, h3] at hB
  have y1 : (1 : Int) ≤ (n : Int) := by omega
  have y2 : (n : Int) ≤ 9223372036854775807 := by omega
  have HP : Hid ((part n : Int) = 2 ^ k) := Lib.hid (by rw [h4]; simp)
  clear h4 h3 e1
  go_enter Tryd.func21, Tryd.ntmps21
  go_wp2_with fail
  refine hB.out.mono ?_
  rintro e w' ⟨rfl, rfl⟩
  go_wp2_with fail
  go_ret
  rw [HP.out]
  exact ⟨rfl, rfl⟩
end Go.Proofs.YtjmlohfldkbbaaaDoor
