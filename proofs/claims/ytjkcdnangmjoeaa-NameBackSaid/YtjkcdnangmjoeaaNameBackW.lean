/-
  What is proved here: the call of the statement NameBack returns true and turns nothing that was there. No condition but the numbers' own.
-/
import Derived.Test.YtjkcdnangmjoeaaNameNamesW
import Derived.BigQuiet
namespace Go.Proofs.Ytjkcdnangmjoeaa
open Go.RowKit

theorem nm_inj {a m b n : Nat} (ha : 1 ≤ a ∧ a ≤ 3) (hm : m < 18446744073709551616) (hb : 1 ≤ b ∧ b ≤ 3) (hn : n < 18446744073709551616) (h : nmOf a m = nmOf b n) : a = b ∧ m = n := by
  have h1 := parse_nm a m (by omega) hm (by omega)
  rw [h, parse_nm b n (by omega) hn (by omega)] at h1
  injection h1 with h1
  injection h1 with h2 h3
  exact ⟨h2.symm, h3.symm⟩
theorem parseV_nm {a m : Nat} (ha : 1 ≤ a ∧ a ≤ 3) (hm : m < 18446744073709551616) : parseV (nmOf a m) = .tuple #[.int .u8 (a : Int), .int .u64 (m : Int), .bool true] := by
  unfold parseV
  rw [parse_nm a m (by omega) hm (by omega)]
theorem nm_len {a m : Nat} (ha : 1 ≤ a ∧ a ≤ 3) (hm : m < 18446744073709551616) : (nmOf a m).length ≤ 40 := by
  have h := dgt_20 m hm
  have e : a = 1 ∨ a = 2 ∨ a = 3 := by omega
  rcases e with rfl | rfl | rfl
  · rw [nm_1 m rfl, List.length_append]; simp [sLog]; omega
  · rw [nm_2 m rfl, List.length_append]; simp [sTab]; omega
  · rw [nm_3 m rfl, List.length_append]; simp [sMan]; omega
set_option maxHeartbeats 1000000 in
theorem nameBack_any (x y m n : Nat) (w : World) (hx : x < 256) (hy : y < 256) (hm : m < 18446744073709551616) (hn : n < 18446744073709551616) :
    Calls Try.prog 5 #[.agg #[.int .u8 (x : Int), .int .u8 (y : Int)], .int .u64 m, .int .u64 n] w fun e w' => e = .returned (.bool true) ∧ Below w.heap.size w w' := by
  go_enter Try.func5, Try.ntmps5
  go_wp2_with fail
  refine (shown_any _).mono ?_
  rintro _ w1 ⟨rfl, hb1⟩
  have b1 := bstep (balloc (bself w) _) hb1
  have hh : w1.heap[w.heap.size]? = some (.cells #[.int .u8 (x : Int), .int .u8 (y : Int)] 29 (0, 0)) := (hb1.block _ (by simp)).trans (heap_alloc_new w _)
  obtain ⟨c0, c1, _, _⟩ := cells2 hh
  clear hh hb1
  go_upto_region 2 with fail
  go_quiet (fail)
  have ea : (x : Int) % 3 + 1 = ((x % 3 + 1 : Nat) : Int) := by omega
  have eb : (y : Int) % 3 + 1 = ((y % 3 + 1 : Nat) : Int) := by omega
  have b2 := bdrewN b1 nq
  generalize World.drewN w1 nq = w2 at b2 ⊢
  obtain ⟨a, ha⟩ : ∃ a, a = x % 3 + 1 := ⟨_, rfl⟩
  obtain ⟨b, hb⟩ : ∃ b, b = y % 3 + 1 := ⟨_, rfl⟩
  have a13 : 1 ≤ a ∧ a ≤ 3 := by omega
  have b13 : 1 ≤ b ∧ b ≤ 3 := by omega
  rw [ea, eb, ← ha, ← hb]
  clear ea eb ha hb b1 c0 c1
  obtain ⟨S, hS⟩ : ∃ S : ByteArray, (⟨(nmOf a m).toArray⟩ : ByteArray) = S := ⟨_, rfl⟩
  have hSd : S.data.toList = nmOf a m := by rw [← hS]
  have HA : Hid (∀ W, Calls Try.prog 10 #[.int .u8 (a : Int), .int .u64 (m : Int)] W fun e w' => e = .returned (.string S) ∧ Below W.heap.size W w') := Lib.hid (fun W => by rw [← hS]; exact kName_any a m W (by omega) hm)
  have HP : Hid (∀ W, Calls Try.prog 12 #[.string S] W fun e w' => e = .returned (.tuple #[.int .u8 (a : Int), .int .u64 (m : Int), .bool true]) ∧ Below W.heap.size W w') := Lib.hid (fun W => by
    have h := kParse_any S W (by have := nm_len a13 hm; rw [← hSd, Array.length_toList] at this; exact Nat.le_trans this (by omega))
    rw [hSd, parseV_nm a13 hm] at h
    exact h)
  by_cases e : a = b ∧ m = n
  · obtain ⟨rfl, rfl⟩ := e
    clear hS hSd
    go_wp2_with fail
    refine (HA.out _).mono ?_
    rintro _ w3 ⟨rfl, hb3⟩
    go_wp2_with fail
    refine (HA.out _).mono ?_
    rintro _ w4 ⟨rfl, hb4⟩
    go_wp2_with fail
    refine (HP.out _).mono ?_
    rintro _ w5 ⟨rfl, hb5⟩
    go_wp2_with fail
    go_ret
    exact ⟨by simp, bstep (bstep (bstep b2 hb3) hb4) hb5⟩
  · obtain ⟨T, hT⟩ : ∃ T : ByteArray, (⟨(nmOf b n).toArray⟩ : ByteArray) = T := ⟨_, rfl⟩
    have HB : Hid (∀ W, Calls Try.prog 10 #[.int .u8 (b : Int), .int .u64 (n : Int)] W fun e w' => e = .returned (.string T) ∧ Below W.heap.size W w') := Lib.hid (fun W => by rw [← hT]; exact kName_any b n W (by omega) hn)
    have ge : (S.toList == T.toList) = false := by
      rw [beq_eq_false_iff_ne, ← hS, ← hT, Lib.toList_data, Lib.toList_data]
      exact fun h => e (nm_inj a13 hm b13 hn h)
    clear hS hSd hT
    by_cases e1 : a = b
    · have e2 : ((m : Int) == (n : Int)) = false := by rw [beq_eq_false_iff_ne]; have : ¬ m = n := fun h => e ⟨e1, h⟩; omega
      have e1' : ((a : Int) == (b : Int)) = true := by rw [beq_iff_eq]; omega
      clear e e1
      go_wp2_with fail
      refine (HA.out _).mono ?_
      rintro _ w3 ⟨rfl, hb3⟩
      go_wp2_with fail
      refine (HB.out _).mono ?_
      rintro _ w4 ⟨rfl, hb4⟩
      go_wp2_with fail
      refine (HP.out _).mono ?_
      rintro _ w5 ⟨rfl, hb5⟩
      go_wp2_with fail
      all_goals go_ret
      all_goals exact ⟨by simp, bstep (bstep (bstep b2 hb3) hb4) hb5⟩
    · have e1' : ((a : Int) == (b : Int)) = false := by rw [beq_eq_false_iff_ne]; omega
      clear e e1
      go_wp2_with fail
      refine (HA.out _).mono ?_
      rintro _ w3 ⟨rfl, hb3⟩
      go_wp2_with fail
      refine (HB.out _).mono ?_
      rintro _ w4 ⟨rfl, hb4⟩
      go_wp2_with fail
      refine (HP.out _).mono ?_
      rintro _ w5 ⟨rfl, hb5⟩
      go_wp2_with fail
      all_goals go_ret
      all_goals exact ⟨by simp, bstep (bstep (bstep b2 hb3) hb4) hb5⟩
end Go.Proofs.Ytjkcdnangmjoeaa
