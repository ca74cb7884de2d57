/-
  What is proved here: the call of the statement CodecShort returns true and turns nothing that was there. Conditions: the text's length.
-/
import Derived.Test.YtaefhnmdombadaaCodecLeastW
namespace Go.Proofs.Ytaefhnmdombadaa
open Go.RowKit

/-- a slice's value of m elements that reads as l -/
def Made (W w' : World) (e : Ending) (l : List UInt8) : Prop := ∃ A c m, e = .returned (.slice A m c) ∧ Hid (m = l.length) ∧ SB w' w'.heap.size (.slice A m c) l ∧ Below W.heap.size W w'
theorem made_of {W w' : World} {e r : Ending} {v : Value} {l : List UInt8} {B : Nat} (he : e = .returned v) (ho : OB w' B v l) (hb : Below W.heap.size W w') : Made W w' e l := by
  obtain ⟨A, c, rfl, h1, h2, h3⟩ := ho.sb
  exact ⟨A, c, _, he, Lib.hid rfl, ⟨A, c, rfl, h1, h2, h3⟩, hb⟩
theorem made_num (n : Nat) (W : World) (hn : n < 18446744073709551616) : Calls Try.prog 10 #[.slice none 0 0, .int .u64 (n : Int)] W fun e w' => Made W w' e (num n) :=
  (cNum_any _ [] n W (SB.nil_ _ _) (by simp) hn).mono fun e w' ⟨r, he, ho, hb⟩ => made_of (r := e) he ho hb
theorem made_str (s : ByteArray) (W : World) (hs : s.size ≤ 1000000) : Calls Try.prog 11 #[.slice none 0 0, .string s] W fun e w' => Made W w' e (num s.size ++ s.data.toList) :=
  (cStr_any _ [] s W (SB.nil_ _ _) (by simp; omega)).mono fun e w' ⟨r, he, ho, hb⟩ => made_of (r := e) he ho hb
theorem made_fix8 (n : Nat) (W : World) (hn : n < 18446744073709551616) : Calls Try.prog 12 #[.slice none 0 0, .int .u64 (n : Int), .int .i64 8] W fun e w' => Made W w' e (fix n 8) :=
  (cFix_any _ [] n 8 W (SB.nil_ _ _) (by simp) hn (by omega) (by omega)).mono fun e w' ⟨r, he, ho, hb⟩ => by
    rw [fixN8] at ho
    exact made_of (r := e) he ho hb
theorem sb_take {w : World} {B n c k : Nat} {A : Option Addr} {l : List UInt8} (h : SB w B (.slice A n c) l) (hn : n = l.length) (h0 : 0 < n) (hk : k ≤ n) : ∃ bl o, A = some ⟨bl, o, none⟩ ∧ n ≤ c ∧ c ≤ 9223372036854775807 ∧ SB w B (.slice (some ⟨bl, o, none⟩) k c) (l.take k) := by
  obtain ⟨A', c', e, h1, h2, hr⟩ := h
  injection e with e1 _ e3
  subst e1; subst e3; subst hn
  obtain ⟨bl, o, rfl, _, _⟩ := hr.at_ h0
  have h3 := hr.take hk
  rw [Nat.mul_one, ← bv_take] at h3
  have e3 : (l.take k).length = k := by rw [List.length_take]; omega
  refine ⟨bl, o, rfl, h1, by unfold maxLen at h2; omega, _, c, by rw [e3], by rw [e3]; omega, h2, ?_⟩
  rw [e3]; exact h3
theorem short0 (n at_ : Nat) (h : at_ < (num n).length) : sNum ((num n).take at_, 0) = (0, (num n).take at_, 10) := by
  simp [sNum, number_cut n at_ h]
theorem short1 (t : List UInt8) (at_ : Nat) (ht : t.length < 18446744073709551616) (h : at_ < (num t.length ++ t).length) : sStr (t.length : Int) ((num t.length ++ t).take at_, 0) = ([], (num t.length ++ t).take at_, 10) := by
  rcases Nat.lt_or_ge at_ (num t.length).length with h1 | h1
  · have e : (num t.length ++ t).take at_ = (num t.length).take at_ := List.take_append_of_le_length (by omega)
    rw [e]
    unfold sStr
    simp [number_cut _ at_ h1]
  · have e : (num t.length ++ t).take at_ = num t.length ++ t.take (at_ - (num t.length).length) := by
      rw [List.take_append, List.take_of_length_le (by omega)]
    rw [e]
    unfold sStr
    have hn := number_num t.length (t.take (at_ - (num t.length).length)) ht
    simp only [hn]
    rw [if_neg (by simp), if_neg (by simp), if_neg (by omega), if_pos]
    simp only [List.length_append, List.length_take] at h ⊢
    omega
theorem short2 (n at_ : Nat) (h : at_ < (fix n 8).length) : sFix 8 ((fix n 8).take at_, 0) = (0, (fix n 8).take at_, 10) := by
  have h8 := fix_length 8 n
  unfold sFix
  rw [if_neg (by simp), if_neg (by omega), if_pos]
  simp only [List.length_take]
  omega
theorem sNum_bad (l : List UInt8) : sNum (l, 10) = (0, l, 10) := by simp [sNum]
theorem sStr_bad (m : Int) (l : List UInt8) : sStr m (l, 10) = ([], l, 10) := by simp [sStr]
theorem sFix_bad (m : Int) (l : List UInt8) : sFix m (l, 10) = (0, l, 10) := by simp [sFix]
theorem sEnd_bad (l : List UInt8) : sEnd (l, 10) = 10 := by simp [sEnd]
section
variable (R : Nat) (l : List UInt8) (W : World) (B : Nat) (hB : B ≤ R)
include hB
theorem step_of {w' : World} {l' : List UInt8} {b b' : Nat} (h : RdrAt W R l b) (h1 : RdrAt w' R l' b') (hg : W.grownBy w' (some R)) : RdrAt w' R l' b' ∧ Below B W w' := ⟨h1, gbelow hg (Nat.le_of_lt h.lt) hB⟩
theorem bad_num (h : RdrAt W R l 10) : Calls Try.prog 17 #[.pointer (some ⟨R, 0, none⟩)] W fun e w' => e = .returned (.int .u64 0) ∧ RdrAt w' R l 10 ∧ Below B W w' :=
  (mNum_any R _ _ W h).mono fun e w' ⟨he, h1, hg⟩ => by rw [sNum_bad] at he h1; exact ⟨he, step_of R _ W B hB h h1 hg⟩
theorem bad_str (h : RdrAt W R l 10) : Calls Try.prog 19 #[.pointer (some ⟨R, 0, none⟩), .int .i64 9] W fun e w' => e = .returned (.string ⟨#[]⟩) ∧ RdrAt w' R l 10 ∧ Below B W w' :=
  (mStr_any R _ _ 9 W h (by omega)).mono fun e w' ⟨he, h1, hg⟩ => by rw [sStr_bad] at he h1; exact ⟨he, step_of R _ W B hB h h1 hg⟩
theorem bad_fix (h : RdrAt W R l 10) : Calls Try.prog 21 #[.pointer (some ⟨R, 0, none⟩), .int .i64 0] W fun e w' => e = .returned (.int .u64 0) ∧ RdrAt w' R l 10 ∧ Below B W w' :=
  (mFix_any R _ _ 0 W h (by omega) (by omega)).mono fun e w' ⟨he, h1, hg⟩ => by rw [sFix_bad] at he h1; exact ⟨he, step_of R _ W B hB h h1 hg⟩
omit hB in
theorem bad_end (h : RdrAt W R l 10) : Calls Try.prog 25 #[.pointer (some ⟨R, 0, none⟩)] W fun e w' => e = .returned (.int .i64 10) ∧ w' = W := by
  have := mEnd_any R _ _ W h; rw [sEnd_bad] at this; exact this
theorem first_num (n at_ : Nat) (hat : at_ < (num n).length) (h : RdrAt W R ((num n).take at_) 0) : Calls Try.prog 17 #[.pointer (some ⟨R, 0, none⟩)] W fun e w' => e = .returned (.int .u64 0) ∧ RdrAt w' R ((num n).take at_) 10 ∧ Below B W w' :=
  (mNum_any R _ _ W h).mono fun e w' ⟨he, h1, hg⟩ => by rw [short0 n at_ hat] at he h1; exact ⟨he, step_of R _ W B hB h h1 hg⟩
theorem first_str (s : ByteArray) (at_ : Nat) (hs : s.size ≤ 1000000) (hat : at_ < (num s.size ++ s.data.toList).length) (h : RdrAt W R ((num s.size ++ s.data.toList).take at_) 0) : Calls Try.prog 19 #[.pointer (some ⟨R, 0, none⟩), .int .i64 (s.size : Int)] W fun e w' => e = .returned (.string ⟨#[]⟩) ∧ RdrAt w' R ((num s.size ++ s.data.toList).take at_) 10 ∧ Below B W w' :=
  (mStr_any R _ _ s.size W h (by omega)).mono fun e w' ⟨he, h1, hg⟩ => by
    have hss : s.data.toList.length = s.size := by rw [Array.length_toList]; rfl
    have := short1 s.data.toList at_ (by omega) (by rw [hss]; exact hat)
    rw [hss] at this
    rw [this] at he h1; exact ⟨he, step_of R _ W B hB h h1 hg⟩
theorem first_fix (n at_ : Nat) (hat : at_ < (fix n 8).length) (h : RdrAt W R ((fix n 8).take at_) 0) : Calls Try.prog 21 #[.pointer (some ⟨R, 0, none⟩), .int .i64 8] W fun e w' => e = .returned (.int .u64 0) ∧ RdrAt w' R ((fix n 8).take at_) 10 ∧ Below B W w' :=
  (mFix_any R _ _ 8 W h (by omega) (by omega)).mono fun e w' ⟨he, h1, hg⟩ => by rw [short2 n at_ hat] at he h1; exact ⟨he, step_of R _ W B hB h h1 hg⟩
end

set_option maxRecDepth 100000 in
set_option maxHeartbeats 4000000 in
theorem codecShort_any (n : Nat) (s : ByteArray) (cut : Nat) (w : World) (hn : n < 18446744073709551616) (hs : s.size ≤ 9223372036854775807) (hcut : cut < 65536) :
    Calls Try.prog 7 #[.int .u64 n, .string s, .int .u16 cut] w fun e w' => e = .returned (.bool true) ∧ Below w.heap.size w w' := by
  go_enter Try.func7, Try.ntmps7
  go_wp2_with fail
  refine (shown_any w).mono ?_
  rintro e w1 ⟨rfl, hb1⟩
  by_cases hs1 : s.size ≤ 100000
  · have hd1 : decide (100000 < s.size) = false := by simp; omega
    have hss : s.data.toList.length = s.size := by rw [Array.length_toList]; rfl
    go_wp2_with fail
    refine (made_num n w1 hn).mono ?_
    rintro e w2 ⟨A2, c2, n0, rfl, hn0, hs2, hb2⟩
    have hb2' := bstep hb1 hb2
    go_wp2_with fail
    refine (made_str s w2 (by omega)).mono ?_
    rintro e w3 ⟨A3, c3, n1, rfl, hn1, hs3, hb3⟩
    have hb3' := bstep hb2' hb3
    go_wp2_with fail
    refine (made_fix8 n w3 hn).mono ?_
    rintro e w4 ⟨A4, c4, n2, rfl, hn2, hs4, hb4⟩
    have hb4' := bstep hb3' hb4
    have hs24 := (hs2.on hb3).on hb4
    have hs34 := hs3.on hb4
    have hn0' : 1 ≤ n0 ∧ n0 ≤ 10 := by rw [hn0.out]; exact num_length n
    have hn1' : 1 ≤ n1 ∧ n1 ≤ 200000 := by have := num_length s.size; rw [hn1.out, List.length_append]; omega
    have hn2' : 1 ≤ n2 ∧ n2 ≤ 8 := by rw [hn2.out, fix_length 8 n]; omega
    clear hs2 hs3
    go_wp2_with fail
    go_loopw [26] (fun i wr => ∃ k : Nat, i = .int .i64 k ∧ k ≤ 3 ∧ Below (w4.heap.size + 1) (w4.alloc (.cells #[.slice A2 n0 c2, .slice A3 n1 c3, .slice A4 n2 c4] 22)) wr) (fun i _ => 3 - (intOf i).toNat)
    case atStart => exact ⟨0, rfl, by omega, Below.refl _ _⟩
    case round =>
      obtain ⟨k, rfl, hk, hbr⟩ := hrel
      have hsz := hbr.size
      simp only [World.size_alloc] at hsz
      have d0 : wr.cell? ⟨w4.heap.size, 0, none⟩ = some (.slice A2 n0 c2) := (hbr.cell (by simp)).trans (cell_of_row _ _ 0 _ _ _ (heap_alloc_new w4 _))
      have d1 : wr.cell? ⟨w4.heap.size, 1, none⟩ = some (.slice A3 n1 c3) := (hbr.cell (by simp)).trans (cell_of_row _ _ 1 _ _ _ (heap_alloc_new w4 _))
      have d2 : wr.cell? ⟨w4.heap.size, 2, none⟩ = some (.slice A4 n2 c4) := (hbr.cell (by simp)).trans (cell_of_row _ _ 2 _ _ _ (heap_alloc_new w4 _))
      have hk' : k = 0 ∨ k = 1 ∨ k = 2 ∨ k = 3 := by omega
      rcases hk' with rfl | rfl | rfl | rfl
      · have hSB := (((hs24.alloc (Nat.le_refl _) (.cells #[.slice A2 n0 c2, .slice A3 n1 c3, .slice A4 n2 c4] 22)).more (Nat.le_succ _)).below hbr).more hsz
        have hat : cut % n0 < (num n).length := by rw [← hn0.out]; exact Nat.mod_lt _ (by omega)
        obtain ⟨bl, o, rfl, hcc, hcm, hcut⟩ := sb_take (k := cut % n0) hSB hn0.out (by omega) (Nat.le_of_lt (Nat.mod_lt _ (by omega)))
        have hmod : cut % n0 < n0 := Nat.mod_lt _ (by omega)
        have g1 : ((n0 : Int) == 0) = false := by rw [beq_eq_false_iff_ne]; omega
        have g2 : ((cut : Int)).tmod (n0 : Int) = ((cut % n0 : Nat) : Int) := (Int.ofNat_tmod _ _).symm
        have g3 : cut % n0 ≤ c2 := by have := Nat.mod_lt cut (show 0 < n0 by omega); omega
        have g4 : ¬ c2 = 0 := by omega
        have g5 : (Addr.add ⟨bl, o, none⟩ 0) = ⟨bl, o, none⟩ := by simp [Addr.add]
        have hll : ((num n).take (cut % n0)).length = cut % n0 := by rw [List.length_take]; omega
        go_wp2_with fail
        refine (cNew_any _ _ wr hcut (by rw [hll]; omega)).mono ?_
        rintro e w6 ⟨R, rfl, hR, hrd, hb6⟩
        have hrd6 := hrd.at_
        have hBR : w4.heap.size + 1 ≤ R := by omega
        have hbr6 := hbr.trans (hb6.mono hsz)
        clear hrd hcut hSB
        go_wp2_with fail
        refine (first_num R _ _ hBR n (cut % n0) hat hrd6).mono ?_
        rintro e w7 ⟨rfl, hrd7, hb7⟩
        have hbr7 := hbr6.trans hb7
        clear hrd6 hb6 hb7 hbr6
        go_wp2_with fail
        refine (mFault_any R _ 10 _ hrd7).mono ?_
        rintro e w8 ⟨rfl, rfl⟩
        go_wp2_with fail
        refine (mLeft_any R _ 10 _ hrd7).mono ?_
        rintro e w9 ⟨rfl, rfl⟩
        rw [hll]
        go_wp2_with fail
        refine (bad_num R _ _ _ hBR hrd7).mono ?_
        rintro e w10 ⟨rfl, hrd10, hb10⟩
        have hbr10 := hbr7.trans hb10
        clear hrd7 hb10 hbr7
        go_wp2_with fail
        refine (bad_str R _ _ _ hBR hrd10).mono ?_
        rintro e w11 ⟨rfl, hrd11, hb11⟩
        have hbr11 := hbr10.trans hb11
        clear hrd10 hb11 hbr10
        go_wp2_with fail
        refine (bad_fix R _ _ _ hBR hrd11).mono ?_
        rintro e w12 ⟨rfl, hrd12, hb12⟩
        have hbr12 := hbr11.trans hb12
        clear hrd11 hb12 hbr11
        go_wp2_with fail
        refine (bad_end R _ _ hrd12).mono ?_
        rintro e w13 ⟨rfl, rfl⟩
        go_wp2
        go_roundw
        case rel => exact ⟨1, by go_num, by omega, hbr12⟩
        case measure => simp [intOf]
      · have hSB := (((hs34.alloc (Nat.le_refl _) (.cells #[.slice A2 n0 c2, .slice A3 n1 c3, .slice A4 n2 c4] 22)).more (Nat.le_succ _)).below hbr).more hsz
        have hat : cut % n1 < (num s.size ++ s.data.toList).length := by rw [← hn1.out]; exact Nat.mod_lt _ (by omega)
        obtain ⟨bl, o, rfl, hcc, hcm, hcut⟩ := sb_take (k := cut % n1) hSB hn1.out (by omega) (Nat.le_of_lt (Nat.mod_lt _ (by omega)))
        have hmod : cut % n1 < n1 := Nat.mod_lt _ (by omega)
        have g1 : ((n1 : Int) == 0) = false := by rw [beq_eq_false_iff_ne]; omega
        have g2 : ((cut : Int)).tmod (n1 : Int) = ((cut % n1 : Nat) : Int) := (Int.ofNat_tmod _ _).symm
        have g3 : cut % n1 ≤ c3 := by have := Nat.mod_lt cut (show 0 < n1 by omega); omega
        have g4 : ¬ c3 = 0 := by omega
        have g5 : (Addr.add ⟨bl, o, none⟩ 0) = ⟨bl, o, none⟩ := by simp [Addr.add]
        have hll : ((num s.size ++ s.data.toList).take (cut % n1)).length = cut % n1 := by rw [List.length_take]; omega
        go_wp2_with fail
        refine (cNew_any _ _ wr hcut (by rw [hll]; omega)).mono ?_
        rintro e w6 ⟨R, rfl, hR, hrd, hb6⟩
        have hrd6 := hrd.at_
        have hBR : w4.heap.size + 1 ≤ R := by omega
        have hbr6 := hbr.trans (hb6.mono hsz)
        clear hrd hcut hSB
        go_wp2_with fail
        refine (first_str R _ _ hBR s (cut % n1) (by omega) hat hrd6).mono ?_
        rintro e w7 ⟨rfl, hrd7, hb7⟩
        have hbr7 := hbr6.trans hb7
        clear hrd6 hb6 hb7 hbr6
        go_wp2_with fail
        refine (mFault_any R _ 10 _ hrd7).mono ?_
        rintro e w8 ⟨rfl, rfl⟩
        go_wp2_with fail
        refine (mLeft_any R _ 10 _ hrd7).mono ?_
        rintro e w9 ⟨rfl, rfl⟩
        rw [hll]
        go_wp2_with fail
        refine (bad_num R _ _ _ hBR hrd7).mono ?_
        rintro e w10 ⟨rfl, hrd10, hb10⟩
        have hbr10 := hbr7.trans hb10
        clear hrd7 hb10 hbr7
        go_wp2_with fail
        refine (bad_str R _ _ _ hBR hrd10).mono ?_
        rintro e w11 ⟨rfl, hrd11, hb11⟩
        have hbr11 := hbr10.trans hb11
        clear hrd10 hb11 hbr10
        go_wp2_with fail
        refine (bad_fix R _ _ _ hBR hrd11).mono ?_
        rintro e w12 ⟨rfl, hrd12, hb12⟩
        have hbr12 := hbr11.trans hb12
        clear hrd11 hb12 hbr11
        go_wp2_with fail
        refine (bad_end R _ _ hrd12).mono ?_
        rintro e w13 ⟨rfl, rfl⟩
        go_wp2
        go_roundw
        case rel => exact ⟨2, by go_num, by omega, hbr12⟩
        case measure => simp [intOf]
      · have hSB := (((hs4.alloc (Nat.le_refl _) (.cells #[.slice A2 n0 c2, .slice A3 n1 c3, .slice A4 n2 c4] 22)).more (Nat.le_succ _)).below hbr).more hsz
        have hat : cut % n2 < (fix n 8).length := by rw [← hn2.out]; exact Nat.mod_lt _ (by omega)
        obtain ⟨bl, o, rfl, hcc, hcm, hcut⟩ := sb_take (k := cut % n2) hSB hn2.out (by omega) (Nat.le_of_lt (Nat.mod_lt _ (by omega)))
        have hmod : cut % n2 < n2 := Nat.mod_lt _ (by omega)
        have g1 : ((n2 : Int) == 0) = false := by rw [beq_eq_false_iff_ne]; omega
        have g2 : ((cut : Int)).tmod (n2 : Int) = ((cut % n2 : Nat) : Int) := (Int.ofNat_tmod _ _).symm
        have g3 : cut % n2 ≤ c4 := by have := Nat.mod_lt cut (show 0 < n2 by omega); omega
        have g4 : ¬ c4 = 0 := by omega
        have g5 : (Addr.add ⟨bl, o, none⟩ 0) = ⟨bl, o, none⟩ := by simp [Addr.add]
        have hll : ((fix n 8).take (cut % n2)).length = cut % n2 := by rw [List.length_take]; omega
        go_wp2_with fail
        refine (cNew_any _ _ wr hcut (by rw [hll]; omega)).mono ?_
        rintro e w6 ⟨R, rfl, hR, hrd, hb6⟩
        have hrd6 := hrd.at_
        have hBR : w4.heap.size + 1 ≤ R := by omega
        have hbr6 := hbr.trans (hb6.mono hsz)
        clear hrd hcut hSB
        go_wp2_with fail
        refine (first_fix R _ _ hBR n (cut % n2) hat hrd6).mono ?_
        rintro e w7 ⟨rfl, hrd7, hb7⟩
        have hbr7 := hbr6.trans hb7
        clear hrd6 hb6 hb7 hbr6
        go_wp2_with fail
        refine (mFault_any R _ 10 _ hrd7).mono ?_
        rintro e w8 ⟨rfl, rfl⟩
        go_wp2_with fail
        refine (mLeft_any R _ 10 _ hrd7).mono ?_
        rintro e w9 ⟨rfl, rfl⟩
        rw [hll]
        go_wp2_with fail
        refine (bad_num R _ _ _ hBR hrd7).mono ?_
        rintro e w10 ⟨rfl, hrd10, hb10⟩
        have hbr10 := hbr7.trans hb10
        clear hrd7 hb10 hbr7
        go_wp2_with fail
        refine (bad_str R _ _ _ hBR hrd10).mono ?_
        rintro e w11 ⟨rfl, hrd11, hb11⟩
        have hbr11 := hbr10.trans hb11
        clear hrd10 hb11 hbr10
        go_wp2_with fail
        refine (bad_fix R _ _ _ hBR hrd11).mono ?_
        rintro e w12 ⟨rfl, hrd12, hb12⟩
        have hbr12 := hbr11.trans hb12
        clear hrd11 hb12 hbr11
        go_wp2_with fail
        refine (bad_end R _ _ hrd12).mono ?_
        rintro e w13 ⟨rfl, rfl⟩
        go_wp2
        go_roundw
        case rel => exact ⟨3, by go_num, by omega, hbr12⟩
        case measure => simp [intOf]
      · go_wp2
        go_ret
        exact ⟨rfl, hb4'.trans ((balloc (bself w4) _).trans (hbr.mono (by omega)) |>.mono hb4'.size)⟩
  · have hd1 : decide (100000 < s.size) = true := by simp; omega
    go_wp2
    go_ret
    exact ⟨rfl, hb1⟩
end Go.Proofs.Ytaefhnmdombadaa
