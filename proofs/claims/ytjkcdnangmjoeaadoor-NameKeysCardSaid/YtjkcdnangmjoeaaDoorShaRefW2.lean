/-
  What is proved here: what the reference's padded comes to, at this seat's numbers. Condition: the bytes' length.
-/
import Derived.Test.YtjkcdnangmjoeaaDoorShaRefW
namespace Go.Proofs.YtjkcdnangmjoeaaDoor
open Go.RowKit

theorem be8_take (n j : Nat) (hj : j < 8) : (be8 n).take (j + 1) = (be8 n).take j ++ [UInt8.ofNat (n / 2 ^ (56 - 8 * j))] := by
  rcases j with _ | _ | _ | _ | _ | _ | _ | _ | j
  all_goals first | omega | rfl
theorem be8_val (n j : Nat) (hj : j < 8) : Value.int .u8 ((n : Int) * 8 / 2 ^ (8 * (7 - j)) % 256) = u8v (UInt8.ofNat (n * 8 / 2 ^ (56 - 8 * j))) := by
  show _ = Value.int .u8 (((UInt8.ofNat (n * 8 / 2 ^ (56 - 8 * j))).toNat : Nat) : Int)
  rw [UInt8.toNat_ofNat', show 56 - 8 * j = 8 * (7 - j) from by omega]
  generalize 8 * (7 - j) = k
  refine congrArg (Value.int .u8) ?_
  try simp only [Int.natCast_emod, Int.natCast_ediv, Int.natCast_mul, Int.natCast_pow]
  try rfl
def sliceLenR : Value → Nat
  | .slice _ n _ => n
  | _ => 0
set_option maxRecDepth 100000 in
set_option maxHeartbeats 2000000 in
theorem rPadded_any (v : Value) (bs : List UInt8) (w : World) (hv : SB w w.heap.size v bs) (hl : bs.length ≤ 140737488355000) :
    Calls Tryd.prog 41 #[v] w fun e w' => ∃ u, e = .returned u ∧ OB w' w.heap.size u (padded bs) ∧ Below w.heap.size w w' := by
  obtain ⟨A, c, rfl, hlc, hcm, hr⟩ := id hv
  have hcm2 : c ≤ 9223372036854775807 := by unfold maxLen at hcm; omega
  have own0 : OB (w.alloc (.cells #[] 5)) w.heap.size (.slice (some ⟨w.heap.size, 0, none⟩) 0 0) [] := OB.lit0 w (Nat.le_refl _)
  have hsrc : SB (w.alloc (.cells #[] 5)) w.heap.size (.slice A bs.length c) bs := SB.alloc hv (Nat.le_refl _) _
  have hlen : ([] : List UInt8).length + bs.length ≤ 140737488355328 := by simp only [List.length_nil]; omega
  have hbz : w.heap.size ≤ (w.alloc (.cells #[] 5)).heap.size := by simp
  have HB1 : Hid (∀ w3, Below w.heap.size (w.alloc (.cells #[] 5)) w3 → Below w.heap.size w w3) := Lib.hid (fun w3 h => (balloc (bself w) _).trans h)
  clear hcm
  go_enter Tryd.func41, Tryd.ntmps41
  go_upto_region 2 with (at_builtin; go_loud (refine wl_appB rfl (.tmp 6) (.tmp 7) rfl w.heap.size _ [] rfl own0 w.heap.size _ bs rfl hsrc hlen hbz ?_); intro v3 w3 hown3 hg3 ho3 hb3; rw [List.nil_append] at hown3; have b3 := HB1.out w3 hb3)
  have z3 := b3.size
  clear own0 hsrc hlen hbz HB1
  go_upto_region 3 with (at_builtin; go_loud (refine wl_app1 rfl (.tmp 9) (.tmp 10) rfl w.heap.size _ bs rfl hown3 _ 128 rfl rfl rfl (by omega) z3 ?_); intro v4 w4 hown4 hg4 ho4 hb4; have b4 := b3.trans hb4)
  have z4 := b4.size
  go_loopw [3] (fun ov wr => ∃ (z : Nat) (n : Nat) (A3 : Option Addr) (c3 : Nat), ov = .slice A3 n c3 ∧ n = bs.length + 1 + z ∧ z ≤ padN bs.length ∧ OB wr w.heap.size (.slice A3 n c3) (bs ++ 128 :: List.replicate z 0) ∧ Below w.heap.size w wr) (fun ov _ => bs.length + 1 + padN bs.length - sliceLenR ov)
  case atStart =>
    obtain ⟨A4, c4, e4, _, _, _⟩ := id hown4.sb
    rw [List.length_append, List.length_singleton] at e4
    subst e4
    exact ⟨0, _, A4, c4, rfl, rfl, Nat.zero_le _, hown4, b4⟩
  case round =>
    obtain ⟨z, n, A3, c3, rfl, hn, hz, hown, hbr⟩ := hrel
    have hzr := hbr.size
    have HZ := Lib.hid (And.intro hn hz)
    by_cases hzz : z < padN bs.length
    · have hne : ¬ n % 64 = 56 := by unfold padN at hzz; omega
      have hnl : n ≤ 140737488355200 := by unfold padN at hzz; omega
      have hL : (bs ++ 128 :: List.replicate z 0).length + 1 ≤ 140737488355328 := by simp; omega
      clear hn hz
      have HAPP : Hid (bs ++ 128 :: List.replicate z 0 ++ [0] = bs ++ 128 :: List.replicate (z + 1) 0) := Lib.hid (by rw [List.append_assoc, List.cons_append, ← List.replicate_succ'])
      obtain ⟨L, hLL⟩ : ∃ L, L = bs ++ 128 :: List.replicate z 0 := ⟨_, rfl⟩
      have HLN : Hid (L.length = n) := Lib.hid (by rw [hLL, HZ.out.1]; simp; omega)
      rw [← hLL] at hown hL HAPP
      clear hLL
      go_wp2_with (at_builtin; go_loud (refine wl_app1 rfl (.tmp 16) (.tmp 17) rfl w.heap.size _ L rfl hown _ 0 rfl rfl rfl hL hzr ?_); intro v5 w5 hown5 hg5 ho5 hb5; rw [HAPP.out] at hown5; have b5 := hbr.trans hb5)
      obtain ⟨A5, c5, e5, _, _, _⟩ := id hown5.sb
      have e6 : v5 = .slice A5 (bs.length + 1 + (z + 1)) c5 := by rw [e5]; congr 1; simp; omega
      subst e6
      go_roundw
      case rel => exact ⟨z + 1, _, A5, c5, rfl, rfl, by omega, hown5, b5⟩
      case measure => simp only [sliceLenR]; have := HZ.out.1; omega
    · have hne0 : n % 64 = 56 := by unfold padN at hzz hz; omega
      have hne : ((n : Int) % 64 != 56) = false := by
        have h : (n : Int) % 64 = 56 := by omega
        rw [h]; rfl
      have HNE := Lib.hid hne0
      clear hn hz hne0
      go_wp2_with fail
      have hze : z = padN bs.length := by have := HZ.out.2; omega
      subst hze
      have hbr0 : Below w.heap.size w wr := hbr
      obtain ⟨T, hT⟩ : ∃ T, T = bs ++ 128 :: List.replicate (padN bs.length) 0 := ⟨_, rfl⟩
      have HT := Lib.hid hT
      have HTL : Hid (T.length ≤ 140737488355200) := Lib.hid (by rw [hT]; simp; unfold padN; omega)
      rw [← hT] at hown
      clear hT
      go_loopw [3, 5] (fun ov iv wy => ∃ j : Nat, j ≤ 8 ∧ iv = .int .i64 (7 - (j : Int)) ∧ OB wy w.heap.size ov (T ++ (be8 (bs.length * 8)).take j) ∧ Below w.heap.size w wy) (fun _ iv _ => (intOf iv + 1).toNat)
      case atStart => exact ⟨0, by omega, rfl, by rw [List.take_zero, List.append_nil]; exact hown, hbr0⟩
      case round =>
        obtain ⟨j, hj, rfl, hown7, hb7⟩ := hrel
        have hz7 := hb7.size
        by_cases hj8 : j < 8
        · have HB8 := Lib.hid (be8_take (bs.length * 8) j hj8)
          have HV8 := Lib.hid (be8_val bs.length j hj8)
          obtain ⟨L, hL⟩ : ∃ L, L = T ++ (be8 (bs.length * 8)).take j := ⟨_, rfl⟩
          have hLl : L.length + 1 ≤ 140737488355328 := by
            have := HTL.out
            rw [hL, List.length_append, List.length_take, be8_length]; omega
          have HAPP : Hid (L ++ [UInt8.ofNat (bs.length * 8 / 2 ^ (56 - 8 * j))] = T ++ (be8 (bs.length * 8)).take (j + 1)) := Lib.hid (by rw [HB8.out, hL, List.append_assoc])
          rw [← hL] at hown7
          clear hL
          go_wp2_with (at_builtin; go_loud (refine wl_app1 rfl (.tmp 27) (.tmp 33) rfl w.heap.size _ L rfl hown7 _ _ HV8.out rfl rfl hLl hz7 ?_); intro v8 w8 hown8 hg8 ho8 hb8; rw [HAPP.out] at hown8; have b8 := hb7.trans hb8)
          go_roundw
          case rel =>
            first
              | exact ⟨j + 1, by omega, by first | rfl | (congr 1; omega), hown8, b8⟩
              | ((repeat apply Exists.intro); exact ⟨⟨j + 1, by omega, by first | rfl | (congr 1; omega), hown8, b8⟩, rfl⟩)
          case measure => simp [intOf]; omega
        · have hj88 : j = 8 := by omega
          subst hj88
          go_wp2_with fail
          go_ret
          have hpd : T ++ (be8 (bs.length * 8)).take 8 = padded bs := by
            rw [List.take_of_length_le (by rw [be8_length]; exact Nat.le_refl _), HT.out]
            unfold padded tailOf
            simp
          exact ⟨_, rfl, by rw [← hpd]; exact hown7, hb7⟩
end Go.Proofs.YtjkcdnangmjoeaaDoor
