/-
  What is proved here: what the reference's Parse comes to, at this seat's numbers. Condition: a text of at most 2^47 bytes.
-/
import Derived.Test.YtjkcdnangmjoeaaNameW6
namespace Go.Proofs.Ytjkcdnangmjoeaa
open Go.RowKit

theorem parseV_trial {l : List UInt8} {f k n : Nat} (h : trial l (f + 1) k = parseR l) (hn : tryN l k = n) (he : nmOf k n = l) : parseV l = .tuple #[.int .u8 (k : Int), .int .u64 (n : Int), .bool true] := by
  unfold parseV
  rw [← h]
  show (match (if nmOf k (tryN l k) = l then some (k, tryN l k) else trial l f (k + 1)) with | none => _ | some (k, n) => _) = _
  rw [hn, if_pos he]
theorem next_trial {l : List UInt8} {f k n : Nat} (h : trial l (f + 1) k = parseR l) (hn : tryN l k = n) (he : ¬ nmOf k n = l) : trial l f (k + 1) = parseR l := by
  rw [← h]
  show _ = (if nmOf k (tryN l k) = l then some (k, tryN l k) else trial l f (k + 1))
  rw [hn, if_neg he]
theorem parseV_none {l : List UInt8} {k : Nat} (h : trial l 0 k = parseR l) : parseV l = .tuple #[.int .u8 0, .int .u64 0, .bool false] := by
  unfold parseV
  rw [← h]
  rfl
theorem eq_str {a : List UInt8} {s : ByteArray} (h : a = s.data.toList) : ((⟨a.toArray⟩ : ByteArray).toList == s.toList) = true := by
  rw [beq_iff_eq, Lib.toList_data, Lib.toList_data]; exact h
theorem ne_str {a : List UInt8} {s : ByteArray} (h : ¬ a = s.data.toList) : ((⟨a.toArray⟩ : ByteArray).toList == s.toList) = false := by
  rw [beq_eq_false_iff_ne, Lib.toList_data, Lib.toList_data]; exact h
set_option maxHeartbeats 1000000 in
theorem rParse_any (s : ByteArray) (w : World) (hs : s.size ≤ 140737488355328) :
    Calls Try.prog 13 #[.string s] w fun e w' => e = .returned (parseV s.data.toList) ∧ Below w.heap.size w w' := by
  have hlen : s.data.toList.length = s.size := by rw [Array.length_toList]; rfl
  obtain ⟨V, hV⟩ : ∃ V : ByteArray → Nat, ∀ t, V t = vpre t.data.toList := ⟨_, fun _ => rfl⟩
  have HVG : Hid (∀ t : ByteArray, t.size ≤ 140737488355328 → ∀ W, Calls Try.prog 26 #[.string t] W fun e w' => e = .returned (.int .u64 (V t : Int)) ∧ w' = W) := fun t ht W => by rw [hV]; exact rValue_any t W ht
  have hv := Lib.hid (hV s)
  go_enter Try.func13, Try.ntmps13
  go_wp2
  go_loopw [5] (fun x wr => ∃ k f : Nat, x = .int .u8 k ∧ f + k = 6 ∧ 1 ≤ k ∧ Hid (trial s.data.toList f k = parseR s.data.toList) ∧ Below w.heap.size w wr) (fun x _ => 6 - (intOf x).toNat)
  case atStart => exact ⟨1, 5, rfl, rfl, Nat.le_refl _, trial_parse _, bself w⟩
  case round =>
    obtain ⟨k, f, rfl, hf, hk, hT, hbr⟩ := hrel
    have hk' : k = 1 ∨ k = 2 ∨ k = 3 ∨ k = 4 ∨ k = 5 ∨ k = 6 := by omega
    rcases hk' with rfl | rfl | rfl | rfl | rfl | rfl
    · have hf5 : f = 5 := by omega
      subst hf5
      have hval : tryN s.data.toList 1 = V s := by unfold tryN; rw [if_neg (by omega), if_neg (by omega), hv.out]
      clear hf hk
      obtain ⟨m, hm⟩ : ∃ m, tryN s.data.toList 1 = m := ⟨_, rfl⟩
      have hmb : m < 18446744073709551616 := by rw [← hm]; exact (tryN_lt _ _).1
      obtain ⟨N, hN⟩ : ∃ N : ByteArray, N = ⟨(nmOf 1 m).toArray⟩ := ⟨_, rfl⟩
      have HM : Hid (∀ W, Calls Try.prog 11 #[.int .u8 1, .int .u64 m] W fun e w' => e = .returned (.string N) ∧ Below W.heap.size W w') := fun W => by rw [hN]; exact rName_any 1 m W (by omega) hmb
      have h1 : V s = m := (by rw [← hval, hm])
      by_cases he : nmOf 1 m = s.data.toList
      · have HP := Lib.hid (parseV_trial hT.out hm he)
        have ge : (N.toList == s.toList) = true := by rw [hN]; exact eq_str he
        clear hm hN he hval
        go_wp2_with (first | (go_at_call 26; refine (HVG.out _ (by assumption) _).mono ?_; rintro e w1 ⟨rfl, rfl⟩; try rw [h1]) | (go_at_call 11; refine (HM.out _).mono ?_; rintro e w2 ⟨rfl, hb2⟩))
        exact bodyPost_ret (v := .tuple #[.int .u8 1, .int .u64 ((m : Nat) : Int), .bool true]) (by simp [results, Try.results13, go_sem] <;> rfl) rfl ⟨by rw [HP.out]; rfl, bstep hbr hb2⟩
      · have HT := Lib.hid (next_trial hT.out hm he)
        have ge : (N.toList == s.toList) = false := by rw [hN]; exact ne_str he
        clear hm hN he hval
        go_wp2_with (first | (go_at_call 26; refine (HVG.out _ (by assumption) _).mono ?_; rintro e w1 ⟨rfl, rfl⟩; try rw [h1]) | (go_at_call 11; refine (HM.out _).mono ?_; rintro e w2 ⟨rfl, hb2⟩))
        go_roundw
        case rel => exact ⟨1 + 1, 4, by go_num, by omega, by omega, HT, bstep hbr hb2⟩
        case measure => simp [intOf]
    · have hf5 : f = 4 := by omega
      subst hf5
      have hval : tryN s.data.toList 2 = V s := by unfold tryN; rw [if_neg (by omega), if_neg (by omega), hv.out]
      clear hf hk
      obtain ⟨m, hm⟩ : ∃ m, tryN s.data.toList 2 = m := ⟨_, rfl⟩
      have hmb : m < 18446744073709551616 := by rw [← hm]; exact (tryN_lt _ _).1
      obtain ⟨N, hN⟩ : ∃ N : ByteArray, N = ⟨(nmOf 2 m).toArray⟩ := ⟨_, rfl⟩
      have HM : Hid (∀ W, Calls Try.prog 11 #[.int .u8 2, .int .u64 m] W fun e w' => e = .returned (.string N) ∧ Below W.heap.size W w') := fun W => by rw [hN]; exact rName_any 2 m W (by omega) hmb
      have h1 : V s = m := (by rw [← hval, hm])
      by_cases he : nmOf 2 m = s.data.toList
      · have HP := Lib.hid (parseV_trial hT.out hm he)
        have ge : (N.toList == s.toList) = true := by rw [hN]; exact eq_str he
        clear hm hN he hval
        go_wp2_with (first | (go_at_call 26; refine (HVG.out _ (by assumption) _).mono ?_; rintro e w1 ⟨rfl, rfl⟩; try rw [h1]) | (go_at_call 11; refine (HM.out _).mono ?_; rintro e w2 ⟨rfl, hb2⟩))
        exact bodyPost_ret (v := .tuple #[.int .u8 2, .int .u64 ((m : Nat) : Int), .bool true]) (by simp [results, Try.results13, go_sem] <;> rfl) rfl ⟨by rw [HP.out]; rfl, bstep hbr hb2⟩
      · have HT := Lib.hid (next_trial hT.out hm he)
        have ge : (N.toList == s.toList) = false := by rw [hN]; exact ne_str he
        clear hm hN he hval
        go_wp2_with (first | (go_at_call 26; refine (HVG.out _ (by assumption) _).mono ?_; rintro e w1 ⟨rfl, rfl⟩; try rw [h1]) | (go_at_call 11; refine (HM.out _).mono ?_; rintro e w2 ⟨rfl, hb2⟩))
        go_roundw
        case rel => exact ⟨2 + 1, 3, by go_num, by omega, by omega, HT, bstep hbr hb2⟩
        case measure => simp [intOf]
    · have hf5 : f = 3 := by omega
      subst hf5
      clear hf hk
      by_cases h9 : 9 < s.data.toList.length
      · have hval : tryN s.data.toList 3 = vpre (s.data.toList.drop 9) := by unfold tryN; rw [if_neg (by omega), if_pos ⟨rfl, h9⟩]
        have g9 : (9 : Int) < (s.size : Int) := by omega
        have hex : (s.extract 9 s.size).data.toList = s.data.toList.drop 9 := by rw [Lib.extract_data, List.take_of_length_le (by rw [List.length_drop]; omega)]
        have hsz : (s.extract 9 s.size).size ≤ 140737488355328 := by rw [Lib.size_eq, hex, List.length_drop]; omega
        have h2 : V (s.extract 9 s.size) = vpre (s.data.toList.drop 9) := by rw [hV, hex]
        rw [← h2] at hval
        clear h2
        clear hex h9
        obtain ⟨m, hm⟩ : ∃ m, tryN s.data.toList 3 = m := ⟨_, rfl⟩
        have hmb : m < 18446744073709551616 := by rw [← hm]; exact (tryN_lt _ _).1
        obtain ⟨N, hN⟩ : ∃ N : ByteArray, N = ⟨(nmOf 3 m).toArray⟩ := ⟨_, rfl⟩
        have HM : Hid (∀ W, Calls Try.prog 11 #[.int .u8 3, .int .u64 m] W fun e w' => e = .returned (.string N) ∧ Below W.heap.size W w') := fun W => by rw [hN]; exact rName_any 3 m W (by omega) hmb
        have h1 : V (s.extract 9 s.size) = m := (by rw [← hval, hm])
        by_cases he : nmOf 3 m = s.data.toList
        · have HP := Lib.hid (parseV_trial hT.out hm he)
          have ge : (N.toList == s.toList) = true := by rw [hN]; exact eq_str he
          clear hm hN he hval
          go_wp2_with (first | (go_at_call 26; refine (HVG.out _ (by assumption) _).mono ?_; rintro e w1 ⟨rfl, rfl⟩; try rw [h1]) | (go_at_call 11; refine (HM.out _).mono ?_; rintro e w2 ⟨rfl, hb2⟩))
          exact bodyPost_ret (v := .tuple #[.int .u8 3, .int .u64 ((m : Nat) : Int), .bool true]) (by simp [results, Try.results13, go_sem] <;> rfl) rfl ⟨by rw [HP.out]; rfl, bstep hbr hb2⟩
        · have HT := Lib.hid (next_trial hT.out hm he)
          have ge : (N.toList == s.toList) = false := by rw [hN]; exact ne_str he
          clear hm hN he hval
          go_wp2_with (first | (go_at_call 26; refine (HVG.out _ (by assumption) _).mono ?_; rintro e w1 ⟨rfl, rfl⟩; try rw [h1]) | (go_at_call 11; refine (HM.out _).mono ?_; rintro e w2 ⟨rfl, hb2⟩))
          go_roundw
          case rel => exact ⟨3 + 1, 2, by go_num, by omega, by omega, HT, bstep hbr hb2⟩
          case measure => simp [intOf]
      · have hval : tryN s.data.toList 3 = V s := by unfold tryN; rw [if_neg (by omega), if_neg (fun h => h9 h.2), hv.out]
        have g9 : ¬ ((9 : Int) < (s.size : Int)) := by omega
        clear h9
        obtain ⟨m, hm⟩ : ∃ m, tryN s.data.toList 3 = m := ⟨_, rfl⟩
        have hmb : m < 18446744073709551616 := by rw [← hm]; exact (tryN_lt _ _).1
        obtain ⟨N, hN⟩ : ∃ N : ByteArray, N = ⟨(nmOf 3 m).toArray⟩ := ⟨_, rfl⟩
        have HM : Hid (∀ W, Calls Try.prog 11 #[.int .u8 3, .int .u64 m] W fun e w' => e = .returned (.string N) ∧ Below W.heap.size W w') := fun W => by rw [hN]; exact rName_any 3 m W (by omega) hmb
        have h1 : V s = m := (by rw [← hval, hm])
        by_cases he : nmOf 3 m = s.data.toList
        · have HP := Lib.hid (parseV_trial hT.out hm he)
          have ge : (N.toList == s.toList) = true := by rw [hN]; exact eq_str he
          clear hm hN he hval
          go_wp2_with (first | (go_at_call 26; refine (HVG.out _ (by assumption) _).mono ?_; rintro e w1 ⟨rfl, rfl⟩; try rw [h1]) | (go_at_call 11; refine (HM.out _).mono ?_; rintro e w2 ⟨rfl, hb2⟩))
          exact bodyPost_ret (v := .tuple #[.int .u8 3, .int .u64 ((m : Nat) : Int), .bool true]) (by simp [results, Try.results13, go_sem] <;> rfl) rfl ⟨by rw [HP.out]; rfl, bstep hbr hb2⟩
        · have HT := Lib.hid (next_trial hT.out hm he)
          have ge : (N.toList == s.toList) = false := by rw [hN]; exact ne_str he
          clear hm hN he hval
          go_wp2_with (first | (go_at_call 26; refine (HVG.out _ (by assumption) _).mono ?_; rintro e w1 ⟨rfl, rfl⟩; try rw [h1]) | (go_at_call 11; refine (HM.out _).mono ?_; rintro e w2 ⟨rfl, hb2⟩))
          go_roundw
          case rel => exact ⟨3 + 1, 2, by go_num, by omega, by omega, HT, bstep hbr hb2⟩
          case measure => simp [intOf]
    · have hf5 : f = 2 := by omega
      subst hf5
      have hval : tryN s.data.toList 4 = 0 := (tryN_lt _ 4).2 (by omega)
      clear hf hk
      obtain ⟨m, hm⟩ : ∃ m, tryN s.data.toList 4 = m := ⟨_, rfl⟩
      have hmb : m < 18446744073709551616 := by rw [← hm]; exact (tryN_lt _ _).1
      obtain ⟨N, hN⟩ : ∃ N : ByteArray, N = ⟨(nmOf 4 m).toArray⟩ := ⟨_, rfl⟩
      have HM : Hid (∀ W, Calls Try.prog 11 #[.int .u8 4, .int .u64 m] W fun e w' => e = .returned (.string N) ∧ Below W.heap.size W w') := fun W => by rw [hN]; exact rName_any 4 m W (by omega) hmb
      have h1 : m = 0 := (by rw [← hm, hval]); subst h1; have h1 := hs; have HM := Lib.hid (show ∀ W, Calls Try.prog 11 #[.int .u8 4, .int .u64 0] W fun e w' => e = .returned (.string N) ∧ Below W.heap.size W w' from HM.out)
      by_cases he : nmOf 4 0 = s.data.toList
      · have HP := Lib.hid (parseV_trial hT.out hm he)
        have ge : (N.toList == s.toList) = true := by rw [hN]; exact eq_str he
        clear hm hN he hval
        go_wp2_with (first | (go_at_call 26; refine (HVG.out _ (by assumption) _).mono ?_; rintro e w1 ⟨rfl, rfl⟩; try rw [h1]) | (go_at_call 11; refine (HM.out _).mono ?_; rintro e w2 ⟨rfl, hb2⟩))
        exact bodyPost_ret (v := .tuple #[.int .u8 4, .int .u64 ((0 : Nat) : Int), .bool true]) (by simp [results, Try.results13, go_sem] <;> rfl) rfl ⟨by rw [HP.out]; rfl, bstep hbr hb2⟩
      · have HT := Lib.hid (next_trial hT.out hm he)
        have ge : (N.toList == s.toList) = false := by rw [hN]; exact ne_str he
        clear hm hN he hval
        go_wp2_with (first | (go_at_call 26; refine (HVG.out _ (by assumption) _).mono ?_; rintro e w1 ⟨rfl, rfl⟩; try rw [h1]) | (go_at_call 11; refine (HM.out _).mono ?_; rintro e w2 ⟨rfl, hb2⟩))
        go_roundw
        case rel => exact ⟨4 + 1, 1, by go_num, by omega, by omega, HT, bstep hbr hb2⟩
        case measure => simp [intOf]
    · have hf5 : f = 1 := by omega
      subst hf5
      have hval : tryN s.data.toList 5 = 0 := (tryN_lt _ 5).2 (by omega)
      clear hf hk
      obtain ⟨m, hm⟩ : ∃ m, tryN s.data.toList 5 = m := ⟨_, rfl⟩
      have hmb : m < 18446744073709551616 := by rw [← hm]; exact (tryN_lt _ _).1
      obtain ⟨N, hN⟩ : ∃ N : ByteArray, N = ⟨(nmOf 5 m).toArray⟩ := ⟨_, rfl⟩
      have HM : Hid (∀ W, Calls Try.prog 11 #[.int .u8 5, .int .u64 m] W fun e w' => e = .returned (.string N) ∧ Below W.heap.size W w') := fun W => by rw [hN]; exact rName_any 5 m W (by omega) hmb
      have h1 : m = 0 := (by rw [← hm, hval]); subst h1; have h1 := hs; have HM := Lib.hid (show ∀ W, Calls Try.prog 11 #[.int .u8 5, .int .u64 0] W fun e w' => e = .returned (.string N) ∧ Below W.heap.size W w' from HM.out)
      by_cases he : nmOf 5 0 = s.data.toList
      · have HP := Lib.hid (parseV_trial hT.out hm he)
        have ge : (N.toList == s.toList) = true := by rw [hN]; exact eq_str he
        clear hm hN he hval
        go_wp2_with (first | (go_at_call 26; refine (HVG.out _ (by assumption) _).mono ?_; rintro e w1 ⟨rfl, rfl⟩; try rw [h1]) | (go_at_call 11; refine (HM.out _).mono ?_; rintro e w2 ⟨rfl, hb2⟩))
        exact bodyPost_ret (v := .tuple #[.int .u8 5, .int .u64 ((0 : Nat) : Int), .bool true]) (by simp [results, Try.results13, go_sem] <;> rfl) rfl ⟨by rw [HP.out]; rfl, bstep hbr hb2⟩
      · have HT := Lib.hid (next_trial hT.out hm he)
        have ge : (N.toList == s.toList) = false := by rw [hN]; exact ne_str he
        clear hm hN he hval
        go_wp2_with (first | (go_at_call 26; refine (HVG.out _ (by assumption) _).mono ?_; rintro e w1 ⟨rfl, rfl⟩; try rw [h1]) | (go_at_call 11; refine (HM.out _).mono ?_; rintro e w2 ⟨rfl, hb2⟩))
        go_roundw
        case rel => exact ⟨5 + 1, 0, by go_num, by omega, by omega, HT, bstep hbr hb2⟩
        case measure => simp [intOf]
    · have hf0 : f = 0 := by omega
      subst hf0
      have HP := Lib.hid (parseV_none hT.out)
      go_wp2
      exact bodyPost_ret (v := .tuple #[.int .u8 0, .int .u64 0, .bool false]) (by simp [results, Try.results13, go_sem] <;> rfl) rfl ⟨by rw [HP.out], hbr⟩
end Go.Proofs.Ytjkcdnangmjoeaa
