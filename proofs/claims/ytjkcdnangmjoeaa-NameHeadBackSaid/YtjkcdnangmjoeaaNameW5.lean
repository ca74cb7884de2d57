/-
  What is proved here: what the program's Parse comes to, at this seat's numbers. Condition: a text of at most 2^47 bytes.
-/
import Derived.Test.YtjkcdnangmjoeaaNameW4
namespace Go.Proofs.Ytjkcdnangmjoeaa
open Go.RowKit

def parseV (l : List UInt8) : Value := match parseR l with
  | none => .tuple #[.int .u8 0, .int .u64 0, .bool false]
  | some (k, n) => .tuple #[.int .u8 (k : Int), .int .u64 (n : Int), .bool true]
theorem parseV_cur : parseV sCur = .tuple #[.int .u8 4, .int .u64 0, .bool true] := by
  unfold parseV parseR; rw [if_pos rfl]; rfl
theorem parseV_tmp : parseV sTmp = .tuple #[.int .u8 5, .int .u64 0, .bool true] := by
  unfold parseV parseR; rw [if_neg (by decide), if_pos rfl]; rfl
theorem parseV_no {l : List UInt8} (h1 : l ≠ sCur) (h2 : l ≠ sTmp) (h : (endsR l).2 = 0 ∨ (numR (endsR l).1).2 = false) : parseV l = .tuple #[.int .u8 0, .int .u64 0, .bool false] := by
  unfold parseV parseR
  rw [if_neg h1, if_neg h2, if_neg]
  intro x
  rcases h with h | h
  · exact x.1 h
  · rw [x.2] at h; cases h
theorem parseV_yes {l : List UInt8} (h1 : l ≠ sCur) (h2 : l ≠ sTmp) (h3 : (endsR l).2 ≠ 0) (h4 : (numR (endsR l).1).2 = true) : parseV l = .tuple #[.int .u8 ((endsR l).2 : Int), .int .u64 ((numR (endsR l).1).1 : Int), .bool true] := by
  unfold parseV parseR
  rw [if_neg h1, if_neg h2, if_pos ⟨h3, h4⟩]
theorem neq_str {s : ByteArray} {l : List UInt8} (h : ¬ s.data.toList = l) : (s.toList == l) = false := by
  rw [beq_eq_false_iff_ne, Lib.toList_data]
  exact h
set_option maxHeartbeats 1000000 in
theorem kParse_any (s : ByteArray) (w : World) (hs : s.size ≤ 140737488355328) :
    Calls Try.prog 12 #[.string s] w fun e w' => e = .returned (parseV s.data.toList) ∧ Below w.heap.size w w' := by
  by_cases hA : s.data.toList = sCur
  · have e : s = ⟨#[99, 117, 114, 114, 101, 110, 116]⟩ := by rw [← Lib.mk_data s, hA]; rfl
    have HP := Lib.hid parseV_cur
    rw [hA, HP.out]
    subst e
    clear hA
    go_enter Try.func12, Try.ntmps12
    go_wp2
    exact bodyPost_ret (v := .tuple #[.int .u8 4, .int .u64 0, .bool true]) (by simp [results, Try.results12, go_sem] <;> rfl) rfl ⟨rfl, bself w⟩
  · by_cases hB : s.data.toList = sTmp
    · have e : s = ⟨#[99, 117, 114, 114, 101, 110, 116, 46, 116, 109, 112]⟩ := by rw [← Lib.mk_data s, hB]; rfl
      have HP := Lib.hid parseV_tmp
      rw [hB, HP.out]
      subst e
      clear hB hA
      go_enter Try.func12, Try.ntmps12
      go_wp2
      exact bodyPost_ret (v := .tuple #[.int .u8 5, .int .u64 0, .bool true]) (by simp [results, Try.results12, go_sem] <;> rfl) rfl ⟨rfl, bself w⟩
    · have ga : (s.toList == [99, 117, 114, 114, 101, 110, 116]) = false := neq_str hA
      have gb : (s.toList == [99, 117, 114, 114, 101, 110, 116, 46, 116, 109, 112]) = false := neq_str hB
      have hlen : s.data.toList.length = s.size := by rw [Array.length_toList]; rfl
      have c1 : ∀ W, Calls Try.prog 23 #[.string s, .string ⟨#[109, 97, 110, 105, 102, 101, 115, 116, 45]⟩] W fun e w' => e = .returned (.tuple #[.string ⟨(Lib.trimPrefix s.data.toList sMan).toArray⟩, .bool (Lib.hasPrefix s.data.toList sMan)]) ∧ w' = W := fun W => sCutPrefix s _ W
      obtain ⟨T, H, hT, hH⟩ : ∃ (T : ByteArray → ByteArray) (H : ByteArray → Bool), (∀ p, T p = ⟨(Lib.trimSuffix s.data.toList p.data.toList).toArray⟩) ∧ (∀ p, H p = Lib.hasSuffix s.data.toList p.data.toList) := ⟨_, _, fun _ => rfl, fun _ => rfl⟩
      have CC : Hid (∀ p W, Calls Try.prog 24 #[.string s, .string p] W fun e w' => e = .returned (.tuple #[.string (T p), .bool (H p)]) ∧ w' = W) := by
        intro p W
        rw [hT, hH]
        exact sCutSuffix s p W (by omega)
      have h2 : H ⟨#[46, 108, 111, 103]⟩ = Lib.hasSuffix s.data.toList sLog := hH _
      have h3 : H ⟨#[46, 116, 97, 98]⟩ = Lib.hasSuffix s.data.toList sTab := hH _
      have t2 : T ⟨#[46, 108, 111, 103]⟩ = ⟨(Lib.trimSuffix s.data.toList sLog).toArray⟩ := hT _
      have t3 : T ⟨#[46, 116, 97, 98]⟩ = ⟨(Lib.trimSuffix s.data.toList sTab).toArray⟩ := hT _
      clear hT hH
      cases p1 : Lib.hasPrefix s.data.toList sMan with
      | true =>
        rw [p1] at c1
        obtain ⟨r, hr⟩ : ∃ r : ByteArray, r = ⟨(Lib.trimPrefix s.data.toList sMan).toArray⟩ := ⟨_, rfl⟩
        have hrl : r.data.toList = Lib.trimPrefix s.data.toList sMan := by rw [hr]
        have hrs : r.size ≤ 140737488355328 := by have := Lib.trimPrefix_le s.data.toList sMan; rw [← hrl] at this; have : r.data.toList.length = r.size := (by rw [Array.length_toList]; rfl); omega
        rw [← hr] at c1
        have C1 := Lib.hid c1
        have hE : Hid (endsR s.data.toList = (r.data.toList, 3)) := by unfold endsR; rw [if_pos p1, hrl]; rfl
        clear c1 hr hrl p1 h2 h3 t2 t3
        obtain ⟨m, b, hm⟩ : ∃ m b, numR r.data.toList = (m, b) := ⟨_, _, rfl⟩
        have HN : Hid (∀ W, Calls Try.prog 25 #[.string r] W fun e w' => e = .returned (.tuple #[.int .u64 (m : Int), .bool b]) ∧ Below W.heap.size W w') := by
          intro W
          have := kNumber_any r W hrs
          unfold numV at this
          rw [hm] at this
          exact this
        cases b with
        | false =>
          have HP := Lib.hid (parseV_no hA hB (.inr (by rw [hE.out, hm])))
          clear hm hA hB hE
          go_enter Try.func12, Try.ntmps12
          go_wp2_with (first | (go_at_call 23; refine (C1.out _).mono ?_; rintro e w1 ⟨rfl, rfl⟩) | (go_at_call 24; refine (CC.out _ _).mono ?_; rintro e w1 ⟨rfl, rfl⟩; skip) | (go_at_call 25; refine (HN.out _).mono ?_; rintro e w2 ⟨rfl, hb2⟩))
          exact bodyPost_ret (v := .tuple #[.int .u8 0, .int .u64 0, .bool false]) (by simp [results, Try.results12, go_sem] <;> rfl) rfl ⟨by rw [HP.out], hb2⟩
        | true =>
          have HP := Lib.hid (parseV_yes hA hB (by rw [hE.out]; simp) (by rw [hE.out, hm]))
          rw [hE.out, hm] at HP
          clear hm hA hB hE
          go_enter Try.func12, Try.ntmps12
          go_wp2_with (first | (go_at_call 23; refine (C1.out _).mono ?_; rintro e w1 ⟨rfl, rfl⟩) | (go_at_call 24; refine (CC.out _ _).mono ?_; rintro e w1 ⟨rfl, rfl⟩; skip) | (go_at_call 25; refine (HN.out _).mono ?_; rintro e w2 ⟨rfl, hb2⟩))
          exact bodyPost_ret (v := .tuple #[.int .u8 3, .int .u64 (m : Int), .bool true]) (by simp [results, Try.results12, go_sem] <;> rfl) rfl ⟨by rw [HP.out]; rfl, hb2⟩
      | false =>
        rw [p1] at c1
        obtain ⟨r1, hr1⟩ : ∃ r : ByteArray, r = ⟨(Lib.trimPrefix s.data.toList sMan).toArray⟩ := ⟨_, rfl⟩
        rw [← hr1] at c1
        have C1 := Lib.hid c1
        clear c1 hr1
        cases p2 : Lib.hasSuffix s.data.toList sLog with
        | true =>
          rw [p2] at h2
          obtain ⟨r, hr⟩ : ∃ r : ByteArray, r = ⟨(Lib.trimSuffix s.data.toList sLog).toArray⟩ := ⟨_, rfl⟩
          have hrl : r.data.toList = Lib.trimSuffix s.data.toList sLog := by rw [hr]
          have hrs : r.size ≤ 140737488355328 := by have := Lib.trimSuffix_le s.data.toList sLog; rw [← hrl] at this; have : r.data.toList.length = r.size := (by rw [Array.length_toList]; rfl); omega
          rw [← hr] at t2
          have hE : Hid (endsR s.data.toList = (r.data.toList, 1)) := by unfold endsR; rw [if_neg (by rw [p1]; simp), if_pos p2, hrl]; rfl
          clear hr hrl p1 p2 h3 t3
          obtain ⟨m, b, hm⟩ : ∃ m b, numR r.data.toList = (m, b) := ⟨_, _, rfl⟩
          have HN : Hid (∀ W, Calls Try.prog 25 #[.string r] W fun e w' => e = .returned (.tuple #[.int .u64 (m : Int), .bool b]) ∧ Below W.heap.size W w') := by
            intro W
            have := kNumber_any r W hrs
            unfold numV at this
            rw [hm] at this
            exact this
          cases b with
          | false =>
            have HP := Lib.hid (parseV_no hA hB (.inr (by rw [hE.out, hm])))
            clear hm hA hB hE
            go_enter Try.func12, Try.ntmps12
            go_wp2_with (first | (go_at_call 23; refine (C1.out _).mono ?_; rintro e w1 ⟨rfl, rfl⟩) | (go_at_call 24; refine (CC.out _ _).mono ?_; rintro e w1 ⟨rfl, rfl⟩; rw [h2, t2]) | (go_at_call 25; refine (HN.out _).mono ?_; rintro e w2 ⟨rfl, hb2⟩))
            exact bodyPost_ret (v := .tuple #[.int .u8 0, .int .u64 0, .bool false]) (by simp [results, Try.results12, go_sem] <;> rfl) rfl ⟨by rw [HP.out], hb2⟩
          | true =>
            have HP := Lib.hid (parseV_yes hA hB (by rw [hE.out]; simp) (by rw [hE.out, hm]))
            rw [hE.out, hm] at HP
            clear hm hA hB hE
            go_enter Try.func12, Try.ntmps12
            go_wp2_with (first | (go_at_call 23; refine (C1.out _).mono ?_; rintro e w1 ⟨rfl, rfl⟩) | (go_at_call 24; refine (CC.out _ _).mono ?_; rintro e w1 ⟨rfl, rfl⟩; rw [h2, t2]) | (go_at_call 25; refine (HN.out _).mono ?_; rintro e w2 ⟨rfl, hb2⟩))
            exact bodyPost_ret (v := .tuple #[.int .u8 1, .int .u64 (m : Int), .bool true]) (by simp [results, Try.results12, go_sem] <;> rfl) rfl ⟨by rw [HP.out]; rfl, hb2⟩
        | false =>
          rw [p2] at h2
          obtain ⟨r2, hr2⟩ : ∃ r : ByteArray, r = ⟨(Lib.trimSuffix s.data.toList sLog).toArray⟩ := ⟨_, rfl⟩
          rw [← hr2] at t2
          clear hr2
          obtain ⟨r, hr⟩ : ∃ r : ByteArray, r = ⟨(Lib.trimSuffix s.data.toList sTab).toArray⟩ := ⟨_, rfl⟩
          have hrl : r.data.toList = Lib.trimSuffix s.data.toList sTab := by rw [hr]
          have hrs : r.size ≤ 140737488355328 := by have := Lib.trimSuffix_le s.data.toList sTab; rw [← hrl] at this; have : r.data.toList.length = r.size := (by rw [Array.length_toList]; rfl); omega
          cases p3 : Lib.hasSuffix s.data.toList sTab with
          | true =>
            rw [p3] at h3
            rw [← hr] at t3
            have hE : Hid (endsR s.data.toList = (r.data.toList, 2)) := by unfold endsR; rw [if_neg (by rw [p1]; simp), if_neg (by rw [p2]; simp), if_pos p3, hrl]; rfl
            clear hr hrl p1 p2 p3
            obtain ⟨m, b, hm⟩ : ∃ m b, numR r.data.toList = (m, b) := ⟨_, _, rfl⟩
            have HN : Hid (∀ W, Calls Try.prog 25 #[.string r] W fun e w' => e = .returned (.tuple #[.int .u64 (m : Int), .bool b]) ∧ Below W.heap.size W w') := by
              intro W
              have := kNumber_any r W hrs
              unfold numV at this
              rw [hm] at this
              exact this
            cases b with
            | false =>
              have HP := Lib.hid (parseV_no hA hB (.inr (by rw [hE.out, hm])))
              clear hm hA hB hE
              go_enter Try.func12, Try.ntmps12
              go_wp2_with (first | (go_at_call 23; refine (C1.out _).mono ?_; rintro e w1 ⟨rfl, rfl⟩) | (go_at_call 24; refine (CC.out _ _).mono ?_; rintro e w1 ⟨rfl, rfl⟩; first | rw [h2, t2] | rw [h3, t3]) | (go_at_call 25; refine (HN.out _).mono ?_; rintro e w2 ⟨rfl, hb2⟩))
              exact bodyPost_ret (v := .tuple #[.int .u8 0, .int .u64 0, .bool false]) (by simp [results, Try.results12, go_sem] <;> rfl) rfl ⟨by rw [HP.out], hb2⟩
            | true =>
              have HP := Lib.hid (parseV_yes hA hB (by rw [hE.out]; simp) (by rw [hE.out, hm]))
              rw [hE.out, hm] at HP
              clear hm hA hB hE
              go_enter Try.func12, Try.ntmps12
              go_wp2_with (first | (go_at_call 23; refine (C1.out _).mono ?_; rintro e w1 ⟨rfl, rfl⟩) | (go_at_call 24; refine (CC.out _ _).mono ?_; rintro e w1 ⟨rfl, rfl⟩; first | rw [h2, t2] | rw [h3, t3]) | (go_at_call 25; refine (HN.out _).mono ?_; rintro e w2 ⟨rfl, hb2⟩))
              exact bodyPost_ret (v := .tuple #[.int .u8 2, .int .u64 (m : Int), .bool true]) (by simp [results, Try.results12, go_sem] <;> rfl) rfl ⟨by rw [HP.out]; rfl, hb2⟩
          | false =>
            rw [p3] at h3
            rw [← hr] at t3
            have hE : endsR s.data.toList = (s.data.toList, 0) := by unfold endsR; rw [if_neg (by rw [p1]; simp), if_neg (by rw [p2]; simp), if_neg (by rw [p3]; simp)]
            have HP := Lib.hid (parseV_no hA hB (.inl (by rw [hE])))
            obtain ⟨m, b, hm⟩ : ∃ m b, numR r.data.toList = (m, b) := ⟨_, _, rfl⟩
            have HN : Hid (∀ W, Calls Try.prog 25 #[.string r] W fun e w' => e = .returned (.tuple #[.int .u64 (m : Int), .bool b]) ∧ Below W.heap.size W w') := by
              intro W
              have := kNumber_any r W hrs
              unfold numV at this
              rw [hm] at this
              exact this
            clear hr hrl p1 p2 p3 hE hA hB hm
            go_enter Try.func12, Try.ntmps12
            go_wp2_with (first | (go_at_call 23; refine (C1.out _).mono ?_; rintro e w1 ⟨rfl, rfl⟩) | (go_at_call 24; refine (CC.out _ _).mono ?_; rintro e w1 ⟨rfl, rfl⟩; first | rw [h2, t2] | rw [h3, t3]) | (go_at_call 25; refine (HN.out _).mono ?_; rintro e w2 ⟨rfl, hb2⟩))
            exact bodyPost_ret (v := .tuple #[.int .u8 0, .int .u64 0, .bool false]) (by simp [results, Try.results12, go_sem] <;> rfl) rfl ⟨by rw [HP.out], hb2⟩
end Go.Proofs.Ytjkcdnangmjoeaa
