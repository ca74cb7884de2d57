/-
  What is proved here: what the program's and the reference's digits come to, at this seat's numbers. No condition.
  what the program's and the reference's names come to, at this seat's numbers. No condition.
  what the program's number (of digits) comes to, at this seat's numbers. Condition: a text of at most 2^47 bytes.
  strings.CutPrefix and strings.CutSuffix at this seat's numbers (the shelf's lines, turned). Condition: a text of at most 2^63 bytes.
  what the program's Parse comes to, at this seat's numbers. Condition: a text of at most 2^47 bytes.
  what the program's and the reference's Right (of a head) come to, at this seat's numbers. No condition.
-/
import Derived.Test.YtjkcdnangmjoeaaDoorByte
import Derived.Test.YtjkcdnangmjoeaaDoorNumLaw
import Derived.Test.YtjkcdnangmjoeaaDoorM1
import Derived.Laws.RangeString
import Derived.Laws.RangeAny
import Derived.Lib.Strings
import Derived.Lib.Slices
import Derived.Lib.Walk
namespace Go.Proofs.YtjkcdnangmjoeaaDoor
open Go.RowKit

def slLen : Value → Nat
  | .slice _ n _ => n
  | _ => 0
def strLen : Value → Nat
  | .string s => s.size
  | _ => 0
theorem dgt_byte (k : Nat) : (48 + (k : Int) % 10) = ((UInt8.ofNat (48 + k % 10)).toNat : Int) := by
  rw [← byte_of]; omega
/-- append([]byte{c}, l...) -/
theorem OB.lit1 {base : Nat} (w : World) (b : UInt8) (u : Value) (hu : u = u8v b) (hb : base ≤ w.heap.size) : OB (w.alloc (.cells #[u] 5)) base (.slice (some ⟨w.heap.size, 0, none⟩) 1 1) [b] := by
  subst hu
  exact OB.lit w [b] hb (by simp [maxLen])

set_option maxHeartbeats 1000000 in
theorem kDigits_any (n : Nat) (w : World) (hn : n < 18446744073709551616) :
    Calls Tryd.prog 23 #[.int .u64 n] w fun e w' => e = .returned (.string ⟨(dgt n 6).toArray⟩) ∧ Below w.heap.size w w' := by
  have h20 := dgt_20 n hn
  go_enter Tryd.func23, Tryd.ntmps23
  go_wp2
  go_loopw [0, 3] (fun x v wr => ∃ k : Nat, x = .int .u64 k ∧ k < 18446744073709551616 ∧ ∃ l A c, v = .slice A l.length c ∧ OB wr w.heap.size v l ∧ Hid (dgt k (6 - l.length) ++ l = dgt n 6) ∧ Below w.heap.size w wr) (fun x v _ => (intOf x).toNat + (6 - slLen v))
  case atStart => exact ⟨n, rfl, hn, [], none, 0, rfl, OB.nil_ _ _, by simp [Lib.hid], Below.refl _ _⟩
  case round =>
    obtain ⟨k, rfl, hk, l, A, c, rfl, hown, hl, hbr⟩ := hrel
    have hsz := hbr.size
    have hl20 : l.length ≤ 20 := by
      have := congrArg List.length hl.out
      rw [List.length_append] at this
      omega
    by_cases hgo : k = 0 ∧ 6 ≤ l.length
    · obtain ⟨rfl, h6⟩ := hgo
      have HF := Lib.hid (dgt_end h6 hl.out)
      have g6 : ¬ ((l.length : Int) < 6) := by omega
      go_wp2_with (refine wl_b2s (o := ⟨some 21, _, _, _, _, _⟩) rfl (.tmp 20) rfl _ rfl _ _ hown.sb ?_)
      go_ret
      exact ⟨by rw [HF.out]; rfl, hbr⟩
    · by_cases h0 : 0 < k
      · go_wp2_with (at_builtin; refine wl_appB rfl (.tmp 17) (.tmp 18) rfl w.heap.size _ [UInt8.ofNat (48 + k % 10)] rfl (OB.lit1 wr _ _ (congrArg _ (dgt_byte k)) hsz) wr.heap.size _ l rfl (hown.sb.alloc (Nat.le_refl _) _) (by simp; omega) (by simp; omega) ?_; intro v2 w2 hown2 _ _ hb2)
        go_roundw
        case rel =>
          obtain ⟨A2, c2, e2, _, _, _⟩ := hown2.sb
          exact ⟨k / 10, by go_num, by omega, UInt8.ofNat (48 + k % 10) :: l, A2, c2, e2, hown2, dgt_rel l _ hgo hl.out, (hbr.alloc hsz _).trans hb2⟩
        case measure =>
          obtain ⟨A2, c2, e2, _, _, _⟩ := hown2.sb
          rw [e2]
          simp [intOf, slLen]; omega
      · have h00 : k = 0 := by omega
        subst h00
        have h6 : l.length < 6 := by omega
        go_wp2_with (at_builtin; refine wl_appB rfl (.tmp 17) (.tmp 18) rfl w.heap.size _ [UInt8.ofNat (48 + 0 % 10)] rfl (OB.lit1 wr _ _ rfl hsz) wr.heap.size _ l rfl (hown.sb.alloc (Nat.le_refl _) _) (by simp; omega) (by simp; omega) ?_; intro v2 w2 hown2 _ _ hb2)
        go_roundw
        case rel =>
          obtain ⟨A2, c2, e2, _, _, _⟩ := hown2.sb
          exact ⟨0, by go_num, by omega, UInt8.ofNat (48 + 0 % 10) :: l, A2, c2, e2, hown2, dgt_rel l _ hgo hl.out, (hbr.alloc hsz _).trans hb2⟩
        case measure =>
          obtain ⟨A2, c2, e2, _, _, _⟩ := hown2.sb
          rw [e2]
          simp [intOf, slLen]; omega
theorem SB.newV (w : World) (b : UInt8) (u : Value) (hu : u = u8v b) : SB (w.alloc (.cells #[u] 5)) (w.heap.size + 1) (.slice (some ⟨w.heap.size, 0, none⟩) 1 1) [b] := by
  subst hu
  exact SB.new1 w b
theorem str_add (l m : List UInt8) : Value.string (⟨l.toArray⟩ ++ ⟨m.toArray⟩) = .string ⟨(l ++ m).toArray⟩ := by rw [bytes_add]
end Go.Proofs.YtjkcdnangmjoeaaDoor

namespace Go.Proofs.YtjkcdnangmjoeaaDoor
open Go.RowKit

theorem nm_1 {k : Nat} (n : Nat) (h : k = 1) : nmOf k n = dgt n 6 ++ sLog := by subst h; rfl
theorem nm_2 {k : Nat} (n : Nat) (h : k = 2) : nmOf k n = dgt n 6 ++ sTab := by subst h; rfl
theorem nm_3 {k : Nat} (n : Nat) (h : k = 3) : nmOf k n = sMan ++ dgt n 6 := by subst h; rfl
theorem nm_4 {k : Nat} (n : Nat) (h : k = 4) : nmOf k n = sCur := by subst h; rfl
theorem nm_5 {k : Nat} (n : Nat) (h : k = 5) : nmOf k n = sTmp := by subst h; rfl
theorem nm_0 {k : Nat} (n : Nat) (h : ¬ k = 1 ∧ ¬ k = 2 ∧ ¬ k = 3 ∧ ¬ k = 4 ∧ ¬ k = 5) : nmOf k n = [] := by
  unfold nmOf
  rw [if_neg h.1, if_neg h.2.1, if_neg h.2.2.1, if_neg h.2.2.2.1, if_neg h.2.2.2.2]
set_option maxHeartbeats 1000000 in
theorem kName_any (k n : Nat) (w : World) (hk : k < 256) (hn : n < 18446744073709551616) :
    Calls Tryd.prog 11 #[.int .u8 k, .int .u64 n] w fun e w' => e = .returned (.string ⟨(nmOf k n).toArray⟩) ∧ Below w.heap.size w w' := by
  have h20 := dgt_20 n hn
  obtain ⟨s, hs⟩ : ∃ s : ByteArray, Hid (s = ⟨(dgt n 6).toArray⟩) := ⟨_, rfl⟩
  have hz : s.size ≤ 20 := by rw [hs.out]; exact h20
  have hcall : ∀ W, Calls Tryd.prog 23 #[.int .u64 n] W fun e w' => e = .returned (.string s) ∧ Below W.heap.size W w' := fun W => by rw [hs.out]; exact kDigits_any n W hn
  have HC := Lib.hid hcall
  clear hcall
  have key : k = 1 ∨ k = 2 ∨ k = 3 ∨ k = 4 ∨ k = 5 ∨ (¬ k = 1 ∧ ¬ k = 2 ∧ ¬ k = 3 ∧ ¬ k = 4 ∧ ¬ k = 5) := by omega
  rcases key with h | h | h | h | h | h
  · have HN := Lib.hid (nm_1 n h)
    subst h
    go_enter Tryd.func11, Tryd.ntmps11
    go_wp2_with (go_at_call 23; refine (HC.out _).mono ?_; rintro e w1 ⟨rfl, hb1⟩)
    go_ret
    refine ⟨?_, hb1⟩
    rw [HN.out, hs.out]
    show Ending.returned (.string (⟨(dgt n 6).toArray⟩ ++ ⟨sLog.toArray⟩)) = _
    rw [bytes_add]
  · have HN := Lib.hid (nm_2 n h)
    subst h
    go_enter Tryd.func11, Tryd.ntmps11
    go_wp2_with (go_at_call 23; refine (HC.out _).mono ?_; rintro e w1 ⟨rfl, hb1⟩)
    go_ret
    refine ⟨?_, hb1⟩
    rw [HN.out, hs.out]
    show Ending.returned (.string (⟨(dgt n 6).toArray⟩ ++ ⟨sTab.toArray⟩)) = _
    rw [bytes_add]
  · have HN := Lib.hid (nm_3 n h)
    subst h
    go_enter Tryd.func11, Tryd.ntmps11
    go_wp2_with (go_at_call 23; refine (HC.out _).mono ?_; rintro e w1 ⟨rfl, hb1⟩)
    go_ret
    refine ⟨?_, hb1⟩
    rw [HN.out, hs.out]
    show Ending.returned (.string (⟨sMan.toArray⟩ ++ ⟨(dgt n 6).toArray⟩)) = _
    rw [bytes_add]
  · have HN := Lib.hid (nm_4 n h)
    subst h
    go_enter Tryd.func11, Tryd.ntmps11
    go_wp2
    go_ret
    exact ⟨by rw [HN.out]; rfl, bself w⟩
  · have HN := Lib.hid (nm_5 n h)
    subst h
    go_enter Tryd.func11, Tryd.ntmps11
    go_wp2
    go_ret
    exact ⟨by rw [HN.out]; rfl, bself w⟩
  · have HN := Lib.hid (nm_0 n h)
    obtain ⟨a1, a2, a3, a4, a5⟩ := h
    go_enter Tryd.func11, Tryd.ntmps11
    go_wp2
    go_ret
    exact ⟨by rw [HN.out]; rfl, bself w⟩
end Go.Proofs.YtjkcdnangmjoeaaDoor

namespace Go.Proofs.YtjkcdnangmjoeaaDoor
open Go.RowKit

theorem get_list (s : ByteArray) (k : Nat) (h : k < s.size) (h' : k < s.data.toList.length) : s.data.toList[k] = s[k] := by
  rw [Array.getElem_toList]; rfl
theorem iter_below (w : World) (s : ByteArray) (pos : Nat) : Below w.heap.size w (w.iter s pos) := (Below.refl _ _).alloc (Nat.le_refl _) _
def numV (l : List UInt8) : Value := .tuple #[.int .u64 ((numR l).1 : Int), .bool (numR l).2]
theorem numV_no {l : List UInt8} (h : numR l = (0, false)) : numV l = .tuple #[.int .u64 0, .bool false] := by unfold numV; rw [h]; rfl
theorem isD_false {c : UInt8} {d : Nat} (h : c.toNat = d) (h2 : d < 48 ∨ 57 < d) : isD c = false := by
  unfold isD; rw [h]
  rcases h2 with h2 | h2
  · rw [decide_eq_false (by omega)]; rfl
  · rw [decide_eq_false (p := d ≤ 57) (by omega), Bool.and_false]
theorem isD_true {c : UInt8} {d : Nat} (h : c.toNat = d) (h2 : 48 ≤ d) (h3 : d ≤ 57) : isD c = true := by
  unfold isD; rw [h, decide_eq_true h2, decide_eq_true h3]; rfl

set_option maxHeartbeats 2000000 in
theorem kNumber_any (s : ByteArray) (w : World) (hs : s.size ≤ 140737488355328) :
    Calls Tryd.prog 19 #[.string s] w fun e w' => e = .returned (numV s.data.toList) ∧ Below w.heap.size w w' := by
  have hlen := (show s.data.toList.length = s.size by rw [Array.length_toList]; rfl)
  go_enter Tryd.func19, Tryd.ntmps19
  go_wp2
  go_loopw [4, 5] (fun x y wr => ∃ pos V : Nat, wr = w.iter s pos ∧ x = .int .u64 V ∧ y = .int .i64 pos ∧ pos ≤ s.size ∧ Hid (V = val (s.data.toList.take pos)) ∧ Hid (numOK (s.data.toList.take pos)) ∧ V < 18446744073709551616) (fun _ _ wr => s.size - wr.iterPos w.heap.size)
  case atStart => exact ⟨0, 0, rfl, rfl, rfl, Nat.zero_le _, rfl, numOK_nil, by omega⟩
  case round =>
    obtain ⟨pos, V, rfl, rfl, rfl, hpl, hV, hOK, hVb⟩ := hrel
    by_cases hp : pos < s.size
    · have hp' : pos < s.data.toList.length := by omega
      have hg := get_list s pos hp hp'
      obtain ⟨d, hd⟩ : ∃ d : Nat, (s[pos]'hp).toNat = d := ⟨_, rfl⟩
      have hd2 : (s.data.toList[pos]).toNat = d := by rw [hg]; exact hd
      have hdb : d < 256 := by rw [← hd]; exact UInt8.toNat_lt _
      by_cases ha : d < 128
      · have hnx : ∀ ty, (Instr.next (.pointer (some ⟨w.heap.size, 0, none⟩)) true ty).run Tryd.prog (w.iter s pos) = .ok (.tuple #[.bool true, .int .i64 pos, .int .i32 (d : Int)]) (w.iter s (pos + 1)) := fun ty => by rw [run_next_ascii w s pos ty hp (by omega), hd]
        by_cases hdig : d < 48 ∨ 57 < d
        · have HN := Lib.hid (numV_no (numR_char hp' (isD_false hd2 hdig)))
          clear hd hd2 hg
          by_cases h48 : d < 48
          · have g1 : (d : Int) < 48 := by omega
            go_wp2
            exact bodyPost_ret (v := .tuple #[.int .u64 0, .bool false]) (by simp [results, Tryd.results19, go_sem] <;> rfl) rfl ⟨by rw [HN.out], iter_below _ _ _⟩
          · have g1 : ¬ (d : Int) < 48 := by omega
            have g2 : (57 : Int) < d := by omega
            go_wp2
            exact bodyPost_ret (v := .tuple #[.int .u64 0, .bool false]) (by simp [results, Tryd.results19, go_sem] <;> rfl) rfl ⟨by rw [HN.out], iter_below _ _ _⟩
        · have g1 : ¬ (d : Int) < 48 := by omega
          have g2 : ¬ (57 : Int) < d := by omega
          have hD : isD s.data.toList[pos] = true := isD_true hd2 (by omega) (by omega)
          have hdv : digV1 s.data.toList[pos] = d - 48 := by unfold digV1; rw [hd2]
          by_cases t1 : (18446744073709551615 - ((d : Int) - 48)) / 10 < (V : Int)
          · have HN := Lib.hid (numV_no (numR_big hp' hOK.out hD (by rw [← hV.out, hdv]; left; omega)))
            clear hd hd2 hg hD hdv
            go_wp2
            all_goals exact bodyPost_ret (v := .tuple #[.int .u64 0, .bool false]) (by simp [results, Tryd.results19, go_sem] <;> rfl) rfl ⟨by rw [HN.out], iter_below _ _ _⟩
          · by_cases t2 : 6 ≤ (pos : Int) ∧ (V : Int) < 100000
            · have HN := Lib.hid (numV_no (numR_big hp' hOK.out hD (by rw [← hV.out, hdv]; right; omega)))
              clear hd hd2 hg hD hdv
              obtain ⟨t3, t4⟩ := t2
              go_wp2
              all_goals exact bodyPost_ret (v := .tuple #[.int .u64 0, .bool false]) (by simp [results, Tryd.results19, go_sem] <;> rfl) rfl ⟨by rw [HN.out], iter_below _ _ _⟩
            · have HX := numOK_next hp' hOK.out hD (by rw [← hV.out, hdv]; omega) (by rw [← hV.out]; omega)
              rw [hdv, ← hV.out] at HX
              have HY := Lib.hid HX
              have hlt := HX.1.2.1
              rw [HX.2] at hlt
              clear HX hd hd2 hg hD hdv
              by_cases t3 : 6 ≤ (pos : Int)
              · have t4 : ¬ (V : Int) < 100000 := by omega
                go_wp2
                go_roundw
                case rel => exact ⟨pos + 1, V * 10 + (d - 48), rfl, by go_num, by go_num, by omega, HY.out.2.symm, HY.out.1, hlt⟩
                case measure => simp; omega
              · go_wp2
                go_roundw
                case rel => exact ⟨pos + 1, V * 10 + (d - 48), rfl, by go_num, by go_num, by omega, HY.out.2.symm, HY.out.1, hlt⟩
                case measure => simp; omega
      · obtain ⟨hd1, hd3⟩ := decode_high s pos hp (by omega)
        obtain ⟨D, hDD⟩ : ∃ D : Nat, (Utf8.decode s pos).1 = D := ⟨_, rfl⟩
        have hnx : ∀ ty, (Instr.next (.pointer (some ⟨w.heap.size, 0, none⟩)) true ty).run Tryd.prog (w.iter s pos) = .ok (.tuple #[.bool true, .int .i64 pos, .int .i32 (D : Int)]) (w.iter s (pos + (Utf8.decode s pos).2)) := fun ty => by rw [run_next_any w s pos ty hp, hDD]
        have hDb : 128 ≤ D := by omega
        have HN := Lib.hid (numV_no (numR_char hp' (isD_false hd2 (.inr (by omega)))))
        clear hd hd2 hg hd1 hDD
        have g1 : ¬ (D : Int) < 48 := by omega
        have g2 : (57 : Int) < D := by omega
        go_wp2
        exact bodyPost_ret (v := .tuple #[.int .u64 0, .bool false]) (by simp [results, Tryd.results19, go_sem] <;> rfl) rfl ⟨by rw [HN.out], iter_below _ _ _⟩
    · have hnx : ∀ ty, (Instr.next (.pointer (some ⟨w.heap.size, 0, none⟩)) true ty).run Tryd.prog (w.iter s pos) = _ := fun ty => run_next_end w s pos ty hp
      have hpe : pos = s.size := by omega
      have hall : s.data.toList.take pos = s.data.toList := List.take_of_length_le (by omega)
      rw [hall] at hV hOK
      have HN : Hid (numV s.data.toList = .tuple #[.int .u64 V, .bool (decide (6 ≤ (pos : Int)))]) := by
        unfold numV
        rw [numR_yes hOK.out, ← hV.out, hlen, ← hpe]
        have e : decide (6 ≤ pos) = decide (6 ≤ (pos : Int)) := by rw [decide_eq_decide]; omega
        rw [e]
        rfl
      clear hall hpe
      go_wp2
      exact bodyPost_ret (v := .tuple #[.int .u64 V, .bool (decide (6 ≤ (pos : Int)))]) (by simp [results, Tryd.results19, go_sem] <;> rfl) rfl ⟨by rw [HN.out], iter_below _ _ _⟩
end Go.Proofs.YtjkcdnangmjoeaaDoor

namespace Go.Proofs.YtjkcdnangmjoeaaDoor

set_option maxHeartbeats 1000000 in
theorem sCutPrefix (s p : ByteArray) (w : World) :
    Calls Tryd.prog 17 #[.string s, .string p] w fun e w' => e = .returned (.tuple #[.string ⟨(Lib.trimPrefix s.data.toList p.data.toList).toArray⟩, .bool (Lib.hasPrefix s.data.toList p.data.toList)]) ∧ w' = w := by
  go_enter Tryd.func17, Tryd.ntmps17
  go_wp2
  · have h2 : (!((s.extract 0 p.size).toList == p.toList)) = true := by assumption
    have h3 : (decide (p.size ≤ s.size) && ((s.extract 0 p.size).toList == p.toList)) = false := by
      have : ((s.extract 0 p.size).toList == p.toList) = false := by simpa using h2
      rw [this]
      simp
    go_ret2
    refine ⟨?_, rfl⟩
    rw [Lib.trimPrefix_miss s p h3, ← Lib.hasPrefix_raw, h3]
    rfl
  · have h1 : p.size ≤ s.size := by assumption
    have h2 : (!((s.extract 0 p.size).toList == p.toList)) = false := by assumption
    have h2' : ((s.extract 0 p.size).toList == p.toList) = true := by simpa using h2
    go_ret2
    refine ⟨?_, rfl⟩
    rw [Lib.trimPrefix_hit s p h1 h2', ← Lib.hasPrefix_raw, h2', decide_eq_true h1]
    rfl
  · have h1 : ¬ p.size ≤ s.size := by assumption
    have h3 : (decide (p.size ≤ s.size) && ((s.extract 0 p.size).toList == p.toList)) = false := by simp [h1]
    go_ret2
    refine ⟨?_, rfl⟩
    rw [Lib.trimPrefix_miss s p h3, ← Lib.hasPrefix_raw, h3]
    rfl

set_option maxHeartbeats 1000000 in
theorem sCutSuffix (s p : ByteArray) (w : World) (hs : s.size ≤ 9223372036854775807) :
    Calls Tryd.prog 18 #[.string s, .string p] w fun e w' => e = .returned (.tuple #[.string ⟨(Lib.trimSuffix s.data.toList p.data.toList).toArray⟩, .bool (Lib.hasSuffix s.data.toList p.data.toList)]) ∧ w' = w := by
  have hlo : p.size ≤ s.size → ((s.size : Int) - (p.size : Int) + 9223372036854775808) % 18446744073709551616 - 9223372036854775808 = ((s.size - p.size : Nat) : Int) := fun _ => by omega
  go_enter Tryd.func18, Tryd.ntmps18
  go_wp2
  · have h2 : (!((s.extract (s.size - p.size) s.size).toList == p.toList)) = true := by assumption
    have h3 : (decide (p.size ≤ s.size) && ((s.extract (s.size - p.size) s.size).toList == p.toList)) = false := by
      have : ((s.extract (s.size - p.size) s.size).toList == p.toList) = false := by simpa using h2
      rw [this]
      simp
    go_ret2
    refine ⟨?_, rfl⟩
    rw [Lib.trimSuffix_miss s p h3, ← Lib.hasSuffix_raw, h3]
    rfl
  · have h1 : p.size ≤ s.size := by assumption
    have h2 : (!((s.extract (s.size - p.size) s.size).toList == p.toList)) = false := by assumption
    have h2' : ((s.extract (s.size - p.size) s.size).toList == p.toList) = true := by simpa using h2
    go_ret2
    refine ⟨?_, rfl⟩
    rw [Lib.trimSuffix_hit s p h1 h2', ← Lib.hasSuffix_raw, h2', decide_eq_true h1]
    rfl
  · have h1 : ¬ p.size ≤ s.size := by assumption
    have h3 : (decide (p.size ≤ s.size) && ((s.extract (s.size - p.size) s.size).toList == p.toList)) = false := by simp [h1]
    go_ret2
    refine ⟨?_, rfl⟩
    rw [Lib.trimSuffix_miss s p h3, ← Lib.hasSuffix_raw, h3]
    rfl

end Go.Proofs.YtjkcdnangmjoeaaDoor

namespace Go.Proofs.YtjkcdnangmjoeaaDoor
open Go.RowKit

def parseV (l : List UInt8) : Value := match parseR l with
  | none => .tuple #[.int .u8 0, .int .u64 0, .bool false]
  | some (k, n) => .tuple #[.int .u8 (k : Int), .int .u64 (n : Int), .bool true]
theorem parseV_cur : parseV sCur = .tuple #[.int .u8 4, .int .u64 0, .bool true] := by
  unfold parseV parseR; rw [if_pos rfl]; rfl
theorem parseV_tmp : parseV sTmp = .tuple #[.int .u8 5, .int .u64 0, .bool true] := by
  unfold parseV parseR; rw [if_neg (by decide), if_pos rfl]; rfl
theorem parseV_no {l : List UInt8} (h1 : l ≠ sCur) (h2 : l ≠ sTmp) (h : (endsR l).2 = 0 ∨ (numR (endsR l).1).2 = false) : parseV l = .tuple #[.int .u8 0, .int .u64 0, .bool false] := by
  unfold parseV parseR
  rw [if_neg h1, if_neg h2, if_neg]
  intro x
  rcases h with h | h
  · exact x.1 h
  · rw [x.2] at h; cases h
theorem parseV_yes {l : List UInt8} (h1 : l ≠ sCur) (h2 : l ≠ sTmp) (h3 : (endsR l).2 ≠ 0) (h4 : (numR (endsR l).1).2 = true) : parseV l = .tuple #[.int .u8 ((endsR l).2 : Int), .int .u64 ((numR (endsR l).1).1 : Int), .bool true] := by
  unfold parseV parseR
  rw [if_neg h1, if_neg h2, if_pos ⟨h3, h4⟩]
theorem neq_str {s : ByteArray} {l : List UInt8} (h : ¬ s.data.toList = l) : (s.toList == l) = false := by
  rw [beq_eq_false_iff_ne, Lib.toList_data]
  exact h
set_option maxHeartbeats 1000000 in
theorem kParse_any (s : ByteArray) (w : World) (hs : s.size ≤ 140737488355328) :
    Calls Tryd.prog 9 #[.string s] w fun e w' => e = .returned (parseV s.data.toList) ∧ Below w.heap.size w w' := by
  by_cases hA : s.data.toList = sCur
  · have e : s = ⟨#[99, 117, 114, 114, 101, 110, 116]⟩ := by rw [← Lib.mk_data s, hA]; rfl
    have HP := Lib.hid parseV_cur
    rw [hA, HP.out]
    subst e
    clear hA
    go_enter Tryd.func9, Tryd.ntmps9
    go_wp2
    exact bodyPost_ret (v := .tuple #[.int .u8 4, .int .u64 0, .bool true]) (by simp [results, Tryd.results9, go_sem] <;> rfl) rfl ⟨rfl, bself w⟩
  · by_cases hB : s.data.toList = sTmp
    · have e : s = ⟨#[99, 117, 114, 114, 101, 110, 116, 46, 116, 109, 112]⟩ := by rw [← Lib.mk_data s, hB]; rfl
      have HP := Lib.hid parseV_tmp
      rw [hB, HP.out]
      subst e
      clear hB hA
      go_enter Tryd.func9, Tryd.ntmps9
      go_wp2
      exact bodyPost_ret (v := .tuple #[.int .u8 5, .int .u64 0, .bool true]) (by simp [results, Tryd.results9, go_sem] <;> rfl) rfl ⟨rfl, bself w⟩
    · have ga : (s.toList == [99, 117, 114, 114, 101, 110, 116]) = false := neq_str hA
      have gb : (s.toList == [99, 117, 114, 114, 101, 110, 116, 46, 116, 109, 112]) = false := neq_str hB
      have hlen : s.data.toList.length = s.size := by rw [Array.length_toList]; rfl
      have c1 : ∀ W, Calls Tryd.prog 17 #[.string s, .string ⟨#[109, 97, 110, 105, 102, 101, 115, 116, 45]⟩] W fun e w' => e = .returned (.tuple #[.string ⟨(Lib.trimPrefix s.data.toList sMan).toArray⟩, .bool (Lib.hasPrefix s.data.toList sMan)]) ∧ w' = W := fun W => sCutPrefix s _ W
      obtain ⟨T, H, hT, hH⟩ : ∃ (T : ByteArray → ByteArray) (H : ByteArray → Bool), (∀ p, T p = ⟨(Lib.trimSuffix s.data.toList p.data.toList).toArray⟩) ∧ (∀ p, H p = Lib.hasSuffix s.data.toList p.data.toList) := ⟨_, _, fun _ => rfl, fun _ => rfl⟩
      have CC : Hid (∀ p W, Calls Tryd.prog 18 #[.string s, .string p] W fun e w' => e = .returned (.tuple #[.string (T p), .bool (H p)]) ∧ w' = W) := by
        intro p W
        rw [hT, hH]
        exact sCutSuffix s p W (by omega)
      have h2 : H ⟨#[46, 108, 111, 103]⟩ = Lib.hasSuffix s.data.toList sLog := hH _
      have h3 : H ⟨#[46, 116, 97, 98]⟩ = Lib.hasSuffix s.data.toList sTab := hH _
      have t2 : T ⟨#[46, 108, 111, 103]⟩ = ⟨(Lib.trimSuffix s.data.toList sLog).toArray⟩ := hT _
      have t3 : T ⟨#[46, 116, 97, 98]⟩ = ⟨(Lib.trimSuffix s.data.toList sTab).toArray⟩ := hT _
      clear hT hH
      cases p1 : Lib.hasPrefix s.data.toList sMan with
      | true =>
        rw [p1] at c1
        obtain ⟨r, hr⟩ : ∃ r : ByteArray, r = ⟨(Lib.trimPrefix s.data.toList sMan).toArray⟩ := ⟨_, rfl⟩
        have hrl : r.data.toList = Lib.trimPrefix s.data.toList sMan := by rw [hr]
        have hrs : r.size ≤ 140737488355328 := by have := Lib.trimPrefix_le s.data.toList sMan; rw [← hrl] at this; have : r.data.toList.length = r.size := (by rw [Array.length_toList]; rfl); omega
        rw [← hr] at c1
        have C1 := Lib.hid c1
        have hE : Hid (endsR s.data.toList = (r.data.toList, 3)) := by unfold endsR; rw [if_pos p1, hrl]; rfl
        clear c1 hr hrl p1 h2 h3 t2 t3
        obtain ⟨m, b, hm⟩ : ∃ m b, numR r.data.toList = (m, b) := ⟨_, _, rfl⟩
        have HN : Hid (∀ W, Calls Tryd.prog 19 #[.string r] W fun e w' => e = .returned (.tuple #[.int .u64 (m : Int), .bool b]) ∧ Below W.heap.size W w') := by
          intro W
          have := kNumber_any r W hrs
          unfold numV at this
          rw [hm] at this
          exact this
        cases b with
        | false =>
          have HP := Lib.hid (parseV_no hA hB (.inr (by rw [hE.out, hm])))
          clear hm hA hB hE
          go_enter Tryd.func9, Tryd.ntmps9
          go_wp2_with (first | (go_at_call 17; refine (C1.out _).mono ?_; rintro e w1 ⟨rfl, rfl⟩) | (go_at_call 18; refine (CC.out _ _).mono ?_; rintro e w1 ⟨rfl, rfl⟩; skip) | (go_at_call 19; refine (HN.out _).mono ?_; rintro e w2 ⟨rfl, hb2⟩))
          exact bodyPost_ret (v := .tuple #[.int .u8 0, .int .u64 0, .bool false]) (by simp [results, Tryd.results9, go_sem] <;> rfl) rfl ⟨by rw [HP.out], hb2⟩
        | true =>
          have HP := Lib.hid (parseV_yes hA hB (by rw [hE.out]; simp) (by rw [hE.out, hm]))
          rw [hE.out, hm] at HP
          clear hm hA hB hE
          go_enter Tryd.func9, Tryd.ntmps9
          go_wp2_with (first | (go_at_call 17; refine (C1.out _).mono ?_; rintro e w1 ⟨rfl, rfl⟩) | (go_at_call 18; refine (CC.out _ _).mono ?_; rintro e w1 ⟨rfl, rfl⟩; skip) | (go_at_call 19; refine (HN.out _).mono ?_; rintro e w2 ⟨rfl, hb2⟩))
          exact bodyPost_ret (v := .tuple #[.int .u8 3, .int .u64 (m : Int), .bool true]) (by simp [results, Tryd.results9, go_sem] <;> rfl) rfl ⟨by rw [HP.out]; rfl, hb2⟩
      | false =>
        rw [p1] at c1
        obtain ⟨r1, hr1⟩ : ∃ r : ByteArray, r = ⟨(Lib.trimPrefix s.data.toList sMan).toArray⟩ := ⟨_, rfl⟩
        rw [← hr1] at c1
        have C1 := Lib.hid c1
        clear c1 hr1
        cases p2 : Lib.hasSuffix s.data.toList sLog with
        | true =>
          rw [p2] at h2
          obtain ⟨r, hr⟩ : ∃ r : ByteArray, r = ⟨(Lib.trimSuffix s.data.toList sLog).toArray⟩ := ⟨_, rfl⟩
          have hrl : r.data.toList = Lib.trimSuffix s.data.toList sLog := by rw [hr]
          have hrs : r.size ≤ 140737488355328 := by have := Lib.trimSuffix_le s.data.toList sLog; rw [← hrl] at this; have : r.data.toList.length = r.size := (by rw [Array.length_toList]; rfl); omega
          rw [← hr] at t2
          have hE : Hid (endsR s.data.toList = (r.data.toList, 1)) := by unfold endsR; rw [if_neg (by rw [p1]; simp), if_pos p2, hrl]; rfl
          clear hr hrl p1 p2 h3 t3
          obtain ⟨m, b, hm⟩ : ∃ m b, numR r.data.toList = (m, b) := ⟨_, _, rfl⟩
          have HN : Hid (∀ W, Calls Tryd.prog 19 #[.string r] W fun e w' => e = .returned (.tuple #[.int .u64 (m : Int), .bool b]) ∧ Below W.heap.size W w') := by
            intro W
            have := kNumber_any r W hrs
            unfold numV at this
            rw [hm] at this
            exact this
          cases b with
          | false =>
            have HP := Lib.hid (parseV_no hA hB (.inr (by rw [hE.out, hm])))
            clear hm hA hB hE
            go_enter Tryd.func9, Tryd.ntmps9
            go_wp2_with (first | (go_at_call 17; refine (C1.out _).mono ?_; rintro e w1 ⟨rfl, rfl⟩) | (go_at_call 18; refine (CC.out _ _).mono ?_; rintro e w1 ⟨rfl, rfl⟩; rw [h2, t2]) | (go_at_call 19; refine (HN.out _).mono ?_; rintro e w2 ⟨rfl, hb2⟩))
            exact bodyPost_ret (v := .tuple #[.int .u8 0, .int .u64 0, .bool false]) (by simp [results, Tryd.results9, go_sem] <;> rfl) rfl ⟨by rw [HP.out], hb2⟩
          | true =>
            have HP := Lib.hid (parseV_yes hA hB (by rw [hE.out]; simp) (by rw [hE.out, hm]))
            rw [hE.out, hm] at HP
            clear hm hA hB hE
            go_enter Tryd.func9, Tryd.ntmps9
            go_wp2_with (first | (go_at_call 17; refine (C1.out _).mono ?_; rintro e w1 ⟨rfl, rfl⟩) | (go_at_call 18; refine (CC.out _ _).mono ?_; rintro e w1 ⟨rfl, rfl⟩; rw [h2, t2]) | (go_at_call 19; refine (HN.out _).mono ?_; rintro e w2 ⟨rfl, hb2⟩))
            exact bodyPost_ret (v := .tuple #[.int .u8 1, .int .u64 (m : Int), .bool true]) (by simp [results, Tryd.results9, go_sem] <;> rfl) rfl ⟨by rw [HP.out]; rfl, hb2⟩
        | false =>
          rw [p2] at h2
          obtain ⟨r2, hr2⟩ : ∃ r : ByteArray, r = ⟨(Lib.trimSuffix s.data.toList sLog).toArray⟩ := ⟨_, rfl⟩
          rw [← hr2] at t2
          clear hr2
          obtain ⟨r, hr⟩ : ∃ r : ByteArray, r = ⟨(Lib.trimSuffix s.data.toList sTab).toArray⟩ := ⟨_, rfl⟩
          have hrl : r.data.toList = Lib.trimSuffix s.data.toList sTab := by rw [hr]
          have hrs : r.size ≤ 140737488355328 := by have := Lib.trimSuffix_le s.data.toList sTab; rw [← hrl] at this; have : r.data.toList.length = r.size := (by rw [Array.length_toList]; rfl); omega
          cases p3 : Lib.hasSuffix s.data.toList sTab with
          | true =>
            rw [p3] at h3
            rw [← hr] at t3
            have hE : Hid (endsR s.data.toList = (r.data.toList, 2)) := by unfold endsR; rw [if_neg (by rw [p1]; simp), if_neg (by rw [p2]; simp), if_pos p3, hrl]; rfl
            clear hr hrl p1 p2 p3
            obtain ⟨m, b, hm⟩ : ∃ m b, numR r.data.toList = (m, b) := ⟨_, _, rfl⟩
            have HN : Hid (∀ W, Calls Tryd.prog 19 #[.string r] W fun e w' => e = .returned (.tuple #[.int .u64 (m : Int), .bool b]) ∧ Below W.heap.size W w') := by
              intro W
              have := kNumber_any r W hrs
              unfold numV at this
              rw [hm] at this
              exact this
            cases b with
            | false =>
              have HP := Lib.hid (parseV_no hA hB (.inr (by rw [hE.out, hm])))
              clear hm hA hB hE
              go_enter Tryd.func9, Tryd.ntmps9
              go_wp2_with (first | (go_at_call 17; refine (C1.out _).mono ?_; rintro e w1 ⟨rfl, rfl⟩) | (go_at_call 18; refine (CC.out _ _).mono ?_; rintro e w1 ⟨rfl, rfl⟩; first | rw [h2, t2] | rw [h3, t3]) | (go_at_call 19; refine (HN.out _).mono ?_; rintro e w2 ⟨rfl, hb2⟩))
              exact bodyPost_ret (v := .tuple #[.int .u8 0, .int .u64 0, .bool false]) (by simp [results, Tryd.results9, go_sem] <;> rfl) rfl ⟨by rw [HP.out], hb2⟩
            | true =>
              have HP := Lib.hid (parseV_yes hA hB (by rw [hE.out]; simp) (by rw [hE.out, hm]))
              rw [hE.out, hm] at HP
              clear hm hA hB hE
              go_enter Tryd.func9, Tryd.ntmps9
              go_wp2_with (first | (go_at_call 17; refine (C1.out _).mono ?_; rintro e w1 ⟨rfl, rfl⟩) | (go_at_call 18; refine (CC.out _ _).mono ?_; rintro e w1 ⟨rfl, rfl⟩; first | rw [h2, t2] | rw [h3, t3]) | (go_at_call 19; refine (HN.out _).mono ?_; rintro e w2 ⟨rfl, hb2⟩))
              exact bodyPost_ret (v := .tuple #[.int .u8 2, .int .u64 (m : Int), .bool true]) (by simp [results, Tryd.results9, go_sem] <;> rfl) rfl ⟨by rw [HP.out]; rfl, hb2⟩
          | false =>
            rw [p3] at h3
            rw [← hr] at t3
            have hE : endsR s.data.toList = (s.data.toList, 0) := by unfold endsR; rw [if_neg (by rw [p1]; simp), if_neg (by rw [p2]; simp), if_neg (by rw [p3]; simp)]
            have HP := Lib.hid (parseV_no hA hB (.inl (by rw [hE])))
            obtain ⟨m, b, hm⟩ : ∃ m b, numR r.data.toList = (m, b) := ⟨_, _, rfl⟩
            have HN : Hid (∀ W, Calls Tryd.prog 19 #[.string r] W fun e w' => e = .returned (.tuple #[.int .u64 (m : Int), .bool b]) ∧ Below W.heap.size W w') := by
              intro W
              have := kNumber_any r W hrs
              unfold numV at this
              rw [hm] at this
              exact this
            clear hr hrl p1 p2 p3 hE hA hB hm
            go_enter Tryd.func9, Tryd.ntmps9
            go_wp2_with (first | (go_at_call 17; refine (C1.out _).mono ?_; rintro e w1 ⟨rfl, rfl⟩) | (go_at_call 18; refine (CC.out _ _).mono ?_; rintro e w1 ⟨rfl, rfl⟩; first | rw [h2, t2] | rw [h3, t3]) | (go_at_call 19; refine (HN.out _).mono ?_; rintro e w2 ⟨rfl, hb2⟩))
            exact bodyPost_ret (v := .tuple #[.int .u8 0, .int .u64 0, .bool false]) (by simp [results, Tryd.results9, go_sem] <;> rfl) rfl ⟨by rw [HP.out], hb2⟩
end Go.Proofs.YtjkcdnangmjoeaaDoor

namespace Go.Proofs.YtjkcdnangmjoeaaDoor
open Go.RowKit


theorem ret_bl {a b : Bool} (h : a = b) : Ending.returned (.bool a) = Ending.returned (.bool b) := by rw [h]
abbrev hdV (h : Hd) : Value := .agg #[.int .u8 (h.k : Int), .int .u8 (h.lv : Int), .int .u64 (h.g : Int), .int .u64 (h.e : Int), .int .u64 (h.n : Int)]
theorem right_2 {h : Hd} (a : h.k = 2) : rightH h = decide (h.lv < 5) := by unfold rightH; rw [if_pos a]
theorem right_13 {h : Hd} (a : h.k = 1 ∨ h.k = 3) : rightH h = (decide (h.lv = 0) && decide (h.g = 0)) := by
  unfold rightH
  rw [if_neg (by omega)]
  by_cases b : h.lv = 0 <;> by_cases c : h.g = 0 <;> simp [a, b, c]
theorem right_no {h : Hd} (a : ¬ h.k = 2) (b : ¬ (h.k = 1 ∨ h.k = 3)) : rightH h = false := by
  unfold rightH
  rw [if_neg a, decide_eq_false (fun x => b x.1)]
set_option maxHeartbeats 1000000 in
theorem kRight_any (h : Hd) (w : World) (ok : h.ok) :
    Calls Tryd.prog 22 #[hdV h] w fun e w' => e = .returned (.bool (rightH h)) ∧ Below w.heap.size w w' := by
  obtain ⟨k, lv, g, e, n⟩ := h
  obtain ⟨h1, h2, h3, h4, h5⟩ := ok
  simp only at h1 h2 h3 h4 h5
  by_cases a : k = 2
  · have HR := Lib.hid (right_2 (h := ⟨k, lv, g, e, n⟩) a)
    subst a
    go_enter Tryd.func22, Tryd.ntmps22
    go_wp2
    go_ret
    refine ⟨?_, (bself w).alloc (Nat.le_refl _) _⟩
    rw [HR.out]
    exact ret_bl (by rw [decide_eq_decide]; omega)
  · by_cases b : k = 1 ∨ k = 3
    · have HR := Lib.hid (right_13 (h := ⟨k, lv, g, e, n⟩) b)
      rcases b with b | b
      all_goals
        subst b
        by_cases c : lv = 0
        · subst c
          go_enter Tryd.func22, Tryd.ntmps22
          go_wp2
          go_ret
          refine ⟨?_, (bself w).alloc (Nat.le_refl _) _⟩
          rw [HR.out]
          exact ret_bl (by simp [Bool.beq_eq_decide_eq])
        · have c' : ¬ ((lv : Int) = 0) := by omega
          have HC : Hid (¬ lv = 0) := c
          clear c
          go_enter Tryd.func22, Tryd.ntmps22
          go_wp2
          go_ret
          refine ⟨?_, (bself w).alloc (Nat.le_refl _) _⟩
          rw [HR.out]
          exact ret_bl (by simp [HC.out])
    · have HR := Lib.hid (right_no (h := ⟨k, lv, g, e, n⟩) a b)
      have a' : ¬ ((k : Int) = 2) := by omega
      have b1 : ¬ ((k : Int) = 1) := by omega
      have b3 : ¬ ((k : Int) = 3) := by omega
      clear a b
      go_enter Tryd.func22, Tryd.ntmps22
      go_wp2
      go_ret
      refine ⟨?_, (bself w).alloc (Nat.le_refl _) _⟩
      rw [HR.out]
      rfl
end Go.Proofs.YtjkcdnangmjoeaaDoor
