/-
  What is proved here: what the program's number (of digits) comes to, at this seat's numbers. Condition: a text of at most 2^47 bytes.
-/
import Derived.Test.YtjkcdnangmjoeaaNameW2
import Derived.Laws.RangeString
import Derived.Laws.RangeAny
namespace Go.Proofs.Ytjkcdnangmjoeaa
open Go.RowKit

theorem get_list (s : ByteArray) (k : Nat) (h : k < s.size) (h' : k < s.data.toList.length) : s.data.toList[k] = s[k] := by
  rw [Array.getElem_toList]; rfl
theorem iter_below (w : World) (s : ByteArray) (pos : Nat) : Below w.heap.size w (w.iter s pos) := (Below.refl _ _).alloc (Nat.le_refl _) _
def numV (l : List UInt8) : Value := .tuple #[.int .u64 ((numR l).1 : Int), .bool (numR l).2]
theorem numV_no {l : List UInt8} (h : numR l = (0, false)) : numV l = .tuple #[.int .u64 0, .bool false] := by unfold numV; rw [h]; rfl
theorem isD_false {c : UInt8} {d : Nat} (h : c.toNat = d) (h2 : d < 48 ∨ 57 < d) : isD c = false := by
  unfold isD; rw [h]
  rcases h2 with h2 | h2
  · rw [decide_eq_false (by omega)]; rfl
  · rw [decide_eq_false (p := d ≤ 57) (by omega), Bool.and_false]
theorem isD_true {c : UInt8} {d : Nat} (h : c.toNat = d) (h2 : 48 ≤ d) (h3 : d ≤ 57) : isD c = true := by
  unfold isD; rw [h, decide_eq_true h2, decide_eq_true h3]; rfl

set_option maxHeartbeats 2000000 in
theorem kNumber_any (s : ByteArray) (w : World) (hs : s.size ≤ 140737488355328) :
    Calls Try.prog 25 #[.string s] w fun e w' => e = .returned (numV s.data.toList) ∧ Below w.heap.size w w' := by
  have hlen := (show s.data.toList.length = s.size by rw [Array.length_toList]; rfl)
  go_enter Try.func25, Try.ntmps25
  go_wp2
  go_loopw [4, 5] (fun x y wr => ∃ pos V : Nat, wr = w.iter s pos ∧ x = .int .u64 V ∧ y = .int .i64 pos ∧ pos ≤ s.size ∧ Hid (V = val (s.data.toList.take pos)) ∧ Hid (numOK (s.data.toList.take pos)) ∧ V < 18446744073709551616) (fun _ _ wr => s.size - wr.iterPos w.heap.size)
  case atStart => exact ⟨0, 0, rfl, rfl, rfl, Nat.zero_le _, rfl, numOK_nil, by omega⟩
  case round =>
    obtain ⟨pos, V, rfl, rfl, rfl, hpl, hV, hOK, hVb⟩ := hrel
    by_cases hp : pos < s.size
    · have hp' : pos < s.data.toList.length := by omega
      have hg := get_list s pos hp hp'
      obtain ⟨d, hd⟩ : ∃ d : Nat, (s[pos]'hp).toNat = d := ⟨_, rfl⟩
      have hd2 : (s.data.toList[pos]).toNat = d := by rw [hg]; exact hd
      have hdb : d < 256 := by rw [← hd]; exact UInt8.toNat_lt _
      by_cases ha : d < 128
      · have hnx : ∀ ty, (Instr.next (.pointer (some ⟨w.heap.size, 0, none⟩)) true ty).run Try.prog (w.iter s pos) = .ok (.tuple #[.bool true, .int .i64 pos, .int .i32 (d : Int)]) (w.iter s (pos + 1)) := fun ty => by rw [run_next_ascii w s pos ty hp (by omega), hd]
        by_cases hdig : d < 48 ∨ 57 < d
        · have HN := Lib.hid (numV_no (numR_char hp' (isD_false hd2 hdig)))
          clear hd hd2 hg
          by_cases h48 : d < 48
          · have g1 : (d : Int) < 48 := by omega
            go_wp2
            exact bodyPost_ret (v := .tuple #[.int .u64 0, .bool false]) (by simp [results, Try.results25, go_sem] <;> rfl) rfl ⟨by rw [HN.out], iter_below _ _ _⟩
          · have g1 : ¬ (d : Int) < 48 := by omega
            have g2 : (57 : Int) < d := by omega
            go_wp2
            exact bodyPost_ret (v := .tuple #[.int .u64 0, .bool false]) (by simp [results, Try.results25, go_sem] <;> rfl) rfl ⟨by rw [HN.out], iter_below _ _ _⟩
        · have g1 : ¬ (d : Int) < 48 := by omega
          have g2 : ¬ (57 : Int) < d := by omega
          have hD : isD s.data.toList[pos] = true := isD_true hd2 (by omega) (by omega)
          have hdv : digV1 s.data.toList[pos] = d - 48 := by unfold digV1; rw [hd2]
          by_cases t1 : (18446744073709551615 - ((d : Int) - 48)) / 10 < (V : Int)
          · have HN := Lib.hid (numV_no (numR_big hp' hOK.out hD (by rw [← hV.out, hdv]; left; omega)))
            clear hd hd2 hg hD hdv
            go_wp2
            all_goals exact bodyPost_ret (v := .tuple #[.int .u64 0, .bool false]) (by simp [results, Try.results25, go_sem] <;> rfl) rfl ⟨by rw [HN.out], iter_below _ _ _⟩
          · by_cases t2 : 6 ≤ (pos : Int) ∧ (V : Int) < 100000
            · have HN := Lib.hid (numV_no (numR_big hp' hOK.out hD (by rw [← hV.out, hdv]; right; omega)))
              clear hd hd2 hg hD hdv
              obtain ⟨t3, t4⟩ := t2
              go_wp2
              all_goals exact bodyPost_ret (v := .tuple #[.int .u64 0, .bool false]) (by simp [results, Try.results25, go_sem] <;> rfl) rfl ⟨by rw [HN.out], iter_below _ _ _⟩
            · have HX := numOK_next hp' hOK.out hD (by rw [← hV.out, hdv]; omega) (by rw [← hV.out]; omega)
              rw [hdv, ← hV.out] at HX
              have HY := Lib.hid HX
              have hlt := HX.1.2.1
              rw [HX.2] at hlt
              clear HX hd hd2 hg hD hdv
              by_cases t3 : 6 ≤ (pos : Int)
              · have t4 : ¬ (V : Int) < 100000 := by omega
                go_wp2
                go_roundw
                case rel => exact ⟨pos + 1, V * 10 + (d - 48), rfl, by go_num, by go_num, by omega, HY.out.2.symm, HY.out.1, hlt⟩
                case measure => simp; omega
              · go_wp2
                go_roundw
                case rel => exact ⟨pos + 1, V * 10 + (d - 48), rfl, by go_num, by go_num, by omega, HY.out.2.symm, HY.out.1, hlt⟩
                case measure => simp; omega
      · obtain ⟨hd1, hd3⟩ := decode_high s pos hp (by omega)
        obtain ⟨D, hDD⟩ : ∃ D : Nat, (Utf8.decode s pos).1 = D := ⟨_, rfl⟩
        have hnx : ∀ ty, (Instr.next (.pointer (some ⟨w.heap.size, 0, none⟩)) true ty).run Try.prog (w.iter s pos) = .ok (.tuple #[.bool true, .int .i64 pos, .int .i32 (D : Int)]) (w.iter s (pos + (Utf8.decode s pos).2)) := fun ty => by rw [run_next_any w s pos ty hp, hDD]
        have hDb : 128 ≤ D := by omega
        have HN := Lib.hid (numV_no (numR_char hp' (isD_false hd2 (.inr (by omega)))))
        clear hd hd2 hg hd1 hDD
        have g1 : ¬ (D : Int) < 48 := by omega
        have g2 : (57 : Int) < D := by omega
        go_wp2
        exact bodyPost_ret (v := .tuple #[.int .u64 0, .bool false]) (by simp [results, Try.results25, go_sem] <;> rfl) rfl ⟨by rw [HN.out], iter_below _ _ _⟩
    · have hnx : ∀ ty, (Instr.next (.pointer (some ⟨w.heap.size, 0, none⟩)) true ty).run Try.prog (w.iter s pos) = _ := fun ty => run_next_end w s pos ty hp
      have hpe : pos = s.size := by omega
      have hall : s.data.toList.take pos = s.data.toList := List.take_of_length_le (by omega)
      rw [hall] at hV hOK
      have HN : Hid (numV s.data.toList = .tuple #[.int .u64 V, .bool (decide (6 ≤ (pos : Int)))]) := by
        unfold numV
        rw [numR_yes hOK.out, ← hV.out, hlen, ← hpe]
        have e : decide (6 ≤ pos) = decide (6 ≤ (pos : Int)) := by rw [decide_eq_decide]; omega
        rw [e]
        rfl
      clear hall hpe
      go_wp2
      exact bodyPost_ret (v := .tuple #[.int .u64 V, .bool (decide (6 ≤ (pos : Int)))]) (by simp [results, Try.results25, go_sem] <;> rfl) rfl ⟨by rw [HN.out], iter_below _ _ _⟩
end Go.Proofs.Ytjkcdnangmjoeaa
