/-
  What is proved here: what the reference's value (of the digits that a text begins with) comes to, at this seat's numbers. Condition: a text of at most 2^47 bytes.
-/
import Derived.Test.YtjkcdnangmjoeaaNameW5
namespace Go.Proofs.Ytjkcdnangmjoeaa
open Go.RowKit

theorem lead_take (l : List UInt8) : ∀ k, k ≤ l.length → (∀ c ∈ l.take k, isD c = true) → lead l = l.take k ++ lead (l.drop k) := by
  induction l with
  | nil => intro k hk _; rw [show k = 0 from by simpa using hk]; rfl
  | cons c r ih =>
    intro k hk h
    cases k with
    | zero => rfl
    | succ k =>
      rw [List.take_succ_cons, List.drop_succ_cons, List.cons_append, ← ih k (by simpa using hk) (fun x hx => h x (by rw [List.take_succ_cons]; exact List.mem_cons_of_mem _ hx))]
      show (if isD c then c :: lead r else []) = _
      rw [if_pos (h c (by rw [List.take_succ_cons]; exact List.mem_cons_self))]
theorem lead_end {l : List UInt8} {k : Nat} (hk : k ≤ l.length) (h : ∀ c ∈ l.take k, isD c = true) (he : ∀ h' : k < l.length, isD l[k] = false) : lead l = l.take k := by
  rw [lead_take l k hk h]
  by_cases hlt : k < l.length
  · rw [List.drop_eq_getElem_cons hlt]
    show l.take k ++ (if isD l[k] then _ else []) = _
    rw [he hlt]
    simp
  · rw [List.drop_of_length_le (by omega)]; simp [lead]
theorem dig_next {l : List UInt8} {k : Nat} (hk : k < l.length) (h : ∀ c ∈ l.take k, isD c = true) (hd : isD l[k] = true) : (∀ c ∈ l.take (k + 1), isD c = true) ∧ val (l.take (k + 1)) = val (l.take k) * 10 + digV1 l[k] := by
  rw [take_next l k hk, val_snoc]
  refine ⟨fun c hc => ?_, rfl⟩
  rcases List.mem_append.1 hc with hc | hc
  · exact h c hc
  · rw [List.mem_singleton] at hc; rw [hc]; exact hd

theorem u64_mod (x : Int) : IntKind.u64.wrap x = x % 18446744073709551616 := by simp [IntKind.wrap, IntKind.signed, IntKind.bits]
theorem val_step (V d : Nat) (h : 48 ≤ d) : IntKind.u64.wrap (IntKind.u64.wrap ((V : Int) * 10) + ((d : Int) - 48)) = (((V * 10 + (d - 48)) % 18446744073709551616 : Nat) : Int) := by
  rw [u64_mod, u64_mod]; omega
set_option maxHeartbeats 1000000 in
theorem rValue_any (s : ByteArray) (w : World) (hs : s.size ≤ 140737488355328) :
    Calls Try.prog 26 #[.string s] w fun e w' => e = .returned (.int .u64 (vpre s.data.toList : Int)) ∧ w' = w := by
  have hlen : s.data.toList.length = s.size := by rw [Array.length_toList]; rfl
  go_enter Try.func26, Try.ntmps26
  go_wp2
  go_loop [3, 4] (fun x y => ∃ pos V : Nat, x = .int .u64 V ∧ y = .int .i64 pos ∧ pos ≤ s.size ∧ Hid (V = val (s.data.toList.take pos) % 18446744073709551616) ∧ Hid (∀ c ∈ s.data.toList.take pos, isD c = true) ∧ V < 18446744073709551616) (fun _ y => s.size - (intOf y).toNat)
  case atStart => exact ⟨0, 0, rfl, rfl, Nat.zero_le _, rfl, (fun _ h => by cases h), by omega⟩
  case round =>
    obtain ⟨pos, V, rfl, rfl, hpl, hV, hD, hVb⟩ := hrel
    by_cases hp : pos < s.size
    · have hp' : pos < s.data.toList.length := by omega
      have hg := get_list s pos hp hp'
      obtain ⟨d, hd⟩ : ∃ d : Nat, (s[pos]'hp).toNat = d := ⟨_, rfl⟩
      have hd2 : (s.data.toList[pos]).toNat = d := by rw [hg]; exact hd
      have hdb : d < 256 := by rw [← hd]; exact UInt8.toNat_lt _
      by_cases hdig : d < 48 ∨ 57 < d
      · have HN := Lib.hid (lead_end (k := pos) (by omega) hD.out (fun _ => isD_false hd2 hdig))
        by_cases g1 : (d : Int) < 48
        · clear hg hd2
          go_wp2
          go_ret
          refine ⟨?_, rfl⟩
          unfold vpre
          rw [HN.out, ← hV.out]
          rfl
        · have g2 : (57 : Int) < d := by omega
          clear hg hd2
          go_wp2
          go_ret
          refine ⟨?_, rfl⟩
          unfold vpre
          rw [HN.out, ← hV.out]
          rfl
      · have g1 : ¬ (d : Int) < 48 := by omega
        have g2 : ¬ (57 : Int) < d := by omega
        have HX := Lib.hid (dig_next hp' hD.out (isD_true hd2 (by omega) (by omega)))
        have hdv : digV1 s.data.toList[pos] = d - 48 := by unfold digV1; rw [hd2]
        rw [hdv] at HX
        clear hg hd2 hdv
        go_wp2
        refine ⟨⟨pos + 1, (V * 10 + (d - 48)) % 18446744073709551616, congrArg _ (val_step V d (by omega)), by go_num, by omega, ?_, HX.out.1, by omega⟩, ?_⟩
        · show _ = _
          rw [HX.out.2, hV.out]; omega
        · simp [intOf]; omega
    · have HN := Lib.hid (lead_end (k := pos) (by omega) hD.out (fun h' => absurd h' (by omega)))
      go_wp2
      go_ret
      refine ⟨?_, rfl⟩
      unfold vpre
      rw [HN.out, ← hV.out]
      rfl
end Go.Proofs.Ytjkcdnangmjoeaa
