/-
  What is proved here: what the program's and the reference's digits come to, at this seat's numbers. No condition.
-/
import Derived.Test.YtjkcdnangmjoeaaByte
import Derived.Test.YtjkcdnangmjoeaaNumLaw
import Derived.Test.YtjkcdnangmjoeaaNameLaw4
namespace Go.Proofs.Ytjkcdnangmjoeaa
open Go.RowKit

def slLen : Value → Nat
  | .slice _ n _ => n
  | _ => 0
def strLen : Value → Nat
  | .string s => s.size
  | _ => 0
theorem dgt_byte (k : Nat) : (48 + (k : Int) % 10) = ((UInt8.ofNat (48 + k % 10)).toNat : Int) := by
  rw [← byte_of]; omega
/-- append([]byte{c}, l...) -/
theorem OB.lit1 {base : Nat} (w : World) (b : UInt8) (u : Value) (hu : u = u8v b) (hb : base ≤ w.heap.size) : OB (w.alloc (.cells #[u] 5)) base (.slice (some ⟨w.heap.size, 0, none⟩) 1 1) [b] := by
  subst hu
  exact OB.lit w [b] hb (by simp [maxLen])

set_option maxHeartbeats 1000000 in
theorem kDigits_any (n : Nat) (w : World) (hn : n < 18446744073709551616) :
    Calls Try.prog 21 #[.int .u64 n] w fun e w' => e = .returned (.string ⟨(dgt n 6).toArray⟩) ∧ Below w.heap.size w w' := by
  have h20 := dgt_20 n hn
  go_enter Try.func21, Try.ntmps21
  go_wp2
  go_loopw [0, 3] (fun x v wr => ∃ k : Nat, x = .int .u64 k ∧ k < 18446744073709551616 ∧ ∃ l A c, v = .slice A l.length c ∧ OB wr w.heap.size v l ∧ Hid (dgt k (6 - l.length) ++ l = dgt n 6) ∧ Below w.heap.size w wr) (fun x v _ => (intOf x).toNat + (6 - slLen v))
  case atStart => exact ⟨n, rfl, hn, [], none, 0, rfl, OB.nil_ _ _, by simp [Lib.hid], Below.refl _ _⟩
  case round =>
    obtain ⟨k, rfl, hk, l, A, c, rfl, hown, hl, hbr⟩ := hrel
    have hsz := hbr.size
    have hl20 : l.length ≤ 20 := by
      have := congrArg List.length hl.out
      rw [List.length_append] at this
      omega
    by_cases hgo : k = 0 ∧ 6 ≤ l.length
    · obtain ⟨rfl, h6⟩ := hgo
      have HF := Lib.hid (dgt_end h6 hl.out)
      have g6 : ¬ ((l.length : Int) < 6) := by omega
      go_wp2_with (refine wl_b2s (o := ⟨some 21, _, _, _, _, _⟩) rfl (.tmp 20) rfl _ rfl _ _ hown.sb ?_)
      go_ret
      exact ⟨by rw [HF.out]; rfl, hbr⟩
    · by_cases h0 : 0 < k
      · go_wp2_with (at_builtin; refine wl_appB rfl (.tmp 17) (.tmp 18) rfl w.heap.size _ [UInt8.ofNat (48 + k % 10)] rfl (OB.lit1 wr _ _ (congrArg _ (dgt_byte k)) hsz) wr.heap.size _ l rfl (hown.sb.alloc (Nat.le_refl _) _) (by simp; omega) (by simp; omega) ?_; intro v2 w2 hown2 _ _ hb2)
        go_roundw
        case rel =>
          obtain ⟨A2, c2, e2, _, _, _⟩ := hown2.sb
          exact ⟨k / 10, by go_num, by omega, UInt8.ofNat (48 + k % 10) :: l, A2, c2, e2, hown2, dgt_rel l _ hgo hl.out, (hbr.alloc hsz _).trans hb2⟩
        case measure =>
          obtain ⟨A2, c2, e2, _, _, _⟩ := hown2.sb
          rw [e2]
          simp [intOf, slLen]; omega
      · have h00 : k = 0 := by omega
        subst h00
        have h6 : l.length < 6 := by omega
        go_wp2_with (at_builtin; refine wl_appB rfl (.tmp 17) (.tmp 18) rfl w.heap.size _ [UInt8.ofNat (48 + 0 % 10)] rfl (OB.lit1 wr _ _ rfl hsz) wr.heap.size _ l rfl (hown.sb.alloc (Nat.le_refl _) _) (by simp; omega) (by simp; omega) ?_; intro v2 w2 hown2 _ _ hb2)
        go_roundw
        case rel =>
          obtain ⟨A2, c2, e2, _, _, _⟩ := hown2.sb
          exact ⟨0, by go_num, by omega, UInt8.ofNat (48 + 0 % 10) :: l, A2, c2, e2, hown2, dgt_rel l _ hgo hl.out, (hbr.alloc hsz _).trans hb2⟩
        case measure =>
          obtain ⟨A2, c2, e2, _, _, _⟩ := hown2.sb
          rw [e2]
          simp [intOf, slLen]; omega
theorem SB.newV (w : World) (b : UInt8) (u : Value) (hu : u = u8v b) : SB (w.alloc (.cells #[u] 5)) (w.heap.size + 1) (.slice (some ⟨w.heap.size, 0, none⟩) 1 1) [b] := by
  subst hu
  exact SB.new1 w b
theorem str_add (l m : List UInt8) : Value.string (⟨l.toArray⟩ ++ ⟨m.toArray⟩) = .string ⟨(l ++ m).toArray⟩ := by rw [bytes_add]
set_option maxHeartbeats 1000000 in
theorem rDigits_any (n : Nat) (w : World) (hn : n < 18446744073709551616) :
    Calls Try.prog 22 #[.int .u64 n] w fun e w' => e = .returned (.string ⟨(dgt n 6).toArray⟩) ∧ Below w.heap.size w w' := by
  have h20 := dgt_20 n hn
  go_enter Try.func22, Try.ntmps22
  go_wp2
  go_loopw [0, 3] (fun x v wr => ∃ k : Nat, x = .int .u64 k ∧ k < 18446744073709551616 ∧ ∃ s : ByteArray, v = .string s ∧ ∃ l, Hid (s = ⟨l.toArray⟩) ∧ s.size = l.length ∧ Hid (dgt k (6 - l.length) ++ l = dgt n 6) ∧ Below w.heap.size w wr) (fun x v _ => (intOf x).toNat + (6 - strLen v))
  case atStart => exact ⟨n, rfl, hn, ⟨#[]⟩, rfl, [], rfl, rfl, by simp [Lib.hid], Below.refl _ _⟩
  case round =>
    obtain ⟨k, rfl, hk, s, rfl, l, hsl, hss, hl, hbr⟩ := hrel
    have hsz := hbr.size
    have hl20 : l.length ≤ 20 := by
      have := congrArg List.length hl.out
      rw [List.length_append] at this
      omega
    by_cases hgo : k = 0 ∧ 6 ≤ l.length
    · obtain ⟨rfl, h6⟩ := hgo
      have HF := Lib.hid (dgt_end h6 hl.out)
      have g6 : ¬ ((s.size : Int) < 6) := by omega
      go_wp2
      go_ret
      exact ⟨by rw [hsl.out, HF.out]; rfl, hbr⟩
    · by_cases h0 : 0 < k
      · obtain ⟨b, hb⟩ : ∃ b, Hid (b = UInt8.ofNat (48 + k % 10)) := ⟨_, rfl⟩
        have HV : Hid (Value.int .u8 (48 + (k : Int) % 10) = u8v b) := by rw [hb.out]; exact congrArg _ (dgt_byte k)
        have HR := Lib.hid (dgt_rel l _ hgo hl.out)
        rw [← hb.out] at HR
        go_wp2_with (refine wl_b2s (o := ⟨some 16, _, _, _, _, _⟩) rfl (.tmp 15) rfl _ rfl _ [b] (SB.newV wr b _ HV.out) ?_)
        go_roundw
        case rel =>
          refine ⟨k / 10, by go_num, by omega, _, rfl, b :: l, ?_, ?_, HR, hbr.alloc hsz _⟩
          · rw [hsl.out, bytes_add]; exact rfl
          · rw [hsl.out, bytes_add]; simp [ByteArray.size]
        case measure =>
          simp [intOf, strLen, ByteArray.size_append]; omega
      · have h00 : k = 0 := by omega
        subst h00
        have g6 : (s.size : Int) < 6 := by omega
        obtain ⟨b, hb⟩ : ∃ b, Hid (b = UInt8.ofNat (48 + 0 % 10)) := ⟨_, rfl⟩
        have HV : Hid (Value.int .u8 48 = u8v b) := by rw [hb.out]; rfl
        have HR := Lib.hid (dgt_rel l _ hgo hl.out)
        rw [← hb.out] at HR
        go_wp2_with (refine wl_b2s (o := ⟨some 16, _, _, _, _, _⟩) rfl (.tmp 15) rfl _ rfl _ [b] (SB.newV wr b _ HV.out) ?_)
        go_roundw
        case rel =>
          refine ⟨0, by go_num, by omega, _, rfl, b :: l, ?_, ?_, HR, hbr.alloc hsz _⟩
          · rw [hsl.out, bytes_add]; exact rfl
          · rw [hsl.out, bytes_add]; simp [ByteArray.size]
        case measure =>
          have hz : (⟨[b].toArray⟩ : ByteArray).size = 1 := rfl
          show (intOf (.int .u64 0)).toNat + (6 - (⟨[b].toArray⟩ ++ s : ByteArray).size) < (intOf (.int .u64 0)).toNat + (6 - s.size)
          rw [ByteArray.size_append, hz]
          omega
end Go.Proofs.Ytjkcdnangmjoeaa
