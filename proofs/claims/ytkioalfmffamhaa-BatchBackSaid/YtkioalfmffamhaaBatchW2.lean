/-
  What is proved here: what Entries and Size of package batch come to, at this seat's numbers. Conditions: the lists' lengths.
-/
import Derived.Test.YtkioalfmffamhaaBatchW
import Derived.Test.YtkioalfmffamhaaRowEnt
import Derived.StillTailTactics
import Derived.BigQuiet
import Derived.Deep.RegionHeld3
namespace Go.Proofs.Ytkioalfmffamhaa
open Go.RowKit

theorem u64_succ (n : UInt64) : IntKind.u64.wrap ((n.toNat : Int) + 1) = ((n + 1).toNat : Int) := by
  rw [UInt64.toNat_add, IntKind.wrap_u64]; simp
theorem u64_addk (n : UInt64) (k : Nat) (hk : k < 18446744073709551616) : IntKind.u64.wrap ((n.toNat : Int) + (k : Int)) = ((n + UInt64.ofNat k).toNat : Int) := by
  rw [UInt64.toNat_add, UInt64.toNat_ofNat', Nat.mod_eq_of_lt hk, IntKind.wrap_u64]; simp

set_option maxHeartbeats 1000000 in
theorem bEntries_any (seq : UInt64) (v : Value) (l : List Opn) (w : World) (hv : SO w w.heap.size v l) (hlen : l.length ≤ 4000000000000) :
    Calls Try.prog 16 #[.int .u64 (seq.toNat : Int), v] w fun e w' => ∃ r, e = .returned r ∧ OE w' w.heap.size r (entsFrom seq l) ∧ Below w.heap.size w w' := by
  have hs := u64_lt seq
  obtain ⟨A, c, rfl, hlc, hcm, hr⟩ := hv
  have hcm' : c ≤ 9223372036854775807 := by unfold maxLen at hcm; omega
  clear hcm
  go_enter Try.func16, Try.ntmps16
  go_wp2
  go_loopw [0, 5, 10] (fun s x i wr => ∃ k : Nat, i = .int .i64 k ∧ k ≤ l.length ∧ s = .int .u64 ((seq + UInt64.ofNat k).toNat : Int) ∧ OE wr w.heap.size x (entsFrom seq (l.take k)) ∧ Below w.heap.size w wr) (fun _ _ i _ => l.length - (intOf i).toNat)
  case atStart => exact ⟨0, rfl, Nat.zero_le _, by simp, OE.nil_ _ _, Below.refl _ _⟩
  case round =>
    obtain ⟨k, rfl, hk, rfl, hown, hbr⟩ := hrel
    have hsz := hbr.size
    by_cases hlt : k < l.length
    · obtain ⟨b, o, rfl, hb, c0, c1, c2⟩ := (hr.below hbr).op rfl hlt
      have hsn := entsFrom_take seq l k hlt
      have htl : (entsFrom seq (l.take k)).length ≤ k := by rw [entsFrom_length, List.length_take]; omega
      obtain ⟨x, hx⟩ : ∃ x, x = l[k] := ⟨_, rfl⟩
      rw [← hx] at c0 c1 c2 hsn
      have HS := Lib.hid hsn
      clear hx hsn
      obtain ⟨q, hq⟩ : ∃ q, q = seq + UInt64.ofNat k := ⟨_, rfl⟩
      rw [← hq]
      have hq2 : q + 1 = seq + UInt64.ofNat (k + 1) := by rw [hq, UInt64.ofNat_add, UInt64.add_assoc]; rfl
      have HQ := Lib.hid (And.intro hq hq2)
      clear hq hq2
      have hql := u64_lt q
      go_wp2_with fail
      refine (bEntry_any q x _).mono ?_
      rintro e w1 ⟨rfl, hb1⟩
      have hb1' := bstep (balloc hbr _) hb1
      go_wp2_with (at_builtin; refine wl_appE rfl (.tmp 14) (.tmp 18) rfl w.heap.size _ _ rfl ((hown.alloc _).below hb1 (Nat.le_refl _)) (entAt q x) rfl rfl (by simp only [maxLen]; omega) (Fits.one _ _ (by omega)) hb1'.size ?_; intro v2 w2 hown2 _ hb2)
      go_roundw
      case rel =>
        refine ⟨k + 1, by go_num, by omega, ?_, ?_, hb1'.trans hb2⟩
        · rw [← HQ.out.2, ← u64_succ]
        · rw [HS.out, ← HQ.out.1]; exact hown2
      case measure => simp [intOf]; omega
    · go_wp2
      go_ret
      refine ⟨_, rfl, ?_, hbr⟩
      rw [List.take_of_length_le (by omega)] at hown
      exact hown

set_option maxHeartbeats 1000000 in
theorem bSize_any (v : Value) (l : List Opn) (w : World) (hv : SO w w.heap.size v l) (hlen : l.length ≤ 4000000000000) (hby : bytesOps l ≤ 281474976710656) :
    Calls Try.prog 18 #[v] w fun e w' => e = .returned (.int .i64 (sizeOps l)) ∧ Below w.heap.size w w' := by
  obtain ⟨A, c, rfl, hlc, hcm, hr⟩ := hv
  have hcm' : c ≤ 9223372036854775807 := by unfold maxLen at hcm; omega
  clear hcm
  go_enter Try.func18, Try.ntmps18
  go_wp2
  go_loopw [3, 11] (fun s i wr => ∃ k : Nat, i = .int .i64 k ∧ k ≤ l.length ∧ s = .int .i64 ((8 * l.length + bytesOps (l.take k) : Nat) : Int) ∧ Below w.heap.size w wr) (fun _ i _ => l.length - (intOf i).toNat)
  case atStart => exact ⟨0, rfl, Nat.zero_le _, by simp [bytesOps], Below.refl _ _⟩
  case round =>
    obtain ⟨k, rfl, hk, rfl, hbr⟩ := hrel
    by_cases hlt : k < l.length
    · obtain ⟨b, o, rfl, hb, c0, c1, c2⟩ := (hr.below hbr).op rfl hlt
      have hsn := bytesOps_take l k hlt
      have hle := bytesOps_take_le l (k + 1)
      obtain ⟨x, hx⟩ : ∃ x, x = l[k] := ⟨_, rfl⟩
      rw [← hx] at c0 c1 c2 hsn
      have htl : bytesOps (l.take k) + (x.user.size + x.value.size) ≤ 281474976710656 := by omega
      have HS := Lib.hid hsn
      clear hx hsn hle
      go_wp2
      go_roundw
      case rel =>
        refine ⟨k + 1, by go_num, by omega, ?_, balloc hbr _⟩
        rw [HS.out]
        go_num
      case measure => simp [intOf]; omega
    · go_wp2
      go_ret
      refine ⟨?_, hbr⟩
      rw [sizeOps_bytes, List.take_of_length_le (by omega)]
      rfl

set_option maxHeartbeats 1000000 in
theorem rSize_any (v : Value) (l : List Opn) (w : World) (hv : SO w w.heap.size v l) (hlen : l.length ≤ 4000000000000) (hby : bytesOps l ≤ 281474976710656) :
    Calls Try.prog 19 #[v] w fun e w' => e = .returned (.int .i64 (sizeOps l)) ∧ Below w.heap.size w w' := by
  obtain ⟨A, c, rfl, hlc, hcm, hr⟩ := hv
  have hcm' : c ≤ 9223372036854775807 := by unfold maxLen at hcm; omega
  clear hcm
  have hso := sizeOps_bytes l
  have HS0 := Lib.hid hso
  clear hso
  go_enter Try.func19, Try.ntmps19
  go_wp2
  go_loopw [3, 4] (fun s i wr => ∃ k : Nat, i = .int .i64 k ∧ k ≤ l.length ∧ s = .int .i64 ((sizeOps (l.take k) : Nat) : Int) ∧ Below w.heap.size w wr) (fun _ i _ => l.length - (intOf i).toNat)
  case atStart => exact ⟨0, rfl, Nat.zero_le _, by simp [sizeOps], Below.refl _ _⟩
  case round =>
    obtain ⟨k, rfl, hk, rfl, hbr⟩ := hrel
    by_cases hlt : k < l.length
    · obtain ⟨b, o, rfl, hb, c0, c1, c2⟩ := (hr.below hbr).op rfl hlt
      have hsn := sizeOps_take l k hlt
      have hle := sizeOps_take_le l (k + 1)
      have h0 := HS0.out
      obtain ⟨x, hx⟩ : ∃ x, x = l[k] := ⟨_, rfl⟩
      rw [← hx] at c0 c1 c2 hsn
      have htl : sizeOps (l.take k) + (x.user.size + x.value.size + 8) ≤ 314474976710656 := by omega
      have HS := Lib.hid hsn
      clear hx hsn hle h0
      go_wp2
      go_quiet (fail)
      go_wp2
      go_roundw
      case rel =>
        refine ⟨k + 1, by go_num, by omega, ?_, ?_⟩
        · rw [HS.out]
          go_num
        · exact hbr.trans ⟨rfl, rfl, rfl, Nat.le_refl _, fun _ _ => rfl⟩
      case measure => simp [intOf]; omega
    · go_wp2
      go_ret
      refine ⟨?_, hbr⟩
      rw [List.take_of_length_le (by omega)]
      rfl

set_option maxHeartbeats 1000000 in
theorem rEntries_any (seq : UInt64) (v : Value) (l : List Opn) (w : World) (hv : SO w w.heap.size v l) (hlen : l.length ≤ 4000000000000) :
    Calls Try.prog 17 #[.int .u64 (seq.toNat : Int), v] w fun e w' => ∃ r, e = .returned r ∧ OE w' w.heap.size r (entsFrom seq l) ∧ Below w.heap.size w w' := by
  have hs := u64_lt seq
  obtain ⟨A, c, rfl, hlc, hcm, hr⟩ := hv
  have hcm' : c ≤ 9223372036854775807 := by unfold maxLen at hcm; omega
  clear hcm
  go_enter Try.func17, Try.ntmps17
  go_wp2
  go_loopw [5, 6] (fun x i wr => ∃ k : Nat, i = .int .i64 k ∧ k ≤ l.length ∧ OE wr w.heap.size x (entsFrom seq (l.take k)) ∧ Below w.heap.size w wr) (fun _ i _ => l.length - (intOf i).toNat)
  case atStart => exact ⟨0, rfl, Nat.zero_le _, OE.nil_ _ _, Below.refl _ _⟩
  case round =>
    obtain ⟨k, rfl, hk, hown, hbr⟩ := hrel
    have hsz := hbr.size
    by_cases hlt : k < l.length
    · obtain ⟨b, o, rfl, hb, c0, c1, c2⟩ := (hr.below hbr).op rfl hlt
      have hsn := entsFrom_take seq l k hlt
      have htl : (entsFrom seq (l.take k)).length ≤ k := by rw [entsFrom_length, List.length_take]; omega
      obtain ⟨x, hx⟩ : ∃ x, x = l[k] := ⟨_, rfl⟩
      rw [← hx] at c0 c1 c2 hsn
      have HS := Lib.hid hsn
      clear hx hsn
      have ha := u64_addk seq k (by omega)
      go_wp2
      go_region_held3 (fun w' => w'.cell? ⟨b, o + k * 3, none⟩ = some (.int .u8 (x.kind.toNat : Int)) ∧ w'.cell? ⟨b, o + k * 3 + 1, none⟩ = some (.string x.user) ∧ w'.cell? ⟨b, o + k * 3 + 2, none⟩ = some (.string x.value))
        (first
          | go_keep
          | (go_split_ands
             refine ⟨?_, ?_, ?_⟩
             all_goals (rw [hb2.cell (by simp; omega)]; assumption)))
        ((refine st_appEs rfl (.tmp 13) (.tmp 34) rfl w.heap.size _ _ rfl (hown.alloc _).drew (wr.heap.size + 1) _ [entAt (seq + UInt64.ofNat k) x] rfl (SE.newAt (entAt (seq + UInt64.ofNat k) x) rfl (by omega)).drew (by simp only [maxLen, List.length_cons, List.length_nil]; omega) (Fits.one _ _ (by omega)) (by simp; omega) ?_; intro v2 w2 hown2 _ _ hb2))
      go_wp2
      go_roundw
      case rel => exact ⟨k + 1, by go_num, by omega, by rw [HS.out]; exact hown2, (balloc hbr _).drew.trans hb2⟩
      case measure => simp [intOf]; omega
    · go_wp2
      go_ret
      refine ⟨_, rfl, ?_, hbr⟩
      rw [List.take_of_length_le (by omega)] at hown
      exact hown
end Go.Proofs.Ytkioalfmffamhaa
