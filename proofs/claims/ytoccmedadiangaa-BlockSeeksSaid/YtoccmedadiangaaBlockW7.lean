/-
  What is proved here: what text of package block comes to, at this seat's numbers. Condition: so many bytes are there.
-/
import Derived.Test.YtoccmedadiangaaBlockW6
import Derived.Laws.OwnMore
namespace Go.Proofs.Ytoccmedadiangaa
open Go.RowKit

/-- a text on the way -/
def txUp (l : List UInt8) (n k : Nat) : List UInt8 := l.take k ++ List.replicate (n - k) 0
theorem txUp_len {l : List UInt8} {n k : Nat} (hn : n ≤ l.length) (hk : k ≤ n) : (txUp l n k).length = n := by unfold txUp; simp; omega
theorem txUp_0 (l : List UInt8) (n : Nat) : txUp l n 0 = List.replicate n 0 := by simp [txUp]
theorem txUp_n (l : List UInt8) (n : Nat) : txUp l n n = l.take n := by simp [txUp]
theorem txUp_step {l : List UInt8} {n k : Nat} (hn : n ≤ l.length) (hk : k < n) : (txUp l n k).set k (l[k]'(by omega)) = txUp l n (k + 1) := by
  have ht : l.take (k + 1) = l.take k ++ [l[k]'(by omega)] := by rw [List.take_succ_eq_append_getElem (by omega)]
  unfold txUp
  rw [ht, List.set_append_right _ _ (by rw [List.length_take]; omega), List.length_take, Nat.min_eq_left (by omega), Nat.sub_self, show n - k = (n - (k + 1)) + 1 from by omega, List.replicate_succ, List.set_cons_zero, List.append_assoc]
  rfl
theorem sFix_1 (l : List UInt8) (k : Nat) (hk : k < l.length) : sFix 1 (l.drop k, 0) = ((l[k]).toNat, l.drop (k + 1), 0) := by
  unfold sFix
  rw [if_neg (by simp), if_neg (by omega), if_neg (by simp only [List.length_drop]; omega)]
  show (leN ((l.drop k).take 1), (l.drop k).drop 1, 0) = _
  rw [List.drop_drop, List.drop_eq_getElem_cons hk, List.take_succ_cons, List.take_zero, leN, leN]
  simp
abbrev rowU (l : List UInt8) : Obj := .cells (bv l).toArray 5 (0, 0)
theorem bu_cell {w : World} {D : Nat} {l : List UInt8} (h : w.heap[D]? = some (rowU l)) {k : Nat} (hk : k < l.length) :
    w.cell? ⟨D, k, none⟩ = some (u8v l[k]) ∧ w.frozen? ⟨D, k, none⟩ = false ∧ ∀ b : UInt8, (w.setCell ⟨D, k, none⟩ (u8v b)).heap[D]? = some (rowU (l.set k b)) := by
  refine ⟨?_, by simp [World.frozen?, h], fun b => ?_⟩
  · rw [cell_of_row _ _ k _ _ _ h]
    have := bv_get l k hk
    simpa using this
  · simp only [World.setCell, Array.getElem?_modify, h]
    simp [bv, List.map_set]
theorem sb_row {w : World} {g n B : Nat} {l : List UInt8} (h : w.heap[g]? = some (rowU l)) (hB : g < B) (hn : l.length = n) (hm : n ≤ maxLen) : SB w B (.slice (some ⟨g, 0, none⟩) n n) l := by
  subst hn
  refine ⟨_, _, rfl, Nat.le_refl _, hm, by rw [bv_length, Nat.mul_one], (fun h => by cases h), fun ad e _ => ?_⟩
  injection e with e
  subst e
  refine ⟨rfl, hB, fun j u hu => ?_⟩
  have h2 := cell_of_row w g (0 + j) _ _ _ h
  rw [h2, Nat.zero_add]
  simpa using hu
theorem grown_beside {w w2 : World} {R M k : Nat} {u : Value} (h : w.grownBy w2 (some R)) (hM : w.heap.size ≤ M) : w.grownBy (w2.setCell ⟨M, k, none⟩ u) (some R) :=
  ⟨h.os, h.tape, h.output, by simpa using h.size, fun x hx hne => (Below.heap_setCell _ _ _ _ (by show x ≠ M; omega)).trans (h.block x hx hne)⟩
theorem mk_text (w : World) (n : Nat) (hn : n ≤ 140737488355328) : ∃ w', (Instr.makeSlice 25 (.int .u64 (n : Int)) (.int .u64 (n : Int))).run Try.prog w = .ok (.slice (some ⟨w.heap.size, 0, none⟩) n n) w' ∧ w'.heap[w.heap.size]? = some (rowU (List.replicate n 0)) ∧ w.grownBy w' none := by
  obtain ⟨i0, hi0, hz0, hz1, hz2⟩ := info_parts infoB
  obtain ⟨w', h1, h2, h3⟩ := run_make_full (P := Try.prog) w w.heap.size 25 5 i0 _ 1 Try.underlying25 hi0 hz0 hz1 .u64 .u64 n (by rw [hz2]; omega) (by simp only [maxLen]; omega) (Nat.le_refl _)
  refine ⟨w', h1, ?_, h3⟩
  rw [show (Value.int .u8 0).cells = #[.int .u8 0] from rfl, toList_madeCells_one, Nat.mul_one] at h2
  have hh := run_make (P := Try.prog) w 25 5 i0 _ Try.underlying25 hi0 hz0 .u64 .u64 (n : Int) (n : Int) (by omega) (Int.le_refl _) (by rw [hz2]; omega) (by omega)
  rw [h1] at hh
  injection hh with _ hw
  rw [hw, heap_alloc_new]
  rw [hz1, Int.toNat_natCast, Nat.mul_one]
  congr 2
  apply Array.toList_inj.1
  rw [show (Value.int .u8 0).cells = #[.int .u8 0] from rfl, toList_madeCells_one]
  simp [bv, u8v]
set_option maxRecDepth 100000 in
set_option maxHeartbeats 1000000 in
theorem kText_any (R : Nat) (rest : List UInt8) (n : Nat) (w : World) (h : RdrAt w R rest 0) (hn : n ≤ rest.length) (hl : rest.length ≤ 140737488355328) :
    Calls Try.prog 48 #[.pointer (some ⟨R, 0, none⟩), .int .u64 (n : Int)] w fun e w' => e = .returned (.string ⟨(rest.take n).toArray⟩) ∧ RdrAt w' R (rest.drop n) 0 ∧ w.grownBy w' (some R) := by
  obtain ⟨w1, hm1, hr1, hg1⟩ := mk_text w n (by omega)
  have hRlt := h.lt
  have h1 : RdrAt w1 R rest 0 := h.far hg1 (fun g e => by cases e)
  have z1 : w.heap.size < w1.heap.size := (Array.getElem?_eq_some_iff.1 hr1).1
  have HM := Lib.hid (fun W k (hk : k < rest.length) (hr : RdrAt W R (rest.drop k) 0) => (show Calls Try.prog 53 #[.pointer (some ⟨R, 0, none⟩), .int .i64 1] W fun e w' => e = .returned (.int .u64 ((rest[k]).toNat : Int)) ∧ RdrAt w' R (rest.drop (k + 1)) 0 ∧ W.grownBy w' (some R) from by
    have h := mFix_any R _ 0 1 W hr (by omega) (by omega)
    rw [sFix_1 rest k hk] at h
    exact h))
  go_enter Try.func48, Try.ntmps48
  go_wp2
  clear hm1
  go_loopw [6, 11] (fun _ i wr => ∃ k : Nat, i = .int .i64 k ∧ k ≤ n ∧ Hid (wr.heap[w.heap.size]? = some (rowU (txUp rest n k)) ∧ RdrAt wr R (rest.drop k) 0 ∧ w.grownBy wr (some R))) (fun _ i _ => n - (intOf i).toNat)
  case atStart => exact ⟨0, rfl, Nat.zero_le _, Lib.hid ⟨by rw [txUp_0]; exact hr1, h1, ⟨hg1.os, hg1.tape, hg1.output, hg1.size, fun k hk _ => hg1.block k hk (by simp)⟩⟩⟩
  case round =>
    obtain ⟨k, rfl, hk, hH⟩ := hrel
    by_cases hlt : k < n
    · have hk2 : k < rest.length := by omega
      have hc := HM.out wr k hk2 hH.out.2.1
      obtain ⟨x, hx⟩ : ∃ x, x = rest[k] := ⟨_, rfl⟩
      rw [← hx] at hc
      have HX := Lib.hid hx
      have HC := Lib.hid hc
      have hzr : w.heap.size < wr.heap.size := (Array.getElem?_eq_some_iff.1 hH.out.1).1
      have HA : Hid (∀ w2, RdrAt w2 R (rest.drop (k + 1)) 0 → wr.grownBy w2 (some R) → ((∃ u, w2.cell? ⟨w.heap.size, k, none⟩ = some (u8v u)) ∧ w2.frozen? ⟨w.heap.size, k, none⟩ = false) ∧ ((w2.setCell ⟨w.heap.size, k, none⟩ (.int .u8 (x.toNat : Int))).heap[w.heap.size]? = some (rowU (txUp rest n (k + 1))) ∧ RdrAt (w2.setCell ⟨w.heap.size, k, none⟩ (.int .u8 (x.toNat : Int))) R (rest.drop (k + 1)) 0 ∧ w.grownBy (w2.setCell ⟨w.heap.size, k, none⟩ (.int .u8 (x.toNat : Int))) (some R))) := Lib.hid (fun w2 hr2 hg2 => by
        have hM2 : w2.heap[w.heap.size]? = some (rowU (txUp rest n k)) := (hg2.block _ hzr (fun e => by injection e with e; omega)).trans hH.out.1
        obtain ⟨c0, f0, hset⟩ := bu_cell hM2 (k := k) (by rw [txUp_len hn (by omega)]; exact hlt)
        refine ⟨⟨⟨_, c0⟩, f0⟩, ?_, hr2.far (grown_set (p := ⟨w.heap.size, k, none⟩) w2 rfl _) (fun g e => by have e2 : w.heap.size = g := (by injection e); omega), grown_beside (hH.out.2.2.trans hg2) (Nat.le_refl _)⟩
        rw [← txUp_step hn hlt, ← HX.out]
        exact hset x)
      have gx : (x.toNat : Int) % 256 = (x.toNat : Int) := by have := u8_lt x; omega
      clear hc hx hH HM
      go_wp2_with (go_at_call 53; refine HC.out.mono ?_; rintro _ w2 ⟨rfl, hr2, hg2⟩; obtain ⟨⟨⟨u0, c0⟩, f0⟩, h9⟩ := HA.out w2 hr2 hg2)
      go_roundw
      case rel => exact ⟨k + 1, by go_num, by omega, Lib.hid h9⟩
      case measure => simp [intOf]; omega
    · have hkn : k = n := by omega
      subst hkn
      obtain ⟨hM, hrd, hg⟩ := hH.out
      rw [txUp_n] at hM
      have hs : SB wr wr.heap.size (.slice (some ⟨w.heap.size, 0, none⟩) k k) (rest.take k) := sb_row hM (Array.getElem?_eq_some_iff.1 hM).1 (by rw [List.length_take]; omega) (by simp only [maxLen]; omega)
      go_wp2_with (refine wl_b2s (o := ⟨some 22, _, _, _, _, _⟩) rfl (.tmp 21) rfl _ rfl _ _ hs ?_)
      go_ret
      exact ⟨rfl, hrd, hg⟩
end Go.Proofs.Ytoccmedadiangaa
