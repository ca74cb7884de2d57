/-
  What is proved here: the call of the statement BlockOnce returns true and turns nothing that was there. Conditions: the texts' lengths.
-/
import Derived.Test.YtoccmedadiangaaBlockLawsW
namespace Go.Proofs.Ytoccmedadiangaa
open Go.RowKit

def everies : List Nat := [1, 2, 3, 4, 5, 7, 16, 64, 127, 128, 1023, 1024]
/-- how many of the first k numbers build those bytes -/
def cntE (b : List UInt8) (l : List Ent) (k : Nat) : Nat := (everies.take k).countP (fun c : Nat => decide (buildB (c : Int) l = (b, 0)))
theorem cntE_step (b : List UInt8) (l : List Ent) (k : Nat) (hk : k < everies.length) : cntE b l (k + 1) = cntE b l k + (if buildB (everies[k] : Int) l = (b, 0) then 1 else 0) := by
  unfold cntE
  rw [List.take_succ_eq_append_getElem hk, List.countP_append, List.countP_singleton]
  simp
theorem cntE_le (b : List UInt8) (l : List Ent) (k : Nat) : cntE b l k ≤ 12 := by
  unfold cntE
  have h1 := List.countP_le_length (p := fun c : Nat => decide (buildB (c : Int) l = (b, 0))) (l := everies.take k)
  have h2 : (everies.take k).length ≤ 12 := by rw [List.length_take]; exact Nat.min_le_right _ _
  omega
theorem cntE_one (b : List UInt8) (l : List Ent) : cntE b l 12 ≤ 1 := by
  unfold cntE
  have h1 : (everies.take 12).countP (fun c : Nat => decide (buildB (c : Int) l = (b, 0))) ≤ (everies.take 12).countP (fun c : Nat => c == (sNum (b, 0)).1) := by
    refine List.countP_mono_left fun c _ h => ?_
    have h2 := build_every (of_decide_eq_true h)
    simp only [beq_iff_eq]
    omega
  have h2 : (everies.take 12).Nodup := by decide
  have h3 := List.nodup_iff_count.1 h2 (sNum (b, 0)).1
  unfold List.count at h3
  omega
theorem readB_cases (b : List UInt8) : (∃ l, readB b = (l, 0)) ∨ readB b = ([], 100) := by
  by_cases h : (readB b).2 = 0
  · exact .inl ⟨(readB b).1, by rw [← h]⟩
  · exact .inr (readB_bad h)
abbrev evO : Obj := .cells #[.int .i64 1, .int .i64 2, .int .i64 3, .int .i64 4, .int .i64 5, .int .i64 7, .int .i64 16, .int .i64 64, .int .i64 127, .int .i64 128, .int .i64 1023, .int .i64 1024] 3 (0, 0)
theorem ev_cell {w : World} {g k : Nat} (h : w.heap[g]? = some evO) (hk : k < everies.length) : w.cell? ⟨g, k, none⟩ = some (.int .i64 (everies[k] : Int)) := by
  rw [cell_of_row _ _ k _ _ _ h]
  have : ∀ k (hk : k < everies.length), (#[.int .i64 1, .int .i64 2, .int .i64 3, .int .i64 4, .int .i64 5, .int .i64 7, .int .i64 16, .int .i64 64, .int .i64 127, .int .i64 128, .int .i64 1023, .int .i64 1024] : Array Value)[k]? = some (.int .i64 (everies[k] : Int)) := by
    intro k hk
    match k, hk with
    | 0, _ | 1, _ | 2, _ | 3, _ | 4, _ | 5, _ | 6, _ | 7, _ | 8, _ | 9, _ | 10, _ | 11, _ => rfl
    | k + 12, hk => exact absurd hk (by simp [everies])
  exact this k hk
theorem ev_range : ∀ k (hk : k < everies.length), 1 ≤ everies[k] ∧ everies[k] ≤ 1024 := by decide
set_option maxRecDepth 100000 in
set_option maxHeartbeats 2000000 in
theorem blockOnce_any (v : Value) (b : List UInt8) (w : World) (hv : SB w w.heap.size v b) :
    Calls Try.prog 6 #[v] w fun e w' => e = .returned (.bool true) ∧ Below w.heap.size w w' := by
  have hv0 := Lib.hid hv
  obtain ⟨A, c, rfl, hlc, hcm, hr⟩ := hv
  have hcm' : c ≤ 9223372036854775807 := by unfold maxLen at hcm; omega
  clear hr hcm
  by_cases hl : 100000 < b.length
  · go_enter Try.func6, Try.ntmps6
    go_wp2_with fail
    refine (shown_any w).mono ?_
    rintro e w1 ⟨rfl, b1⟩
    go_wp2_with fail
    go_ret
    exact ⟨rfl, b1⟩
  · rcases readB_cases b with ⟨l, hrb⟩ | hrb
    · have HRB := Lib.hid hrb
      obtain ⟨hq1, hq2, hq3, hq4, hq5, hq6⟩ := buildB_ok (readB_ok hrb)
      have hz : ∀ e ∈ l, e.user.size ≤ 9223372036854775807 ∧ e.value.size ≤ 9223372036854775807 := fun e he => by
        have := rightE_le ((rightL_all hq3).2 e he)
        omega
      have HZ := Lib.hid hz
      clear hq1 hq2 hq3 hq4 hq5 hz hrb
      go_enter Try.func6, Try.ntmps6
      go_wp2_with fail
      refine (shown_any w).mono ?_
      rintro e w1 ⟨rfl, b1⟩
      go_wp2_with fail
      refine (kRead_is (hv0.out.on b1) (by omega) HRB.out 0 rfl).mono ?_
      rintro e w2 ⟨r2, rfl, ho2, hb2⟩
      have b2 := bstep b1 hb2
      have s2 := ho2.se
      obtain ⟨W0, hW0⟩ : ∃ W0, W0 = w2.alloc (.cells #[.int .i64 1, .int .i64 2, .int .i64 3, .int .i64 4, .int .i64 5, .int .i64 7, .int .i64 16, .int .i64 64, .int .i64 127, .int .i64 128, .int .i64 1023, .int .i64 1024] 3) := ⟨_, rfl⟩
      have hrow : W0.heap[w2.heap.size]? = some evO := by rw [hW0]; exact heap_alloc_new w2 _
      have b0 : Below w.heap.size w W0 := by rw [hW0]; exact balloc b2 _
      have s0 : SE W0 W0.heap.size r2 l := by rw [hW0]; exact s2.on (balloc (bself w2) _)
      have sb0 : SB W0 W0.heap.size (.slice A b.length c) b := hv0.out.on b0
      have hg0 : w2.heap.size < W0.heap.size := (Array.getElem?_eq_some_iff.1 hrow).1
      clear hb2 ho2 s2 b2
      go_wp2_with fail
      rw [← hW0]
      clear hW0
      go_loopw [6, 31] (fun n i wr => ∃ k : Nat, i = .int .i64 k ∧ k ≤ 12 ∧ n = .int .i64 (cntE b l k : Nat) ∧ Below W0.heap.size W0 wr) (fun _ i _ => 12 - (intOf i).toNat)
      case atStart => exact ⟨0, rfl, Nat.zero_le _, by rw [show cntE b l 0 = 0 from rfl]; rfl, Below.refl _ _⟩
      case round =>
        obtain ⟨k, rfl, hk, rfl, hbr⟩ := hrel
        by_cases hlt : k < 12
        · have c0 := ev_cell ((hbr.block _ hg0).trans hrow) (k := k) hlt
          have hstep := cntE_step b l k hlt
          have hmle := cntE_le b l k
          obtain ⟨h1, h2⟩ := ev_range k hlt
          obtain ⟨cv, hcv⟩ : ∃ cv, cv = everies[k] := ⟨_, rfl⟩
          rw [← hcv] at c0 hstep h1 h2
          clear hcv
          obtain ⟨m, hm⟩ : ∃ m, m = cntE b l k := ⟨_, rfl⟩
          rw [← hm] at hstep hmle ⊢
          have HS := Lib.hid hstep
          clear hm hstep
          have gn : IntKind.i64.wrap ((m : Int) + 1) = ((m + 1 : Nat) : Int) := by rw [IntKind.wrap_i64]; omega
          rcases build_cases cv l h1 h2 with ⟨_, ⟨bs, hA⟩ | hA⟩ | ⟨_, hA⟩
          · have A1 := Lib.hid (kBuild_is (w := wr) (s0.on hbr) (by omega) HZ.out (by omega) (by omega) hA 0 rfl)
            by_cases hbb : bs = b
            · have HS2 : Hid (cntE b l (k + 1) = m + 1) := Lib.hid (by rw [HS.out, hA, hbb, if_pos rfl])
              subst hbb
              clear hA HS
              go_wp2_with fail
              refine A1.out.mono ?_
              rintro e w3 ⟨r3, rfl, ho3, hb3⟩
              have b3 := bstep hbr hb3
              have s3 := ho3.sb
              have sb3 := sb0.on b3
              clear ho3 A1
              go_wp2_with (first
                | (refine wl_b2s (o := ⟨some 45, _, _, _, _, _⟩) rfl (.tmp 44) rfl r3 rfl _ _ s3 ?_)
                | (refine wl_b2s (o := ⟨some 47, _, _, _, _, _⟩) rfl (.tmp 46) rfl _ rfl _ _ sb3 ?_))
              go_roundw
              case rel => exact ⟨k + 1, by go_num, by omega, by first | (rw [HS2.out]; done) | (rw [HS2.out]; rfl) | (rw [HS2.out]; go_num), b3⟩
              case measure => simp [intOf]; omega
            · have HS2 : Hid (cntE b l (k + 1) = m) := Lib.hid (by rw [HS.out, hA, if_neg (fun e => hbb (congrArg Prod.fst e))]; rfl)
              clear hA HS
              have hbe : (bs == b) = false := by simp [hbb]
              clear hbb
              go_wp2_with fail
              refine A1.out.mono ?_
              rintro e w3 ⟨r3, rfl, ho3, hb3⟩
              have b3 := bstep hbr hb3
              have s3 := ho3.sb
              have sb3 := sb0.on b3
              clear ho3 A1
              go_wp2_with (first
                | (refine wl_b2s (o := ⟨some 45, _, _, _, _, _⟩) rfl (.tmp 44) rfl r3 rfl _ _ s3 ?_)
                | (refine wl_b2s (o := ⟨some 47, _, _, _, _, _⟩) rfl (.tmp 46) rfl _ rfl _ _ sb3 ?_))
              go_roundw
              case rel => exact ⟨k + 1, by go_num, by omega, by first | (rw [HS2.out]; done) | (rw [HS2.out]; rfl) | (rw [HS2.out]; go_num), b3⟩
              case measure => simp [intOf]; omega
          · have A1 := Lib.hid (kBuild_is (w := wr) (s0.on hbr) (by omega) HZ.out (by omega) (by omega) hA 4 rfl)
            have HS2 : Hid (cntE b l (k + 1) = m) := Lib.hid (by rw [HS.out, hA, if_neg (fun e => by have := congrArg Prod.snd e; simp at this)]; rfl)
            clear hA HS
            go_wp2_with fail
            refine A1.out.mono ?_
            rintro e w3 ⟨r3, rfl, ho3, hb3⟩
            have b3 := bstep hbr hb3
            go_wp2_with fail
            go_roundw
            case rel => exact ⟨k + 1, by go_num, by omega, by first | (rw [HS2.out]; done) | (rw [HS2.out]; rfl) | (rw [HS2.out]; go_num), b3⟩
            case measure => simp [intOf]; omega
          · have A1 := Lib.hid (kBuild_is (w := wr) (s0.on hbr) (by omega) HZ.out (by omega) (by omega) hA 1 rfl)
            have HS2 : Hid (cntE b l (k + 1) = m) := Lib.hid (by rw [HS.out, hA, if_neg (fun e => by have := congrArg Prod.snd e; simp at this)]; rfl)
            clear hA HS
            go_wp2_with fail
            refine A1.out.mono ?_
            rintro e w3 ⟨r3, rfl, ho3, hb3⟩
            have b3 := bstep hbr hb3
            go_wp2_with fail
            go_roundw
            case rel => exact ⟨k + 1, by go_num, by omega, by first | (rw [HS2.out]; done) | (rw [HS2.out]; rfl) | (rw [HS2.out]; go_num), b3⟩
            case measure => simp [intOf]; omega
        · have hk12 : k = 12 := by omega
          subst hk12
          have hone := cntE_one b l
          obtain ⟨m, hm⟩ : ∃ m, m = cntE b l 12 := ⟨_, rfl⟩
          rw [← hm] at hone ⊢
          clear hm
          have hm2 : decide ((m : Int) ≤ 1) = true := by simp; omega
          go_wp2_with fail
          go_ret
          exact ⟨rfl, bstep b0 hbr⟩
    · have HRB := Lib.hid hrb
      clear hrb
      go_enter Try.func6, Try.ntmps6
      go_wp2_with fail
      refine (shown_any w).mono ?_
      rintro e w1 ⟨rfl, b1⟩
      go_wp2_with fail
      refine (kRead_is (hv0.out.on b1) (by omega) HRB.out 100 rfl).mono ?_
      rintro e w2 ⟨r2, rfl, ho2, hb2⟩
      have b2 := bstep b1 hb2
      obtain ⟨A2, c2, rfl, _, _, _⟩ := ho2.se
      go_wp2_with fail
      go_ret
      exact ⟨rfl, b2⟩
end Go.Proofs.Ytoccmedadiangaa
