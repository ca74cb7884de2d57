/-
  What is proved here: Build and Read of package block by their answers; the call of the statement BlockEvery returns true and turns nothing that was there. Conditions: the texts' lengths.
-/
import Derived.Test.YtoccmedadiangaaBlockW11
import Derived.Test.YtoccmedadiangaaShown10
import Derived.Test.YtoccmedadiangaaSameW
namespace Go.Proofs.Ytoccmedadiangaa
open Go.RowKit

theorem kBuild_is {v : Value} {l : List Ent} {ev : Int} {w : World} (hv : SE w w.heap.size v l) (hl : l.length ≤ 140737488351232) (hz : ∀ e ∈ l, e.user.size ≤ 9223372036854775807 ∧ e.value.size ≤ 9223372036854775807) (he1 : -9223372036854775808 ≤ ev) (he2 : ev ≤ 9223372036854775807) {bs : List UInt8} {f : Nat} (h : buildB ev l = (bs, f)) (fi : Int) (hf : (f : Int) = fi) :
    Calls Try.prog 11 #[v, .int .i64 ev] w fun en w' => ∃ v, en = .returned (.tuple #[v, .int .i64 fi]) ∧ OB w' w.heap.size v bs ∧ Below w.heap.size w w' := by
  have hk := kBuild_any v l ev w hv hl hz he1 he2
  rw [h] at hk
  subst hf
  exact hk
theorem kRead_is {v : Value} {b : List UInt8} {w : World} (hv : SB w w.heap.size v b) (hl : b.length ≤ 1073741824) {l : List Ent} {f : Nat} (h : readB b = (l, f)) (fi : Int) (hf : (f : Int) = fi) :
    Calls Try.prog 13 #[v] w fun en w' => ∃ v, en = .returned (.tuple #[v, .int .i64 fi]) ∧ OE w' w.heap.size v l ∧ Below w.heap.size w w' := by
  have hk := kRead_any v b w hv hl
  rw [h] at hk
  subst hf
  exact hk
/-- the three answers of Build, its every in the range -/
theorem build_cases (ev : Nat) (l : List Ent) (h1 : 1 ≤ ev) (h2 : ev ≤ 1024) :
    (rightL l = true ∧ ((∃ bs, buildB (ev : Int) l = (bs, 0)) ∨ buildB (ev : Int) l = ([], 4))) ∨ (rightL l = false ∧ buildB (ev : Int) l = ([], 1)) := by
  cases hr : rightL l with
  | false => exact .inr ⟨rfl, build_arg (fun h => by rw [hr] at h; cases h.2.2)⟩
  | true =>
    refine .inl ⟨rfl, ?_⟩
    rw [build_end ⟨h1, h2, hr⟩]
    split
    · exact .inr rfl
    · exact .inl ⟨_, rfl⟩
set_option maxRecDepth 100000 in
set_option maxHeartbeats 2000000 in
theorem blockEvery_any (v : Value) (l : List Ent) (x y : UInt16) (w : World) (hv : SE w w.heap.size v l) (hl : l.length ≤ 140737488351232) (hz : ∀ e ∈ l, e.user.size ≤ 9223372036854775807 ∧ e.value.size ≤ 9223372036854775807) :
    Calls Try.prog 7 #[v, .int .u16 (x.toNat : Int), .int .u16 (y.toNat : Int)] w fun e w' => e = .returned (.bool true) ∧ Below w.heap.size w w' := by
  have HL := Lib.hid (fun w1 (hb : Below w.heap.size w w1) => light_any v l w1 (hv.on hb) hz)
  obtain ⟨a, ha⟩ : ∃ a, a = x.toNat % 1024 + 1 := ⟨_, rfl⟩
  obtain ⟨c, hc⟩ : ∃ c, c = y.toNat % 1024 + 1 := ⟨_, rfl⟩
  have ga : (x.toNat : Int) % 1024 + 1 = (a : Int) := by omega
  have gc : (y.toNat : Int) % 1024 + 1 = (c : Int) := by omega
  have ha1 : 1 ≤ a := by omega
  have ha2 : a ≤ 1024 := by omega
  have hc1 : 1 ≤ c := by omega
  have hc2 : c ≤ 1024 := by omega
  clear ha hc
  have HK := fun w1 (hb : Below w.heap.size w w1) (ev : Nat) (he : ev ≤ 1024) {bs : List UInt8} {f : Nat} (h : buildB (ev : Int) l = (bs, f)) => kBuild_is (w := w1) (hv.on hb) hl hz (by omega) (by omega) h
  go_enter Try.func7, Try.ntmps7
  go_wp2_with fail
  refine (shown_any w).mono ?_
  rintro e w1 ⟨rfl, b1⟩
  go_wp2_with fail
  refine (HL.out w1 b1).mono ?_
  rintro e w2 ⟨rfl, hb2⟩
  have b2 := bstep b1 hb2
  cases hlb : lightB l with
  | true =>
    rcases build_cases a l ha1 ha2 with ⟨hr, ⟨bs, hA⟩ | hA⟩ | ⟨hr, hA⟩
    · rcases build_cases c l hc1 hc2 with ⟨hr2, ⟨cs, hC⟩ | hC⟩ | ⟨hr2, hC⟩
      · have hbl := (buildB_ok hA).2.2.2.2.1
        have hcl := (buildB_ok hC).2.2.2.2.1
        have hRA := Lib.hid (readB_back hA)
        have hRC := Lib.hid (readB_back hC)
        have A1 := Lib.hid (fun w1 hb => HK w1 hb a ha2 hA 0 rfl)
        have C1 := Lib.hid (fun w1 hb => HK w1 hb c hc2 hC 0 rfl)
        clear HK hA hC
        go_wp2_with fail
        refine (A1.out _ b2).mono ?_
        rintro e w3 ⟨r3, rfl, ho3, hb3⟩
        have b3 := bstep b2 hb3
        go_wp2_with fail
        refine (C1.out _ b3).mono ?_
        rintro e w4 ⟨r4, rfl, ho4, hb4⟩
        have b4 := bstep b3 hb4
        have s3 := ho3.sb.on hb4
        have s4 := ho4.sb
        clear ho3 ho4
        go_wp2_with fail
        refine (kRead_is s3 (by omega) hRA.out 0 rfl).mono ?_
        rintro e w5 ⟨r5, rfl, ho5, hb5⟩
        have b5 := bstep b4 hb5
        go_wp2_with fail
        refine (kRead_is (s4.on hb5) (by omega) hRC.out 0 rfl).mono ?_
        rintro e w6 ⟨r6, rfl, ho6, hb6⟩
        have b6 := bstep b5 hb6
        have HS := Lib.hid (rSame_true r5 r6 l w6 (ho5.se.on hb6) ho6.se)
        clear ho5 ho6 s3 s4
        go_wp2_with (go_at_call 15; refine HS.out.mono ?_; rintro _ w7 ⟨rfl, hb7⟩)
        go_ret
        exact ⟨rfl, bstep b6 hb7⟩
      · skip
        have A1 := Lib.hid (fun w1 hb => HK w1 hb a ha2 hA 0 rfl)
        have C1 := Lib.hid (fun w1 hb => HK w1 hb c hc2 hC 4 rfl)
        clear HK hA hC
        go_wp2_with fail
        refine (A1.out _ b2).mono ?_
        rintro e w3 ⟨r3, rfl, ho3, hb3⟩
        have b3 := bstep b2 hb3
        go_wp2_with fail
        refine (C1.out _ b3).mono ?_
        rintro e w4 ⟨r4, rfl, ho4, hb4⟩
        have b4 := bstep b3 hb4
        go_wp2_with fail
        go_ret
        exact ⟨rfl, b4⟩
      · rw [hr] at hr2
        cases hr2
    · rcases build_cases c l hc1 hc2 with ⟨hr2, ⟨cs, hC⟩ | hC⟩ | ⟨hr2, hC⟩
      · skip
        have A1 := Lib.hid (fun w1 hb => HK w1 hb a ha2 hA 4 rfl)
        have C1 := Lib.hid (fun w1 hb => HK w1 hb c hc2 hC 0 rfl)
        clear HK hA hC
        go_wp2_with fail
        refine (A1.out _ b2).mono ?_
        rintro e w3 ⟨r3, rfl, ho3, hb3⟩
        have b3 := bstep b2 hb3
        go_wp2_with fail
        refine (C1.out _ b3).mono ?_
        rintro e w4 ⟨r4, rfl, ho4, hb4⟩
        have b4 := bstep b3 hb4
        go_wp2_with fail
        go_ret
        exact ⟨rfl, b4⟩
      · skip
        have A1 := Lib.hid (fun w1 hb => HK w1 hb a ha2 hA 4 rfl)
        have C1 := Lib.hid (fun w1 hb => HK w1 hb c hc2 hC 4 rfl)
        clear HK hA hC
        go_wp2_with fail
        refine (A1.out _ b2).mono ?_
        rintro e w3 ⟨r3, rfl, ho3, hb3⟩
        have b3 := bstep b2 hb3
        go_wp2_with fail
        refine (C1.out _ b3).mono ?_
        rintro e w4 ⟨r4, rfl, ho4, hb4⟩
        have b4 := bstep b3 hb4
        go_wp2_with fail
        go_ret
        exact ⟨rfl, b4⟩
      · rw [hr] at hr2
        cases hr2
    · rcases build_cases c l hc1 hc2 with ⟨hr2, ⟨cs, hC⟩ | hC⟩ | ⟨hr2, hC⟩
      · rw [hr] at hr2
        cases hr2
      · rw [hr] at hr2
        cases hr2
      · skip
        have A1 := Lib.hid (fun w1 hb => HK w1 hb a ha2 hA 1 rfl)
        have C1 := Lib.hid (fun w1 hb => HK w1 hb c hc2 hC 1 rfl)
        clear HK hA hC
        go_wp2_with fail
        refine (A1.out _ b2).mono ?_
        rintro e w3 ⟨r3, rfl, ho3, hb3⟩
        have b3 := bstep b2 hb3
        go_wp2_with fail
        refine (C1.out _ b3).mono ?_
        rintro e w4 ⟨r4, rfl, ho4, hb4⟩
        have b4 := bstep b3 hb4
        go_wp2_with fail
        go_ret
        exact ⟨rfl, b4⟩
  | false =>
    go_wp2
    go_ret
    exact ⟨rfl, b2⟩
end Go.Proofs.Ytoccmedadiangaa
