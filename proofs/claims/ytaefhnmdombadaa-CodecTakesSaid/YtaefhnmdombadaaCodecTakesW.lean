/-
  What is proved here: the call of the statement CodecTakes returns true and turns nothing that was there. Conditions: the length.
-/
import Derived.Test.YtaefhnmdombadaaShown01
import Derived.Test.YtaefhnmdombadaaRefReaderW3
import Derived.Test.YtaefhnmdombadaaRegion
namespace Go.Proofs.Ytaefhnmdombadaa
open Go.RowKit

/-- what is taken -/
structure Tk where
  kind : UInt8
  most : Int
def tkC (t : Tk) : List Value := [.int .u8 (t.kind.toNat : Int), .int .i64 t.most]
def TkOk (t : Tk) : Prop := -9223372036854775808 ≤ t.most ∧ t.most ≤ 9223372036854775807
theorem tkC_length (t : Tk) : (tkC t).length = 2 := rfl
theorem Rd.tk {w : World} {B n : Nat} {A : Option Addr} {m : List Tk} (h : Rd w B 2 A n (m.flatMap tkC)) (hn : n = m.length) {k : Nat} (hk : k < m.length) :
    ∃ b o, A = some ⟨b, o, none⟩ ∧ b < B ∧ w.cell? ⟨b, o + k * 2, none⟩ = some (.int .u8 (m[k].kind.toNat : Int)) ∧ w.cell? ⟨b, o + k * 2 + 1, none⟩ = some (.int .i64 m[k].most) := by
  obtain ⟨b, o, e, hb, hc⟩ := h.elem tkC_length hn hk
  exact ⟨b, o, e, hb, hc 0 _ (by omega) rfl, hc 1 _ (by omega) rfl⟩

theorem RefAt.farN {w w' : World} {base R : Nat} {bs : List UInt8} {i bad : Nat} (h : RefAt w base R bs i bad) (hg : w.grownBy w' none) : RefAt w' base R bs i bad := by
  have hlt := h.lt
  obtain ⟨A, c, h1, h2, h3, h4, h5, h6⟩ := h
  refine ⟨A, c, (hg.block R hlt (fun e => by cases e)).trans h1, h2, h3, h4, h5, h6.keep fun p hp => World.cell?_of_block (hg.block p.block (by omega) (fun e => by cases e))⟩
theorem far_cell {w w' : World} {g b o : Nat} {u : Value} (hg : w.grownBy w' (some g)) (hb : b < w.heap.size) (hne : b ≠ g) (h : w.cell? ⟨b, o, none⟩ = some u) : w'.cell? ⟨b, o, none⟩ = some u :=
  (World.cell?_of_block (a := ⟨b, o, none⟩) (hg.block b hb (fun e => by injection e with e; exact hne e))).trans h
theorem RdrFrom.far' {L : Nat} {w w' : World} {R : Nat} {rest : List UInt8} {bad : Nat} {row : Option Nat} (h : RdrFrom L w R rest bad) (hg : w.grownBy w' row) (hL : ∀ g, row = some g → g < L) : RdrFrom L w' R rest bad := fun w2 h2 =>
  h w2 fun k hk hs => (h2 k hk (Nat.lt_of_lt_of_le hs hg.size)).trans (hg.block k hs (fun e => by have := hL k e.symm; omega))
theorem xor85 (x : UInt8) : bits .xor .u8 (x.toNat : Int) 85 = ((x ^^^ 85).toNat : Int) := by
  rw [show (85 : Int) = ((85 : Nat) : Int) from rfl, u8_xor_nat _ _ (u8_lt x) (by omega)]
  rfl
theorem bv_set (l : List UInt8) (k : Nat) (x : UInt8) : (bv l).set k (u8v x) = bv (l.set k x) := by simp [bv, List.map_set]

set_option maxRecDepth 100000 in
set_option maxHeartbeats 4000000 in
theorem codecTakes_any (v u : Value) (bs : List UInt8) (l : List Tk) (w : World) (hv : SB w w.heap.size v bs) (hb : bs.length ≤ 140737488355328) (hu : Sl w w.heap.size 2 u l.length (l.flatMap tkC)) (hok : ∀ t ∈ l, TkOk t) :
    Calls Try.prog 4 #[v, u] w fun e w' => e = .returned (.bool true) ∧ Below w.heap.size w w' := by
  go_enter Try.func4, Try.ntmps4
  go_wp2_with fail
  refine (shown_any w).mono ?_
  rintro e w1 ⟨rfl, hb1⟩
  have hv1 := hv.on hb1
  go_wp2_with (at_builtin; refine wl_appB rfl (.tmp 13) (.tmp 14) rfl w1.heap.size _ [] rfl (OB.lit0 w1 (Nat.le_refl _)) w1.heap.size v bs rfl (hv1.alloc (Nat.le_refl _) _) (by simp; omega) (by simp) ?_; intro v2 w2 hown2 _ _ hb2)
  have hb12 : Below w1.heap.size w1 w2 := ((Below.refl _ _).alloc (Nat.le_refl _) _).trans hb2
  have hb2' := bstep hb1 hb12
  clear hb2
  simp only [List.nil_append] at hown2
  refine (cNew_any v2 bs w2 hown2.sb hb).mono ?_
  rintro e w3 ⟨R, rfl, hR, hrd, hb3⟩
  have hb3' := bstep hb2' hb3
  have hown3 := hown2.below hb3 (Nat.le_refl _)
  have hlt3 := hown2.lt
  have hv3 := hv.on hb3'
  obtain ⟨A2, c2, rfl, hc2, hcm2, _⟩ := hown3.sb
  have hv3' := hv.below hb3'
  obtain ⟨A, c, rfl, hc, hcm, hr⟩ := hv3'
  have hcm' : c ≤ 9223372036854775807 := by unfold maxLen at hcm; omega
  have hcm2' : c2 ≤ 9223372036854775807 := by unfold maxLen at hcm2; omega
  go_wp2_with fail
  obtain ⟨w4, hw4⟩ : ∃ w4, w4 = w3.alloc (.cells #[.slice A bs.length c, .int .i64 0, .int .i64 0] 37) := ⟨_, rfl⟩
  have hown4 : OB w4 w1.heap.size (.slice A2 bs.length c2) bs := by rw [hw4]; exact hown3.alloc _
  have hrd4 : RdrFrom w2.heap.size w4 R bs 0 := by rw [hw4]; exact hrd.far' (row := none) (World.grownBy_alloc _ _ _) (fun _ h => by cases h)
  have hrf4 : RefAt w4 w.heap.size w3.heap.size bs 0 0 := by
    rw [hw4]
    exact ⟨A, c, heap_alloc_new w3 _, hc, hcm, Nat.zero_le _, hb3'.size, hr.alloc hb3'.size _⟩
  have hb4' : Below w.heap.size w w4 := by rw [hw4]; exact balloc hb3' _
  have hw4s : w4.heap.size = w3.heap.size + 1 := by rw [hw4]; simp
  have HW := Lib.hid hw4s
  rw [← hw4]
  have hrd3lt := hrd.at_.lt
  clear hw4 hw4s hown3 hrd hv3
  go_loopw [24] (fun i wr => ∃ (k : Nat) (l' : List UInt8), i = .int .i64 k ∧ k ≤ bs.length ∧ Hid (l'.length = bs.length) ∧ wr.ownsRow w1.heap.size 5 1 (.slice A2 bs.length c2) bs.length (bv l') ∧ w4.grownBy wr (Value.slice A2 bs.length c2).ownBlock) (fun i _ => bs.length - (intOf i).toNat)
  case atStart => exact ⟨0, bs, rfl, Nat.zero_le _, Lib.hid rfl, hown4, World.grownBy.refl _ _⟩
  case round =>
    obtain ⟨k, l', rfl, hk, hl', hown, hgr⟩ := hrel
    by_cases hlt : k < bs.length
    · obtain ⟨g, cap, hv4, _, _⟩ := hown.form (by omega)
      injection hv4 with e1 _ e3
      subst e1; subst e3
      have hkl : k < l'.length := by rw [hl'.out]; exact hlt
      have d0 := hown.cellAt k (by omega)
      rw [bv_get l' k hkl] at d0
      have f0 := hown.frozenAt k
      have hst := hown.stored k (u8v (l'[k] ^^^ 85))
      rw [bv_set] at hst
      obtain ⟨x, hx⟩ : ∃ x, x = l'[k] := ⟨_, rfl⟩
      rw [← hx] at d0 hst
      have HST := Lib.hid hst
      have hxx := xor85 x
      clear hst hown hx hkl
      go_wp2
      go_roundw
      case rel => exact ⟨k + 1, _, by go_num, by omega, Lib.hid (by rw [List.length_set]; exact hl'.out), HST.out.1, hgr.trans HST.out.2⟩
      case measure => simp [intOf]; omega
    · have hbr : Below w.heap.size w wr := hb4'.trans (below_grown (Below.refl _ _) hgr (by have := hb4'.size; omega) (fun g hg => by have := (hlt3 g hg).1; have := hb1.size; omega))
      have hrdr : RdrAt wr R (bs.drop 0) 0 := by rw [List.drop_zero]; exact (hrd4.far' hgr (fun g hg => (hlt3 g hg).2)).at_
      have hrfr : RefAt wr w.heap.size w3.heap.size bs 0 0 := by
        cases hg : (Value.slice A2 bs.length c2).ownBlock with
        | none =>
          rw [hg] at hgr
          exact hrf4.farN hgr
        | some g =>
          rw [hg] at hgr
          have h1 := hlt3 g hg
          exact hrf4.far hgr (by have := hb3.size; omega) (by have := hb1.size; omega)
      obtain ⟨A3, c3, rfl, hc3, hcm3, hr3⟩ := hu
      have hcm3' : c3 ≤ 9223372036854775807 := by unfold maxLen at hcm3; omega
      clear hgr hown hl' hrd4 hrf4 hown4
      have hRw : w.heap.size ≤ R := Nat.le_trans hb2'.size hR
      have hRlt : R < w3.heap.size := hrd3lt
      obtain ⟨R2, hR2⟩ : ∃ R2, R2 = w3.heap.size := ⟨_, rfl⟩
      rw [← hR2] at hrfr hRlt
      have HR2 := Lib.hid hR2
      go_wp2
      rw [← hR2]
      clear hR2
      go_loopw [36] (fun i ws => ∃ (k i' bad : Nat), i = .int .i64 k ∧ k ≤ l.length ∧ RdrAt ws R (bs.drop i') bad ∧ RefAt ws w.heap.size R2 bs i' bad ∧ Below w.heap.size w ws) (fun i _ => l.length - (intOf i).toNat)
      case atStart => exact ⟨0, 0, 0, rfl, Nat.zero_le _, hrdr, hrfr, hbr⟩
      case round =>
        obtain ⟨k, i', bad, rfl, hk, hrd, hrf, hbs⟩ := hrel
        clear hrdr hrfr hbr
        by_cases hlt : k < l.length
        · by_cases hk1 : k < 1000
          · obtain ⟨b, o, rfl, hbB, c0, c1⟩ := (hr3.below hbs).tk rfl hlt
            have hto := hok _ (List.getElem_mem hlt)
            obtain ⟨t, ht⟩ : ∃ t, t = l[k] := ⟨_, rfl⟩
            rw [← ht] at c0 c1 hto
            clear ht
            obtain ⟨ht1, ht2⟩ := hto
            have ht8 := u8_lt t.kind
            have hRsz : w.heap.size ≤ wr.heap.size ∧ R2 < wr.heap.size ∧ R < wr.heap.size := ⟨hbs.size, hrf.lt, hrd.lt⟩
            have hkind : ((t.kind.toNat : Int) % 3 == 0) = true ∨ (((t.kind.toNat : Int) % 3 == 0) = false ∧ ((t.kind.toNat : Int) % 3 == 1) = true) ∨ (((t.kind.toNat : Int) % 3 == 0) = false ∧ ((t.kind.toNat : Int) % 3 == 1) = false) := by
              simp only [beq_iff_eq, beq_eq_false_iff_ne]
              omega
            rcases hkind with m0 | ⟨m0, m1⟩ | ⟨m0, m1⟩
            focus
              go_wp2_with fail
              refine (mNum_any R (bs.drop i') bad _ hrd).mono ?_
              rintro e w5 ⟨rfl, hrd5, hg5⟩
              have hrf5 : RefAt w5 w.heap.size R2 bs i' bad := hrf.far hg5 (by omega) hRw
              go_wp2_with fail
              refine (qNum_any w.heap.size R2 bs i' bad _ hrf5 hb).mono ?_
              rintro e w6 ⟨rfl, ⟨i2, hrf6, hi2⟩, hg6⟩
              have hrd6 := hrd5.far hg6 (fun g hg => by injection hg with hg; omega)
              obtain ⟨bad2, hbad2⟩ : ∃ q, q = (sNum (bs.drop i', bad)).2.2 := ⟨_, rfl⟩
              rw [← hi2, ← hbad2] at hrd6
              rw [← hbad2] at hrf6
              clear hbad2 hi2 hrd5 hrf5 hrf hrd
              have hb6 : Below w.heap.size w w6 := hbs.trans ((gbelow hg5 (by omega) hRw).trans (gbelow hg6 (by have := hg5.size; omega) (by omega)))
              clear hg5 hg6
            rotate_left
            focus
              go_wp2_with fail
              refine wp_region_noPanic ?_
              refine wp_region_held_drew (S := fun w' => w'.cell? ⟨b, o + k * 2 + 1, none⟩ = some (.int .i64 t.most)) (by kernel_rfl) (by exact c1) (fun hHeld => ?_)
              refine reg_take 0 (v := ?_) (by rfl) (by kernel_rfl) (by kernel_rfl) (by kernel_rfl) (fun _ _ _ h => h) (by rfl) ?_ (by assumption) ?_
              rotate_left
              · (intro wq hSq; (try dsimp only at hSq); go_split_ands; go_simp; (try with_reducible rfl))
              try simp only [Act.put, List.setIfInBounds_toArray, List.set_cons_zero, List.set_cons_succ]
              refine reg_take 1 (v := ?_) (by rfl) (by kernel_rfl) (by kernel_rfl) (by kernel_rfl) (fun _ _ _ h => h) (by rfl) ?_ (by assumption) ?_
              rotate_left
              · (intro wq hSq; (try dsimp only at hSq); go_split_ands; go_simp; (try with_reducible rfl))
              try simp only [Act.put, List.setIfInBounds_toArray, List.set_cons_zero, List.set_cons_succ]
              refine reg_take 2 (v := ?_) (by rfl) (by kernel_rfl) (by kernel_rfl) (by kernel_rfl) (fun _ _ _ h => h) (by rfl) ?_ (by assumption) ?_
              rotate_left
              · (intro wq hSq; (try dsimp only at hSq); go_split_ands; go_simp; (try with_reducible rfl))
              try simp only [Act.put, List.setIfInBounds_toArray, List.set_cons_zero, List.set_cons_succ]
              refine reg_take 3 (v := ?_) (by rfl) (by kernel_rfl) (by kernel_rfl) (by kernel_rfl) (fun _ _ _ h => h) (by rfl) ?_ (by assumption) ?_
              rotate_left
              · (intro wq hSq; (try dsimp only at hSq); go_split_ands; go_simp; (try with_reducible rfl))
              try simp only [Act.put, List.setIfInBounds_toArray, List.set_cons_zero, List.set_cons_succ]
              refine reg_take 4 (v := ?_) (by rfl) (by kernel_rfl) (by kernel_rfl) (by kernel_rfl) (fun _ _ _ h => h) (by rfl) ?_ (by assumption) ?_
              rotate_left
              · (intro wq hSq; (try dsimp only at hSq); go_split_ands; go_simp; (try with_reducible rfl))
              try simp only [Act.put, List.setIfInBounds_toArray, List.set_cons_zero, List.set_cons_succ]
              refine reg_take 5 (v := ?_) (by rfl) (by kernel_rfl) (by kernel_rfl) (by kernel_rfl) (fun _ _ _ h => h) (by rfl) ?_ (by assumption) ?_
              rotate_left
              · (intro wq hSq; (try dsimp only at hSq); go_split_ands; go_simp; (try with_reducible rfl))
              try simp only [Act.put, List.setIfInBounds_toArray, List.set_cons_zero, List.set_cons_succ]
              refine reg_take 7 (v := ?_) (by rfl) (by kernel_rfl) (by kernel_rfl) (by kernel_rfl) (fun _ _ _ h => h) (by rfl) ?_ (by assumption) ?_
              rotate_left
              · (intro wq hSq; (try dsimp only at hSq); go_split_ands; go_simp; (try with_reducible rfl))
              try simp only [Act.put, List.setIfInBounds_toArray, List.set_cons_zero, List.set_cons_succ]
              refine reg_take 8 (v := ?_) (by rfl) (by kernel_rfl) (by kernel_rfl) (by kernel_rfl) (fun _ _ _ h => h) (by rfl) ?_ (by assumption) ?_
              rotate_left
              · (intro wq hSq; (try dsimp only at hSq); go_split_ands; go_simp; (try with_reducible rfl))
              try simp only [Act.put, List.setIfInBounds_toArray, List.set_cons_zero, List.set_cons_succ]
              refine reg_take 9 (v := ?_) (by rfl) (by kernel_rfl) (by kernel_rfl) (by kernel_rfl) (fun _ _ _ h => h) (by rfl) ?_ (by assumption) ?_
              rotate_left
              · (intro wq hSq; (try dsimp only at hSq); go_split_ands; go_simp; (try with_reducible rfl))
              try simp only [Act.put, List.setIfInBounds_toArray, List.set_cons_zero, List.set_cons_succ]
              refine reg_take 10 (v := ?_) (by rfl) (by kernel_rfl) (by kernel_rfl) (by kernel_rfl) (fun _ _ _ h => h) (by rfl) ?_ (by assumption) ?_
              rotate_left
              · (intro wq hSq; (try dsimp only at hSq); go_split_ands; go_simp; (try with_reducible rfl))
              try simp only [Act.put, List.setIfInBounds_toArray, List.set_cons_zero, List.set_cons_succ]
              refine reg_take 11 (v := ?_) (by rfl) (by kernel_rfl) (by kernel_rfl) (by kernel_rfl) (fun _ _ _ h => h) (by rfl) ?_ (by assumption) ?_
              rotate_left
              · (intro wq hSq; (try dsimp only at hSq); go_split_ands; go_simp; (try with_reducible rfl))
              try simp only [Act.put, List.setIfInBounds_toArray, List.set_cons_zero, List.set_cons_succ]
              refine reg_one 6 (by rfl) (by kernel_rfl) (by rfl) (fun K hK => ?_)
              (go_simp; go_at_call 19; refine (mStr_any R (bs.drop i') bad t.most _ (by exact hrd) ht2).mono ?_; rintro e w5 ⟨rfl, hrd5, hg5⟩; go_wp2_with fail)
              refine hK.out _ _ ?_ (fun hHeld => ?_)
              · exact far_cell hg5 (by simp; omega) (by omega) c1
              clear hK K
              try simp only [Act.put, List.setIfInBounds_toArray, List.set_cons_zero, List.set_cons_succ]
              have hrf5 : RefAt w5 w.heap.size R2 bs i' bad := RefAt.far (w := wr.drew) (by exact hrf) hg5 (by omega) hRw
              refine reg_one 12 (by rfl) (by kernel_rfl) (by rfl) (fun K hK => ?_)
              (go_simp; go_at_call 20; refine (qStr_any w.heap.size R2 bs i' bad t.most _ (by exact hrf5) hb ht2).mono ?_; rintro e w6 ⟨rfl, ⟨i2, hrf6, hi2⟩, hg6⟩; go_wp2_with fail)
              refine hK.out _ _ ?_ (fun hHeld => ?_)
              · exact far_cell hg6 (by have := hg5.size; simp at this; omega) (by omega) (far_cell (w := wr.drew) hg5 (by simp; omega) (by omega) c1)
              clear hK K
              try simp only [Act.put, List.setIfInBounds_toArray, List.set_cons_zero, List.set_cons_succ]
              refine reg_take 13 (v := ?_) (by rfl) (by kernel_rfl) (by kernel_rfl) (by kernel_rfl) (fun _ _ _ h => h) (by rfl) ?_ (by assumption) ?_
              rotate_left
              · (intro wq hSq; (try dsimp only at hSq); go_split_ands; go_simp; (try with_reducible rfl))
              try simp only [Act.put, List.setIfInBounds_toArray, List.set_cons_zero, List.set_cons_succ]
              refine reg_take 14 (v := ?_) (by rfl) (by kernel_rfl) (by kernel_rfl) (by kernel_rfl) (fun _ _ _ h => h) (by rfl) ?_ (by assumption) ?_
              rotate_left
              · (intro wq hSq; (try dsimp only at hSq); go_split_ands; go_simp; (try with_reducible rfl))
              try simp only [Act.put, List.setIfInBounds_toArray, List.set_cons_zero, List.set_cons_succ]
              refine wpAnyH_done (by kernel_rfl) (noPanic_mk ?_) _
              have hrd6 := hrd5.far hg6 (fun g hg => by injection hg with hg; omega)
              obtain ⟨bad2, hbad2⟩ : ∃ q, q = (sStr t.most (bs.drop i', bad)).2.2 := ⟨_, rfl⟩
              rw [← hi2, ← hbad2] at hrd6
              rw [← hbad2] at hrf6
              clear hbad2 hi2 hrd5 hrf5 hrf hrd
              have hg56 : wr.drew.grownBy w6 none ∨ True := Or.inr trivial
              have hb6 : Below w.heap.size w w6 := (bdrew hbs).trans (Below.trans (gbelow hg5 (by simp; omega) hRw) (gbelow hg6 (by have := hg5.size; simp at this; omega) (by omega)))
              clear hg5 hg6 hg56
            rotate_left
            focus
              go_wp2_with fail
              refine wp_region_noPanic ?_
              refine wp_region_held_drew (S := fun w' => w'.cell? ⟨b, o + k * 2 + 1, none⟩ = some (.int .i64 t.most)) (by kernel_rfl) (by exact c1) (fun hHeld => ?_)
              refine reg_take 0 (v := ?_) (by rfl) (by kernel_rfl) (by kernel_rfl) (by kernel_rfl) (fun _ _ _ h => h) (by rfl) ?_ (by assumption) ?_
              rotate_left
              · (intro wq hSq; (try dsimp only at hSq); go_split_ands; go_simp; (try with_reducible rfl))
              try simp only [Act.put, List.setIfInBounds_toArray, List.set_cons_zero, List.set_cons_succ]
              refine reg_take 1 (v := ?_) (by rfl) (by kernel_rfl) (by kernel_rfl) (by kernel_rfl) (fun _ _ _ h => h) (by rfl) ?_ (by assumption) ?_
              rotate_left
              · (intro wq hSq; (try dsimp only at hSq); go_split_ands; go_simp; (try with_reducible rfl))
              try simp only [Act.put, List.setIfInBounds_toArray, List.set_cons_zero, List.set_cons_succ]
              refine reg_take 2 (v := ?_) (by rfl) (by kernel_rfl) (by kernel_rfl) (by kernel_rfl) (fun _ _ _ h => h) (by rfl) ?_ (by assumption) ?_
              rotate_left
              · (intro wq hSq; (try dsimp only at hSq); go_split_ands; go_simp; (try with_reducible rfl))
              try simp only [Act.put, List.setIfInBounds_toArray, List.set_cons_zero, List.set_cons_succ]
              refine reg_take 3 (v := ?_) (by rfl) (by kernel_rfl) (by kernel_rfl) (by kernel_rfl) (fun _ _ _ h => h) (by rfl) ?_ (by assumption) ?_
              rotate_left
              · (intro wq hSq; (try dsimp only at hSq); go_split_ands; go_simp; (try with_reducible rfl))
              try simp only [Act.put, List.setIfInBounds_toArray, List.set_cons_zero, List.set_cons_succ]
              refine reg_take 4 (v := ?_) (by rfl) (by kernel_rfl) (by kernel_rfl) (by kernel_rfl) (fun _ _ _ h => h) (by rfl) ?_ (by assumption) ?_
              rotate_left
              · (intro wq hSq; (try dsimp only at hSq); go_split_ands; go_simp; (try with_reducible rfl))
              try simp only [Act.put, List.setIfInBounds_toArray, List.set_cons_zero, List.set_cons_succ]
              refine reg_take 5 (v := ?_) (by rfl) (by kernel_rfl) (by kernel_rfl) (by kernel_rfl) (fun _ _ _ h => h) (by rfl) ?_ (by assumption) ?_
              rotate_left
              · (intro wq hSq; (try dsimp only at hSq); go_split_ands; go_simp; (try with_reducible rfl))
              try simp only [Act.put, List.setIfInBounds_toArray, List.set_cons_zero, List.set_cons_succ]
              refine reg_take 7 (v := ?_) (by rfl) (by kernel_rfl) (by kernel_rfl) (by kernel_rfl) (fun _ _ _ h => h) (by rfl) ?_ (by assumption) ?_
              rotate_left
              · (intro wq hSq; (try dsimp only at hSq); go_split_ands; go_simp; (try with_reducible rfl))
              try simp only [Act.put, List.setIfInBounds_toArray, List.set_cons_zero, List.set_cons_succ]
              refine reg_take 8 (v := ?_) (by rfl) (by kernel_rfl) (by kernel_rfl) (by kernel_rfl) (fun _ _ _ h => h) (by rfl) ?_ (by assumption) ?_
              rotate_left
              · (intro wq hSq; (try dsimp only at hSq); go_split_ands; go_simp; (try with_reducible rfl))
              try simp only [Act.put, List.setIfInBounds_toArray, List.set_cons_zero, List.set_cons_succ]
              refine reg_take 9 (v := ?_) (by rfl) (by kernel_rfl) (by kernel_rfl) (by kernel_rfl) (fun _ _ _ h => h) (by rfl) ?_ (by assumption) ?_
              rotate_left
              · (intro wq hSq; (try dsimp only at hSq); go_split_ands; go_simp; (try with_reducible rfl))
              try simp only [Act.put, List.setIfInBounds_toArray, List.set_cons_zero, List.set_cons_succ]
              refine reg_take 10 (v := ?_) (by rfl) (by kernel_rfl) (by kernel_rfl) (by kernel_rfl) (fun _ _ _ h => h) (by rfl) ?_ (by assumption) ?_
              rotate_left
              · (intro wq hSq; (try dsimp only at hSq); go_split_ands; go_simp; (try with_reducible rfl))
              try simp only [Act.put, List.setIfInBounds_toArray, List.set_cons_zero, List.set_cons_succ]
              refine reg_take 11 (v := ?_) (by rfl) (by kernel_rfl) (by kernel_rfl) (by kernel_rfl) (fun _ _ _ h => h) (by rfl) ?_ (by assumption) ?_
              rotate_left
              · (intro wq hSq; (try dsimp only at hSq); go_split_ands; go_simp; (try with_reducible rfl))
              try simp only [Act.put, List.setIfInBounds_toArray, List.set_cons_zero, List.set_cons_succ]
              refine reg_one 6 (by rfl) (by kernel_rfl) (by rfl) (fun K hK => ?_)
              (go_simp; go_at_call 21; refine (mFix_any R (bs.drop i') bad t.most _ (by exact hrd) ht2 ht1).mono ?_; rintro e w5 ⟨rfl, hrd5, hg5⟩; go_wp2_with fail)
              refine hK.out _ _ ?_ (fun hHeld => ?_)
              · exact far_cell hg5 (by simp; omega) (by omega) c1
              clear hK K
              try simp only [Act.put, List.setIfInBounds_toArray, List.set_cons_zero, List.set_cons_succ]
              have hrf5 : RefAt w5 w.heap.size R2 bs i' bad := RefAt.far (w := wr.drew) (by exact hrf) hg5 (by omega) hRw
              refine reg_one 12 (by rfl) (by kernel_rfl) (by rfl) (fun K hK => ?_)
              (go_simp; go_at_call 22; refine (qFix_any w.heap.size R2 bs i' bad t.most _ (by exact hrf5) hb ht2 ht1).mono ?_; rintro e w6 ⟨rfl, ⟨i2, hrf6, hi2⟩, hg6⟩; go_wp2_with fail)
              refine hK.out _ _ ?_ (fun hHeld => ?_)
              · exact far_cell hg6 (by have := hg5.size; simp at this; omega) (by omega) (far_cell (w := wr.drew) hg5 (by simp; omega) (by omega) c1)
              clear hK K
              try simp only [Act.put, List.setIfInBounds_toArray, List.set_cons_zero, List.set_cons_succ]
              refine reg_take 13 (v := ?_) (by rfl) (by kernel_rfl) (by kernel_rfl) (by kernel_rfl) (fun _ _ _ h => h) (by rfl) ?_ (by assumption) ?_
              rotate_left
              · (intro wq hSq; (try dsimp only at hSq); go_split_ands; go_simp; (try with_reducible rfl))
              try simp only [Act.put, List.setIfInBounds_toArray, List.set_cons_zero, List.set_cons_succ]
              refine reg_take 14 (v := ?_) (by rfl) (by kernel_rfl) (by kernel_rfl) (by kernel_rfl) (fun _ _ _ h => h) (by rfl) ?_ (by assumption) ?_
              rotate_left
              · (intro wq hSq; (try dsimp only at hSq); go_split_ands; go_simp; (try with_reducible rfl))
              try simp only [Act.put, List.setIfInBounds_toArray, List.set_cons_zero, List.set_cons_succ]
              refine wpAnyH_done (by kernel_rfl) (noPanic_mk ?_) _
              have hrd6 := hrd5.far hg6 (fun g hg => by injection hg with hg; omega)
              obtain ⟨bad2, hbad2⟩ : ∃ q, q = (sFix t.most (bs.drop i', bad)).2.2 := ⟨_, rfl⟩
              rw [← hi2, ← hbad2] at hrd6
              rw [← hbad2] at hrf6
              clear hbad2 hi2 hrd5 hrf5 hrf hrd
              have hg56 : wr.drew.grownBy w6 none ∨ True := Or.inr trivial
              have hb6 : Below w.heap.size w w6 := (bdrew hbs).trans (Below.trans (gbelow hg5 (by simp; omega) hRw) (gbelow hg6 (by have := hg5.size; simp at this; omega) (by omega)))
              clear hg5 hg6 hg56
            rotate_left
            all_goals
              obtain ⟨rest, hrest⟩ : ∃ rest, rest = bs.drop i2 := ⟨_, rfl⟩
              have hq := qEnd_any w.heap.size R2 bs i2 bad2
              rw [← hrest] at hq hrd6
              obtain ⟨A6, d6, hh6, hc6, hm6, hi6, hbb6, hr6⟩ := id hrf6
              obtain ⟨k0, k1, k2, l0, l1, l2⟩ := cells3 hh6
              have hne : ((rest.length : Int) != (bs.length : Int) - (i2 : Int)) = false := by
                rw [bne_eq_false_iff_eq, hrest, List.length_drop]; omega
              have HRE := Lib.hid hrest
              have HQ := Lib.hid hq
              have HRF := Lib.hid hrf6
              clear hrest hq hh6 hr6 hrf6
              go_wp2_with fail
              go_quiet ((first | (go_at_call 23; exact Calls.quiet_of_same (mLeft_any R rest bad2 _ (hrd6.drewN _))) | (go_at_call 24; exact Calls.quiet_of_same (mFault_any R rest bad2 _ (hrd6.drewN _))) | (go_at_call 25; exact Calls.quiet_of_same (mEnd_any R rest bad2 _ (hrd6.drewN _))) | (go_at_call 26; exact Calls.quiet_of (HQ.out _ (HRF.out.drewN _)))))
              go_wp2
              go_roundw
              case rel => exact ⟨k + 1, i2, bad2, by go_num, by omega, by rw [← HRE.out]; exact hrd6, HRF.out, bdrewN hb6 _⟩
              case measure => simp [intOf]; omega
          · go_wp2
            go_ret
            exact ⟨rfl, hbs⟩
        · go_wp2
          go_ret
          exact ⟨rfl, hbs⟩
end Go.Proofs.Ytaefhnmdombadaa
