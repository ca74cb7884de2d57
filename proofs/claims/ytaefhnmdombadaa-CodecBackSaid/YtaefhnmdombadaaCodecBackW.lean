/-
  What is proved here: the call of the statement CodecBack returns true and turns nothing that was there. Conditions: none beyond the statement's own.
-/
import Derived.Test.YtaefhnmdombadaaShown01
import Derived.Test.YtaefhnmdombadaaRegion
import Derived.Deep.DeepCutAuto
import Derived.Deep.CutBlock
namespace Go.Proofs.Ytaefhnmdombadaa
open Go.RowKit

def u64C (x : UInt64) : List Value := [.int .u64 (x.toNat : Int)]
def strC (t : ByteArray) : List Value := [.string t]
/-- a number, laid twice -/
def twoB (x : UInt64) : List UInt8 := num x.toNat ++ fix x.toNat 8
def textB (t : ByteArray) : List UInt8 := num t.size ++ t.data.toList
theorem twoB_le (x : UInt64) : (twoB x).length ≤ 18 := by
  have := num_length x.toNat
  unfold twoB; rw [List.length_append, fix_length]; omega
theorem twoBs_le (l : List UInt64) : (l.flatMap twoB).length ≤ l.length * 18 := by
  induction l with
  | nil => simp
  | cons x l ih => have := twoB_le x; rw [List.flatMap_cons, List.length_append, List.length_cons]; omega
theorem textB_le (t : ByteArray) (h : t.size ≤ 10000) : (textB t).length ≤ 10010 := by
  have := num_length t.size
  have := toList_size t
  unfold textB; rw [List.length_append]; omega
theorem textBs_le (l : List ByteArray) (h : ∀ t ∈ l, t.size ≤ 10000) : (l.flatMap textB).length ≤ l.length * 10010 := by
  induction l with
  | nil => simp
  | cons x l ih =>
    have h1 := textB_le x (h x (by simp))
    have h2 := ih (fun t ht => h t (by simp [ht]))
    rw [List.flatMap_cons, List.length_append, List.length_cons]; omega

theorem far_cell2 {w w' : World} {g b o : Nat} {u : Value} (hg : w.grownBy w' (some g)) (hb : b < w.heap.size) (hne : b ≠ g) (h : w.cell? ⟨b, o, none⟩ = some u) : w'.cell? ⟨b, o, none⟩ = some u :=
  (World.cell?_of_block (a := ⟨b, o, none⟩) (hg.block b hb (fun e => by injection e with e; exact hne e))).trans h

set_option maxRecDepth 100000 in
set_option maxHeartbeats 4000000 in
theorem codecBack_any (v u : Value) (l : List UInt64) (s : List ByteArray) (many : UInt8) (w : World) (hv : Sl w w.heap.size 1 v l.length (l.flatMap u64C)) (hu : Sl w w.heap.size 1 u s.length (s.flatMap strC)) :
    Calls Try.prog 5 #[v, u, .int .u8 (many.toNat : Int)] w fun e w' => e = .returned (.bool true) ∧ Below w.heap.size w w' := by
  obtain ⟨A, c, rfl, hc, hcm, hr⟩ := hv
  obtain ⟨A', c', rfl, hc', hcm', hr'⟩ := hu
  have hcq : c ≤ 9223372036854775807 := by unfold maxLen at hcm; omega
  have hcq' : c' ≤ 9223372036854775807 := by unfold maxLen at hcm'; omega
  clear hcm hcm'
  go_enter Try.func5, Try.ntmps5
  go_wp2_with fail
  refine (shown_any w).mono ?_
  rintro e w1 ⟨rfl, hb1⟩
  go_upto_block 0 with fail
  go_cut [8] (fun v8 wx => SB wx wx.heap.size v8 ((l.take 201).flatMap twoB) ∧ Below w.heap.size w wx)
  case first =>
    go_wp2_with fail
    go_loopw [8, 17] (fun v8 i wr => ∃ k : Nat, i = .int .i64 k ∧ k ≤ l.length ∧ k ≤ 200 ∧ SB wr wr.heap.size v8 ((l.take k).flatMap twoB) ∧ Below w.heap.size w wr) (fun _ i _ => l.length - (intOf i).toNat)
    case atStart => exact ⟨0, rfl, Nat.zero_le _, Nat.zero_le _, SB.nil_ _ _, hb1⟩
    case round =>
      obtain ⟨k, rfl, hk, hk2, hs, hbr⟩ := hrel
      by_cases hlt : k < l.length
      · obtain ⟨b, o, rfl, hbl, hcell⟩ := (hr.below hbr).elem (f := u64C) (c := 1) (fun _ => rfl) rfl hlt
        have c0 := hcell 0 _ (by omega) rfl
        obtain ⟨x, hx⟩ : ∃ x, x = l[k] := ⟨_, rfl⟩
        rw [← hx, Nat.mul_one, Nat.add_zero] at c0
        have hx8 := u64_lt x
        have hpl : ((l.take k).flatMap twoB).length ≤ 3600 := by
          have h := twoBs_le (l.take k)
          have h2 : (l.take k).length ≤ 200 := by rw [List.length_take]; omega
          omega
        have hsn : (l.take (k + 1)).flatMap twoB = (l.take k).flatMap twoB ++ num x.toNat ++ fix x.toNat (fixN 8) := by
          rw [flat_snoc twoB l k hlt, ← hx, fixN8, List.append_assoc]; rfl
        have hnl := num_length x.toNat
        have hsz := hbr.size
        have HS := Lib.hid hsn
        clear hx hcell hsn
        go_wp2_with fail
        refine wp_region_noPanic ?_
        refine wp_region_held_drew (S := fun w' => w'.cell? ⟨b, o + k, none⟩ = some (.int .u64 (x.toNat : Int))) (by kernel_rfl) (by exact c0) (fun hHeld => ?_)
        refine reg_take 0 (v := ?_) (by rfl) (by kernel_rfl) (by kernel_rfl) (by kernel_rfl) (fun _ _ _ h => h) (by rfl) ?_ (by assumption) ?_
        rotate_left
        · (intro wq hSq; (try dsimp only at hSq); go_split_ands; go_simp; (try with_reducible rfl))
        try simp only [Act.put, List.setIfInBounds_toArray, List.set_cons_zero, List.set_cons_succ]
        refine reg_take 1 (v := ?_) (by rfl) (by kernel_rfl) (by kernel_rfl) (by kernel_rfl) (fun _ _ _ h => h) (by rfl) ?_ (by assumption) ?_
        rotate_left
        · (intro wq hSq; (try dsimp only at hSq); go_split_ands; go_simp; (try with_reducible rfl))
        try simp only [Act.put, List.setIfInBounds_toArray, List.set_cons_zero, List.set_cons_succ]
        refine reg_take 2 (v := ?_) (by rfl) (by kernel_rfl) (by kernel_rfl) (by kernel_rfl) (fun _ _ _ h => h) (by rfl) ?_ (by assumption) ?_
        rotate_left
        · (intro wq hSq; (try dsimp only at hSq); go_split_ands; go_simp; (try with_reducible rfl))
        try simp only [Act.put, List.setIfInBounds_toArray, List.set_cons_zero, List.set_cons_succ]
        refine reg_take 3 (v := ?_) (by rfl) (by kernel_rfl) (by kernel_rfl) (by kernel_rfl) (fun _ _ _ h => h) (by rfl) ?_ (by assumption) ?_
        rotate_left
        · (intro wq hSq; (try dsimp only at hSq); go_split_ands; go_simp; (try with_reducible rfl))
        try simp only [Act.put, List.setIfInBounds_toArray, List.set_cons_zero, List.set_cons_succ]
        refine reg_take 4 (v := ?_) (by rfl) (by kernel_rfl) (by kernel_rfl) (by kernel_rfl) (fun _ _ _ h => h) (by rfl) ?_ (by assumption) ?_
        rotate_left
        · (intro wq hSq; (try dsimp only at hSq); go_split_ands; go_simp; (try with_reducible rfl))
        try simp only [Act.put, List.setIfInBounds_toArray, List.set_cons_zero, List.set_cons_succ]
        refine reg_take 6 (v := ?_) (by rfl) (by kernel_rfl) (by kernel_rfl) (by kernel_rfl) (fun _ _ _ h => h) (by rfl) ?_ (by assumption) ?_
        rotate_left
        · (intro wq hSq; (try dsimp only at hSq); go_split_ands; go_simp; (try with_reducible rfl))
        try simp only [Act.put, List.setIfInBounds_toArray, List.set_cons_zero, List.set_cons_succ]
        refine reg_take 7 (v := ?_) (by rfl) (by kernel_rfl) (by kernel_rfl) (by kernel_rfl) (fun _ _ _ h => h) (by rfl) ?_ (by assumption) ?_
        rotate_left
        · (intro wq hSq; (try dsimp only at hSq); go_split_ands; go_simp; (try with_reducible rfl))
        try simp only [Act.put, List.setIfInBounds_toArray, List.set_cons_zero, List.set_cons_succ]
        refine reg_take 8 (v := ?_) (by rfl) (by kernel_rfl) (by kernel_rfl) (by kernel_rfl) (fun _ _ _ h => h) (by rfl) ?_ (by assumption) ?_
        rotate_left
        · (intro wq hSq; (try dsimp only at hSq); go_split_ands; go_simp; (try with_reducible rfl))
        try simp only [Act.put, List.setIfInBounds_toArray, List.set_cons_zero, List.set_cons_succ]
        refine reg_take 9 (v := ?_) (by rfl) (by kernel_rfl) (by kernel_rfl) (by kernel_rfl) (fun _ _ _ h => h) (by rfl) ?_ (by assumption) ?_
        rotate_left
        · (intro wq hSq; (try dsimp only at hSq); go_split_ands; go_simp; (try with_reducible rfl))
        try simp only [Act.put, List.setIfInBounds_toArray, List.set_cons_zero, List.set_cons_succ]
        refine reg_one 5 (by rfl) (by kernel_rfl) (by rfl) (fun K hK => ?_)
        (go_simp; go_at_call 10; refine (cNum_any _ ((l.take k).flatMap twoB) x.toNat _ (by exact hs) (by omega) hx8).mono ?_; rintro e w5 ⟨r5, rfl, hown5, hb5⟩; have hz5 : wr.heap.size ≤ w5.heap.size := hb5.size; go_wp2_with fail)
        refine hK.out _ _ ?_ (fun hHeld => ?_)
        · exact (hb5.cell (by simp; omega)).trans c0
        clear hK K
        try simp only [Act.put, List.setIfInBounds_toArray, List.set_cons_zero, List.set_cons_succ]
        refine reg_one 10 (by rfl) (by kernel_rfl) (by rfl) (fun K hK => ?_)
        (go_simp; go_at_call 12; refine (cFix_any _ ((l.take k).flatMap twoB ++ num x.toNat) x.toNat 8 _ hown5.sb (by rw [List.length_append]; omega) hx8 (by omega) (by omega)).mono ?_; rintro e w6 ⟨r6, rfl, hown6, hb6⟩; go_wp2_with fail)
        refine hK.out _ _ ?_ (fun hHeld => ?_)
        · exact (hb6.cell (by simp; omega)).trans ((hb5.cell (by simp; omega)).trans c0)
        clear hK K
        try simp only [Act.put, List.setIfInBounds_toArray, List.set_cons_zero, List.set_cons_succ]
        refine reg_take 11 (v := ?_) (by rfl) (by kernel_rfl) (by kernel_rfl) (by kernel_rfl) (fun _ _ _ h => h) (by rfl) ?_ (by assumption) ?_
        rotate_left
        · (intro wq hSq; (try dsimp only at hSq); go_split_ands; go_simp; (try with_reducible rfl))
        try simp only [Act.put, List.setIfInBounds_toArray, List.set_cons_zero, List.set_cons_succ]
        refine wpAnyH_done (by kernel_rfl) (noPanic_mk ?_) _
        have hb56 : Below w.heap.size w w6 := bstep hbr (bstep (bstep (bdrew (bself wr)) hb5) hb6)
        have hs6 := hown6.sb
        rw [← HS.out] at hs6
        clear hs hb5 hb6 hown5 hown6
        by_cases hk3 : k < 200
        · go_wp2_with fail
          go_roundw
          case rel => exact ⟨k + 1, by go_num, by omega, by omega, hs6, hb56⟩
          case measure => simp [intOf]; omega
        · go_wp2_with fail
          go_meet
          have e : k = 200 := by omega
          subst e
          exact ⟨hs6, hb56⟩
      · go_wp2_with fail
        go_meet
        refine ⟨?_, hbr⟩
        rw [List.take_of_length_le (by omega)] at hs ⊢
        exact hs
  case rest =>
    obtain ⟨hs2, hb2⟩ := hcut
    have hpl : ((l.take 201).flatMap twoB).length ≤ 3618 := by
      have h := twoBs_le (l.take 201)
      have h2 : (l.take 201).length ≤ 201 := by rw [List.length_take]; omega
      omega
    obtain ⟨pre, hpre⟩ : ∃ pre, pre = (l.take 201).flatMap twoB := ⟨_, rfl⟩
    rw [← hpre] at hs2 hpl
    have HPRE := Lib.hid hpre
    clear hpre
    go_wp2_with fail
    go_loopw [8, 36] (fun v8 i wr => ∃ k : Nat, i = .int .i64 k ∧ k ≤ s.length ∧ k ≤ 200 ∧ Hid (∀ t ∈ s.take k, t.size ≤ 10000) ∧ SB wr wr.heap.size v8 (pre ++ (s.take k).flatMap textB) ∧ Below w.heap.size w wr) (fun _ i _ => s.length - (intOf i).toNat)
    case atStart => exact ⟨0, rfl, Nat.zero_le _, Nat.zero_le _, Lib.hid (fun t ht => by simp at ht), by simpa using hs2, hb2⟩
    case round =>
      obtain ⟨k, rfl, hk, hk2, hsm, hs, hbr⟩ := hrel
      by_cases hlt : k < s.length
      · obtain ⟨b, o, rfl, hbl, hcell⟩ := (hr'.below hbr).elem (f := strC) (c := 1) (fun _ => rfl) rfl hlt
        have c0 := hcell 0 _ (by omega) rfl
        have hsn := flat_snoc textB s k hlt
        have htk : ∀ t ∈ s.take (k + 1), t ∈ s.take k ∨ t = s[k] := fun t ht => by
          rw [List.take_succ_eq_append_getElem hlt] at ht
          rcases List.mem_append.1 ht with h | h
          · exact .inl h
          · exact .inr (List.mem_singleton.1 h)
        obtain ⟨x, hx⟩ : ∃ x, x = s[k] := ⟨_, rfl⟩
        rw [← hx, Nat.mul_one, Nat.add_zero] at c0
        rw [← hx] at hsn htk
        have HS := Lib.hid hsn
        have HTK := Lib.hid htk
        clear hx hcell hsn htk
        by_cases hk3 : k < 200
        · by_cases hx1 : x.size ≤ 10000
          · have hpl2 : ((s.take k).flatMap textB).length ≤ 2002000 := by
              have h := textBs_le (s.take k) hsm.out
              have h2 : (s.take k).length ≤ 200 := by rw [List.length_take]; omega
              omega
            go_wp2_with fail
            refine (cStr_any _ (pre ++ (s.take k).flatMap textB) x _ hs (by rw [List.length_append]; omega)).mono ?_
            rintro e w5 ⟨r5, rfl, hown5, hb5⟩
            have hs5 := hown5.sb
            have e5 : pre ++ (s.take k).flatMap textB ++ num x.size ++ x.data.toList = pre ++ (s.take (k + 1)).flatMap textB := by rw [HS.out]; unfold textB; simp
            rw [e5] at hs5
            have hb5' := bstep hbr hb5
            clear e5 hs hown5
            go_wp2_with fail
            go_roundw
            case rel =>
              refine ⟨k + 1, by go_num, by omega, by omega, Lib.hid (fun t ht => ?_), hs5, hb5'⟩
              rcases HTK.out t ht with h | h
              · exact hsm.out t h
              · rw [h]; exact hx1
            case measure => simp [intOf]; omega
          · go_wp2_with fail
            go_ret
            exact ⟨rfl, hbr⟩
        · go_wp2_with fail
          go_ret
          exact ⟨rfl, hbr⟩
      · have hsz2 : ∀ t ∈ s, t.size ≤ 10000 := by
          have h := hsm.out
          rw [List.take_of_length_le (by omega)] at h
          exact h
        have hsl : s.length ≤ 200 := by omega
        rw [List.take_of_length_le (by omega)] at hs
        have hpl2 : (s.flatMap textB).length ≤ 2002000 := by
          have h := textBs_le s hsz2
          omega
        have HSZ := Lib.hid hsz2
        clear hsz2 hsm
        obtain ⟨mi, hmi⟩ : ∃ mi : Int, mi = (many.toNat : Int) % 9 := ⟨_, rfl⟩
        have hmi1 : 0 ≤ mi ∧ mi ≤ 8 := by omega
        obtain ⟨fx, hfx⟩ : ∃ fx, fx = fix 9223372036854775808 (fixN mi) := ⟨_, rfl⟩
        have hfl : fx.length = mi.toNat := by rw [hfx, fix_length]; unfold fixN; omega
        have hfxs : sFix mi (fx, 0) = (leN (fx.take mi.toNat), [], 0) := by
          unfold sFix
          rw [if_neg (by simp), if_neg (by omega), if_neg (by simp only [hfl]; omega)]
          simp only
          rw [List.drop_eq_nil_of_le (by omega)]
        have hcf := cFix_any _ (pre ++ s.flatMap textB) 9223372036854775808 mi wr hs (by rw [List.length_append]; omega) (by decide) (by omega) (by omega)
        rw [← hfx, show ((9223372036854775808 : Nat) : Int) = 9223372036854775808 from rfl, hmi] at hcf
        have hfl8 : fx.length ≤ 8 := by omega
        have HCF := Lib.hid hcf
        have HFX := Lib.hid (And.intro hfxs hmi)
        clear hcf hfxs hfl hfx hmi
        go_wp2_with fail
        refine HCF.out.mono ?_
        rintro e w5 ⟨r5, rfl, hown5, hb5⟩
        have hs5 := hown5.sb
        have hb5' := bstep hbr hb5
        go_wp2_with fail
        refine (cNew_any _ (pre ++ s.flatMap textB ++ fx) w5 hs5 (by simp only [List.length_append]; omega)).mono ?_
        rintro e w6 ⟨R, rfl, hR, hrd, hb6⟩
        have hb6' := bstep hb5' hb6
        have hRw : w.heap.size ≤ R := Nat.le_trans hb5'.size hR
        have hrd6 := hrd.at_
        clear hs hs5 hown5 hrd HCF
        have hrd7 : RdrAt w6 R (((l.take 201).drop 0).flatMap twoB ++ (s.flatMap textB ++ fx)) 0 := by
          rw [List.drop_zero, ← HPRE.out, ← List.append_assoc]; exact hrd6
        clear hrd6
        go_upto_block 4 with fail
        go_cut [] (fun wx => RdrAt wx R (s.flatMap textB ++ fx) 0 ∧ Below w.heap.size w wx)
        case first =>
          go_wp2_with fail
          go_loopw [68] (fun i wr => ∃ k : Nat, i = .int .i64 k ∧ k ≤ l.length ∧ k ≤ 200 ∧ RdrAt wr R (((l.take 201).drop k).flatMap twoB ++ (s.flatMap textB ++ fx)) 0 ∧ Below w.heap.size w wr) (fun i _ => l.length - (intOf i).toNat)
          case atStart => exact ⟨0, rfl, Nat.zero_le _, Nat.zero_le _, hrd7, hb6'⟩
          case round =>
            obtain ⟨k, rfl, hk, hk2, hrd, hbr⟩ := hrel
            by_cases hlt : k < l.length
            · obtain ⟨b, o, rfl, hbl, hcell⟩ := (hr.below hbr).elem (f := u64C) (c := 1) (fun _ => rfl) rfl hlt
              have c0 := hcell 0 _ (by omega) rfl
              have hd : (l.take 201).drop k = l[k] :: (l.take 201).drop (k + 1) := by
                rw [List.drop_eq_getElem_cons (by rw [List.length_take]; omega)]
                congr 1
                simp
              obtain ⟨x, hx⟩ : ∃ x, x = l[k] := ⟨_, rfl⟩
              rw [← hx, Nat.mul_one, Nat.add_zero] at c0
              rw [← hx] at hd
              obtain ⟨rest, hrest⟩ : ∃ rest, rest = ((l.take 201).drop (k + 1)).flatMap twoB ++ (s.flatMap textB ++ fx) := ⟨_, rfl⟩
              have hin : ((l.take 201).drop k).flatMap twoB ++ (s.flatMap textB ++ fx) = num x.toNat ++ (fix x.toNat 8 ++ rest) := by
                rw [hd, hrest, List.flatMap_cons]; unfold twoB; simp
              rw [hin] at hrd
              have hx8 := u64_lt x
              have k1 := fun W h => mNum_any R (num x.toNat ++ (fix x.toNat 8 ++ rest)) 0 W h
              rw [sNum_num x.toNat _ hx8] at k1
              have k2 := fun W h => mFix_any R (fix x.toNat 8 ++ rest) 0 8 W h (by omega) (by omega)
              rw [sFix_fix8 x.toNat _ hx8] at k2
              have HK := Lib.hid (And.intro k1 k2)
              have HRE := Lib.hid hrest
              have hRs : R < wr.heap.size := hrd.lt
              have hsz := hbr.size
              clear hx hd hin hcell hrest k1 k2
              go_wp2_with fail
              refine wp_region_noPanic ?_
              refine wp_region_held_drew (S := fun w' => w'.cell? ⟨b, o + k, none⟩ = some (.int .u64 (x.toNat : Int))) (by kernel_rfl) (by exact c0) (fun hHeld => ?_)
              refine reg_take 0 (v := ?_) (by rfl) (by kernel_rfl) (by kernel_rfl) (by kernel_rfl) (fun _ _ _ h => h) (by rfl) ?_ (by assumption) ?_
              rotate_left
              · (intro wq hSq; (try dsimp only at hSq); go_split_ands; go_simp; (try with_reducible rfl))
              try simp only [Act.put, List.setIfInBounds_toArray, List.set_cons_zero, List.set_cons_succ]
              refine reg_take 2 (v := ?_) (by rfl) (by kernel_rfl) (by kernel_rfl) (by kernel_rfl) (fun _ _ _ h => h) (by rfl) ?_ (by assumption) ?_
              rotate_left
              · (intro wq hSq; (try dsimp only at hSq); go_split_ands; go_simp; (try with_reducible rfl))
              try simp only [Act.put, List.setIfInBounds_toArray, List.set_cons_zero, List.set_cons_succ]
              refine reg_take 3 (v := ?_) (by rfl) (by kernel_rfl) (by kernel_rfl) (by kernel_rfl) (fun _ _ _ h => h) (by rfl) ?_ (by assumption) ?_
              rotate_left
              · (intro wq hSq; (try dsimp only at hSq); go_split_ands; go_simp; (try with_reducible rfl))
              try simp only [Act.put, List.setIfInBounds_toArray, List.set_cons_zero, List.set_cons_succ]
              refine reg_take 4 (v := ?_) (by rfl) (by kernel_rfl) (by kernel_rfl) (by kernel_rfl) (fun _ _ _ h => h) (by rfl) ?_ (by assumption) ?_
              rotate_left
              · (intro wq hSq; (try dsimp only at hSq); go_split_ands; go_simp; (try with_reducible rfl))
              try simp only [Act.put, List.setIfInBounds_toArray, List.set_cons_zero, List.set_cons_succ]
              refine reg_take 5 (v := ?_) (by rfl) (by kernel_rfl) (by kernel_rfl) (by kernel_rfl) (fun _ _ _ h => h) (by rfl) ?_ (by assumption) ?_
              rotate_left
              · (intro wq hSq; (try dsimp only at hSq); go_split_ands; go_simp; (try with_reducible rfl))
              try simp only [Act.put, List.setIfInBounds_toArray, List.set_cons_zero, List.set_cons_succ]
              refine reg_one 1 (by rfl) (by kernel_rfl) (by rfl) (fun K hK => ?_)
              (go_simp; go_at_call 17; refine (HK.out.1 _ (by exact hrd)).mono ?_; rintro e w7 ⟨rfl, hrd7, hg7⟩; have hz7 : wr.heap.size ≤ w7.heap.size := hg7.size; go_wp2_with fail)
              refine hK.out _ _ ?_ (fun hHeld => ?_)
              · exact far_cell2 hg7 (by simp; omega) (by omega) c0
              clear hK K
              try simp only [Act.put, List.setIfInBounds_toArray, List.set_cons_zero, List.set_cons_succ]
              refine reg_take 6 (v := ?_) (by rfl) (by kernel_rfl) (by kernel_rfl) (by kernel_rfl) (fun _ _ _ h => h) (by rfl) ?_ (by assumption) ?_
              rotate_left
              · (intro wq hSq; (try dsimp only at hSq); go_split_ands; go_simp; (try with_reducible rfl))
              try simp only [Act.put, List.setIfInBounds_toArray, List.set_cons_zero, List.set_cons_succ]
              refine reg_take 7 (v := ?_) (by rfl) (by kernel_rfl) (by kernel_rfl) (by kernel_rfl) (fun _ _ _ h => h) (by rfl) ?_ (by assumption) ?_
              rotate_left
              · (intro wq hSq; (try dsimp only at hSq); go_split_ands; go_simp; (try with_reducible rfl))
              try simp only [Act.put, List.setIfInBounds_toArray, List.set_cons_zero, List.set_cons_succ]
              refine reg_take 8 (v := ?_) (by rfl) (by kernel_rfl) (by kernel_rfl) (by kernel_rfl) (fun _ _ _ h => h) (by rfl) ?_ (by assumption) ?_
              rotate_left
              · (intro wq hSq; (try dsimp only at hSq); go_split_ands; go_simp; (try with_reducible rfl))
              try simp only [Act.put, List.setIfInBounds_toArray, List.set_cons_zero, List.set_cons_succ]
              refine reg_take 10 (v := ?_) (by rfl) (by kernel_rfl) (by kernel_rfl) (by kernel_rfl) (fun _ _ _ h => h) (by rfl) ?_ (by assumption) ?_
              rotate_left
              · (intro wq hSq; (try dsimp only at hSq); go_split_ands; go_simp; (try with_reducible rfl))
              try simp only [Act.put, List.setIfInBounds_toArray, List.set_cons_zero, List.set_cons_succ]
              refine reg_take 11 (v := ?_) (by rfl) (by kernel_rfl) (by kernel_rfl) (by kernel_rfl) (fun _ _ _ h => h) (by rfl) ?_ (by assumption) ?_
              rotate_left
              · (intro wq hSq; (try dsimp only at hSq); go_split_ands; go_simp; (try with_reducible rfl))
              try simp only [Act.put, List.setIfInBounds_toArray, List.set_cons_zero, List.set_cons_succ]
              refine reg_take 12 (v := ?_) (by rfl) (by kernel_rfl) (by kernel_rfl) (by kernel_rfl) (fun _ _ _ h => h) (by rfl) ?_ (by assumption) ?_
              rotate_left
              · (intro wq hSq; (try dsimp only at hSq); go_split_ands; go_simp; (try with_reducible rfl))
              try simp only [Act.put, List.setIfInBounds_toArray, List.set_cons_zero, List.set_cons_succ]
              refine reg_take 13 (v := ?_) (by rfl) (by kernel_rfl) (by kernel_rfl) (by kernel_rfl) (fun _ _ _ h => h) (by rfl) ?_ (by assumption) ?_
              rotate_left
              · (intro wq hSq; (try dsimp only at hSq); go_split_ands; go_simp; (try with_reducible rfl))
              try simp only [Act.put, List.setIfInBounds_toArray, List.set_cons_zero, List.set_cons_succ]
              refine reg_one 9 (by rfl) (by kernel_rfl) (by rfl) (fun K hK => ?_)
              (go_simp; go_at_call 21; refine (HK.out.2 _ hrd7).mono ?_; rintro e w8 ⟨rfl, hrd8, hg8⟩; go_wp2_with fail)
              refine hK.out _ _ ?_ (fun hHeld => ?_)
              · exact far_cell2 hg8 (by omega) (by omega) (far_cell2 (w := wr.drew) hg7 (by simp; omega) (by omega) c0)
              clear hK K
              try simp only [Act.put, List.setIfInBounds_toArray, List.set_cons_zero, List.set_cons_succ]
              refine reg_take 14 (v := ?_) (by rfl) (by kernel_rfl) (by kernel_rfl) (by kernel_rfl) (fun _ _ _ h => h) (by rfl) ?_ (by assumption) ?_
              rotate_left
              · (intro wq hSq; (try dsimp only at hSq); go_split_ands; go_simp; (try with_reducible rfl))
              try simp only [Act.put, List.setIfInBounds_toArray, List.set_cons_zero, List.set_cons_succ]
              refine reg_take 15 (v := ?_) (by rfl) (by kernel_rfl) (by kernel_rfl) (by kernel_rfl) (fun _ _ _ h => h) (by rfl) ?_ (by assumption) ?_
              rotate_left
              · (intro wq hSq; (try dsimp only at hSq); go_split_ands; go_simp; (try with_reducible rfl))
              try simp only [Act.put, List.setIfInBounds_toArray, List.set_cons_zero, List.set_cons_succ]
              refine wpAnyH_done (by kernel_rfl) (noPanic_mk ?_) _
              have hb8 : Below w.heap.size w w8 := (bdrew hbr).trans ((gbelow hg7 (by simp; omega) hRw).trans (gbelow hg8 (by omega) hRw))
              rw [HRE.out] at hrd8
              clear hrd hrd7 hg7 hg8
              by_cases hk3 : k < 200
              · go_wp2_with fail
                go_roundw
                case rel => exact ⟨k + 1, by go_num, by omega, by omega, hrd8, hb8⟩
                case measure => simp [intOf]; omega
              · go_wp2_with fail
                go_meet
                have e : k = 200 := by omega
                subst e
                refine ⟨?_, hb8⟩
                rw [List.drop_eq_nil_of_le (by rw [List.length_take]; omega)] at hrd8
                simpa using hrd8
            · go_wp2_with fail
              go_meet
              refine ⟨?_, hbr⟩
              rw [List.drop_eq_nil_of_le (by rw [List.length_take]; omega)] at hrd
              simpa using hrd
        case rest =>
          obtain ⟨hrd9, hb9⟩ := hcut
          clear hrd7
          go_wp2_with fail
          go_loopw [92] (fun i wr => ∃ k : Nat, i = .int .i64 k ∧ k ≤ s.length ∧ RdrAt wr R ((s.drop k).flatMap textB ++ fx) 0 ∧ Below w.heap.size w wr) (fun i _ => s.length - (intOf i).toNat)
          case atStart => exact ⟨0, rfl, Nat.zero_le _, by rw [List.drop_zero]; exact hrd9, hb9⟩
          case round =>
            obtain ⟨k, rfl, hk, hrd, hbr⟩ := hrel
            have hRs : R < wr.heap.size := hrd.lt
            have hsz := hbr.size
            by_cases hlt : k < s.length
            · obtain ⟨b, o, rfl, hbl, hcell⟩ := (hr'.below hbr).elem (f := strC) (c := 1) (fun _ => rfl) rfl hlt
              have c0 := hcell 0 _ (by omega) rfl
              have hx1 := HSZ.out _ (List.getElem_mem hlt)
              have hd : s.drop k = s[k] :: s.drop (k + 1) := List.drop_eq_getElem_cons hlt
              obtain ⟨x, hx⟩ : ∃ x, x = s[k] := ⟨_, rfl⟩
              rw [← hx, Nat.mul_one, Nat.add_zero] at c0
              rw [← hx] at hd hx1
              obtain ⟨rest, hrest⟩ : ∃ rest, rest = (s.drop (k + 1)).flatMap textB ++ fx := ⟨_, rfl⟩
              have hin : (s.drop k).flatMap textB ++ fx = num x.size ++ x.data.toList ++ rest := by
                rw [hd, hrest, List.flatMap_cons]; unfold textB; simp
              rw [hin] at hrd
              have hxs := toList_size x
              have ht := sStr_str (x.size : Int) x.data.toList rest (by omega) (by omega)
              rw [hxs] at ht
              have k1 := fun W h => mStr_any R (num x.size ++ x.data.toList ++ rest) 0 (x.size : Int) W h (by omega)
              rw [ht] at k1
              have ex : (⟨x.data.toList.toArray⟩ : ByteArray) = x := by simp
              simp only [ex] at k1
              have HK := Lib.hid k1
              have HRE := Lib.hid hrest
              clear hx hd hin hcell hrest k1 ht hxs ex
              go_wp2_with fail
              refine wp_region_noPanic ?_
              refine wp_region_held_drew (S := fun w' => w'.cell? ⟨b, o + k, none⟩ = some (.string x)) (by kernel_rfl) (by exact c0) (fun hHeld => ?_)
              refine reg_take 0 (v := ?_) (by rfl) (by kernel_rfl) (by kernel_rfl) (by kernel_rfl) (fun _ _ _ h => h) (by rfl) ?_ (by assumption) ?_
              rotate_left
              · (intro wq hSq; (try dsimp only at hSq); go_split_ands; go_simp; (try with_reducible rfl))
              try simp only [Act.put, List.setIfInBounds_toArray, List.set_cons_zero, List.set_cons_succ]
              refine reg_take 1 (v := ?_) (by rfl) (by kernel_rfl) (by kernel_rfl) (by kernel_rfl) (fun _ _ _ h => h) (by rfl) ?_ (by assumption) ?_
              rotate_left
              · (intro wq hSq; (try dsimp only at hSq); go_split_ands; go_simp; (try with_reducible rfl))
              try simp only [Act.put, List.setIfInBounds_toArray, List.set_cons_zero, List.set_cons_succ]
              refine reg_take 2 (v := ?_) (by rfl) (by kernel_rfl) (by kernel_rfl) (by kernel_rfl) (fun _ _ _ h => h) (by rfl) ?_ (by assumption) ?_
              rotate_left
              · (intro wq hSq; (try dsimp only at hSq); go_split_ands; go_simp; (try with_reducible rfl))
              try simp only [Act.put, List.setIfInBounds_toArray, List.set_cons_zero, List.set_cons_succ]
              refine reg_take 3 (v := ?_) (by rfl) (by kernel_rfl) (by kernel_rfl) (by kernel_rfl) (fun _ _ _ h => h) (by rfl) ?_ (by assumption) ?_
              rotate_left
              · (intro wq hSq; (try dsimp only at hSq); go_split_ands; go_simp; (try with_reducible rfl))
              try simp only [Act.put, List.setIfInBounds_toArray, List.set_cons_zero, List.set_cons_succ]
              refine reg_take 4 (v := ?_) (by rfl) (by kernel_rfl) (by kernel_rfl) (by kernel_rfl) (fun _ _ _ h => h) (by rfl) ?_ (by assumption) ?_
              rotate_left
              · (intro wq hSq; (try dsimp only at hSq); go_split_ands; go_simp; (try with_reducible rfl))
              try simp only [Act.put, List.setIfInBounds_toArray, List.set_cons_zero, List.set_cons_succ]
              refine reg_take 5 (v := ?_) (by rfl) (by kernel_rfl) (by kernel_rfl) (by kernel_rfl) (fun _ _ _ h => h) (by rfl) ?_ (by assumption) ?_
              rotate_left
              · (intro wq hSq; (try dsimp only at hSq); go_split_ands; go_simp; (try with_reducible rfl))
              try simp only [Act.put, List.setIfInBounds_toArray, List.set_cons_zero, List.set_cons_succ]
              refine reg_take 7 (v := ?_) (by rfl) (by kernel_rfl) (by kernel_rfl) (by kernel_rfl) (fun _ _ _ h => h) (by rfl) ?_ (by assumption) ?_
              rotate_left
              · (intro wq hSq; (try dsimp only at hSq); go_split_ands; go_simp; (try with_reducible rfl))
              try simp only [Act.put, List.setIfInBounds_toArray, List.set_cons_zero, List.set_cons_succ]
              refine reg_take 8 (v := ?_) (by rfl) (by kernel_rfl) (by kernel_rfl) (by kernel_rfl) (fun _ _ _ h => h) (by rfl) ?_ (by assumption) ?_
              rotate_left
              · (intro wq hSq; (try dsimp only at hSq); go_split_ands; go_simp; (try with_reducible rfl))
              try simp only [Act.put, List.setIfInBounds_toArray, List.set_cons_zero, List.set_cons_succ]
              refine reg_take 9 (v := ?_) (by rfl) (by kernel_rfl) (by kernel_rfl) (by kernel_rfl) (fun _ _ _ h => h) (by rfl) ?_ (by assumption) ?_
              rotate_left
              · (intro wq hSq; (try dsimp only at hSq); go_split_ands; go_simp; (try with_reducible rfl))
              try simp only [Act.put, List.setIfInBounds_toArray, List.set_cons_zero, List.set_cons_succ]
              refine reg_take 10 (v := ?_) (by rfl) (by kernel_rfl) (by kernel_rfl) (by kernel_rfl) (fun _ _ _ h => h) (by rfl) ?_ (by assumption) ?_
              rotate_left
              · (intro wq hSq; (try dsimp only at hSq); go_split_ands; go_simp; (try with_reducible rfl))
              try simp only [Act.put, List.setIfInBounds_toArray, List.set_cons_zero, List.set_cons_succ]
              refine reg_one 6 (by rfl) (by kernel_rfl) (by rfl) (fun K hK => ?_)
              (go_simp; go_at_call 19; refine (HK.out _ (by exact hrd)).mono ?_; rintro e w7 ⟨rfl, hrd7, hg7⟩; go_wp2_with fail)
              refine hK.out _ _ ?_ (fun hHeld => ?_)
              · exact far_cell2 hg7 (by simp; omega) (by omega) c0
              clear hK K
              try simp only [Act.put, List.setIfInBounds_toArray, List.set_cons_zero, List.set_cons_succ]
              refine reg_take 11 (v := ?_) (by rfl) (by kernel_rfl) (by kernel_rfl) (by kernel_rfl) (fun _ _ _ h => h) (by rfl) ?_ (by assumption) ?_
              rotate_left
              · (intro wq hSq; (try dsimp only at hSq); go_split_ands; go_simp; (try with_reducible rfl))
              try simp only [Act.put, List.setIfInBounds_toArray, List.set_cons_zero, List.set_cons_succ]
              refine wpAnyH_done (by kernel_rfl) (noPanic_mk ?_) _
              have hb8 : Below w.heap.size w w7 := (bdrew hbr).trans (gbelow hg7 (by simp; omega) hRw)
              rw [HRE.out] at hrd7
              clear hrd hg7
              go_wp2_with fail
              go_roundw
              case rel => exact ⟨k + 1, by go_num, by omega, hrd7, hb8⟩
              case measure => simp [intOf]; omega
            · rw [List.drop_eq_nil_of_le (by omega)] at hrd
              simp only [List.flatMap_nil, List.nil_append] at hrd
              have hf := mFix_any R fx 0 mi wr hrd (by omega) (by omega)
              rw [HFX.out.1, HFX.out.2] at hf
              have HF := Lib.hid hf
              clear hf
              go_wp2_with fail
              refine HF.out.mono ?_
              rintro e w7 ⟨rfl, hrd7, hg7⟩
              have hend := mEnd_any R [] 0 w7 hrd7
              rw [s4] at hend
              go_wp2_with fail
              refine hend.mono ?_
              rintro e w8 ⟨rfl, rfl⟩
              go_wp2
              go_ret
              exact ⟨rfl, hbr.trans (gbelow hg7 (by omega) hRw)⟩
end Go.Proofs.Ytaefhnmdombadaa
