/-
  What is proved here: slices.SortStableFunc on a list of metas that stands in order turns nothing, at this seat's numbers. Conditions: the comparison says so of each two; the length.
-/
import Derived.Test.YtchjknbideoieaaGreatDoorK34
import Derived.Test.YtchjknbideoieaaGreatDoorK14
import Derived.Test.YtchjknbideoieaaGreatDoorK06
import Derived.Lib.MinMax
import Derived.Shelf.Abstract
namespace Go.Proofs.YtchjknbideoieaaGreatDoor
open Go.RowKit Go.Great Go.Proofs
abbrev Md := {m : Mt // m.root.length = 32}
def mdC (x : Md) : List Value := mtC x.1
theorem mdC_length (x : Md) : (mdC x).length = 40 := by simp [mdC, mtC, bv_length, x.2]
def CmpUp (l : List Md) (u : Value) (w : World) : Prop := ∀ i j (hij : i < j) (hj : j < l.length) (W : World), Below w.heap.size w W →
  Calls Tryz.prog 29 #[.agg (mdC l[j]).toArray, .agg (mdC (l[i]'(by omega))).toArray, u] W fun e w' => e = .returned (.int .i64 1) ∧ Below W.heap.size W w'
theorem CmpUp.on {l : List Md} {u : Value} {w w' : World} (h : CmpUp l u w) (hb : Below w.heap.size w w') : CmpUp l u w' := fun i j hij hj W hW => h i j hij hj W (bstep hb hW)
set_option maxRecDepth 100000 in
theorem infoMd : (Tryz.prog.info? 55).map (·.size) = some 40 := by kernel_rfl
set_option maxRecDepth 100000 in
theorem two_md {l : List Md} {u v : Value} {w : World} {i j n : Nat} (hv : SG mdC 40 w w.heap.size v l) (hn : n = l.length) (hij : i < j) (hj : j < n) (hc : CmpUp l u w) :
    ∃ b o k X Y, v = .slice (some ⟨b, o, none⟩) n k ∧ b < w.heap.size ∧ w.rangeAt b (o + i * 40) (mdC X) ∧ w.rangeAt b (o + j * 40) (mdC Y) ∧
      ∀ W, Below w.heap.size w W → Calls Tryz.prog 29 #[.agg (mdC Y).toArray, .agg (mdC X).toArray, u] W fun e w' => e = .returned (.int .i64 1) ∧ Below W.heap.size W w' := by
  subst hn
  obtain ⟨b, o, k, e, hb, hr⟩ := hv.at_ mdC_length (by omega)
  exact ⟨b, o, k, l[i]'(by omega), l[j], e, hb, hr i (by omega), hr j hj, fun W hW => hc i j hij hj W hW⟩
theorem SGr {w w' : World} {b o : Nat} {xs : List Value} (h : Below w.heap.size w w') (hb : b < w.heap.size) (hr : w.rangeAt b o xs) : w'.rangeAt b o xs := fun j v hv => (h.cell (p := ⟨b, o + j, none⟩) hb).trans (hr j v hv)
set_option maxRecDepth 100000 in
set_option maxHeartbeats 2000000 in
theorem kIns_any (l : List Md) (n a b : Nat) (A : Option Addr) (c : Nat) (u : Value) (w : World) (hv : SG mdC 40 w w.heap.size (.slice A n c) l) (hn : n = l.length) (ha : a ≤ b) (hb : b ≤ n) (hl : n ≤ 100000) (hc : CmpUp l u w) :
    Calls Tryz.prog 98 #[.slice A n c, .int .i64 (a : Int), .int .i64 (b : Int), .func (.func 29) #[] #[u]] w fun e w' => e = .returned (.tuple #[]) ∧ Below w.heap.size w w' := by
  have eg : ∀ args w, (callFunc 29 args).run Tryz.prog w = .ok (.enter 29 args) w := enters_of Tryz.func29 (by kernel_rfl) rfl
  have HV := Lib.hid hv
  have HC := Lib.hid hc
  have HN := Lib.hid hn
  clear hv hc hn
  go_enter Tryz.func98, Tryz.ntmps98
  go_wp2_with fail
  go_loopw [8] (fun iv wr => ∃ i : Nat, iv = .int .i64 (i : Int) ∧ a < i ∧ i ≤ n + 1 ∧ Below w.heap.size w wr) (fun iv _ => n + 1 - (intOf iv).toNat)
  case atStart => exact ⟨a + 1, by go_num, by omega, by omega, bself w⟩
  case round =>
    obtain ⟨i, rfl, hi, hin, hbr⟩ := hrel
    obtain ⟨p, rfl⟩ : ∃ p, i = p + 1 := ⟨i - 1, by omega⟩
    by_cases hlt : p + 1 < b
    · obtain ⟨b0, o, k, X, Y, e, hb0, hX, hY, hcall⟩ := two_md (i := p) (j := p + 1) (HV.out.on hbr) HN.out (by omega) (by omega) (HC.out.on hbr)
      injection e with e1 _ e3
      subst e1; subst e3
      have HCall := Lib.hid hcall
      obtain ⟨wo, hwo⟩ : ∃ wo, wo = wr := ⟨_, rfl⟩
      subst hwo
      have gp : (p : Int) + 1 - 1 = (p : Int) := by omega
      have gpw : IntKind.i64.wrap (p : Int) = (p : Int) := by rw [IntKind.wrap_i64]; omega
      have hpn : (p : Int) < (n : Int) := by omega
      have hpn1 : (p : Int) + 1 < (n : Int) := by omega
      have hp0 : (0 : Int) ≤ (p : Int) + 1 := by omega
      have hpa : decide ((a : Int) < (p : Int) + 1) = true := by simp; omega
      clear hcall
      go_wp2_with fail
      go_loopw [9] (fun jv wi => jv = .int .i64 ((p : Int) + 1) ∧ wi = wo) (fun _ _ => 0)
      case atStart => exact ⟨rfl, rfl⟩
      case round =>
        obtain ⟨rfl, rfl⟩ := hrel
        go_upto_region 4 with fail
        refine wp_region_noPanic ?_
        refine wp_region_held_drew (S := fun W => True ∧ W.rangeAt b0 (o + p * 40) (mdC X) ∧ W.rangeAt b0 (o + (p + 1) * 40) (mdC Y)) (by kernel_rfl) ⟨trivial, hX, hY⟩ (fun hHeld => ?_)
        refine rtk 0 ?_ ?_ ?_
        rotate_left
        · (intro wq hSq; (try dsimp only at hSq); go_split_ands; go_simp; (try with_reducible rfl))
        try simp only [Act.put, q1, q2, q3]
        refine rtk 1 ?_ ?_ ?_
        rotate_left
        · (intro wq hSq; (try dsimp only at hSq); go_split_ands; go_simp; (try with_reducible rfl))
        try simp only [Act.put, q1, q2, q3]
        refine rtk 2 ?_ ?_ ?_
        rotate_left
        · (intro wq hSq; (try dsimp only at hSq); go_split_ands; go_simp; (try with_reducible rfl))
        try simp only [Act.put, q1, q2, q3]
        refine rtk 3 ?_ ?_ ?_
        rotate_left
        · (intro wq hSq; (try dsimp only at hSq); go_split_ands; go_simp; (try with_reducible rfl))
        try simp only [Act.put, q1, q2, q3]
        refine rtk 4 ?_ ?_ ?_
        rotate_left
        · (intro wq hSq; (try dsimp only at hSq); go_split_ands; go_simp; (try with_reducible rfl))
        try simp only [Act.put, q1, q2, q3]
        refine rtk 5 ?_ ?_ ?_
        rotate_left
        · (intro wq hSq; (try dsimp only at hSq); go_split_ands; go_simp; (try with_reducible rfl))
        try simp only [Act.put, q1, q2, q3]
        refine rtk 6 ?_ ?_ ?_
        rotate_left
        · (intro wq hSq; (try dsimp only at hSq); go_split_ands; go_simp; (try with_reducible rfl))
        try simp only [Act.put, q1, q2, q3]
        refine rtk 7 ?_ ?_ ?_
        rotate_left
        · (intro wq hSq; (try dsimp only at hSq); go_split_ands; go_simp; (try with_reducible rfl))
        try simp only [Act.put, q1, q2, q3]
        refine reg_take 8 (v := .agg (mdC Y).toArray) (by rfl) (by kernel_rfl) (by kernel_rfl) (by kernel_rfl) (fun _ _ _ h => h) (by rfl) ?_ (by assumption) ?_
        · (intro wq hSq; exact exec_loadG 55 Tryz.underlying55 rfl infoMd (.tmp 25) rfl b0 (o + (p + 1) * 40) rfl (mdC Y) (mdC_length Y) hSq.2.2)
        try simp only [Act.put, q1, q2, q3]
        refine rtk 9 ?_ ?_ ?_
        rotate_left
        · (intro wq hSq; (try dsimp only at hSq); go_split_ands; go_simp; (try with_reducible rfl))
        try simp only [Act.put, q1, q2, q3]
        refine rtk 10 ?_ ?_ ?_
        rotate_left
        · (intro wq hSq; (try dsimp only at hSq); go_split_ands; go_simp; (try with_reducible rfl))
        try simp only [Act.put, q1, q2, q3]
        refine rtk 11 ?_ ?_ ?_
        rotate_left
        · (intro wq hSq; (try dsimp only at hSq); go_split_ands; go_simp; (try with_reducible rfl))
        try simp only [Act.put, q1, q2, q3]
        refine rtk 12 ?_ ?_ ?_
        rotate_left
        · (intro wq hSq; (try dsimp only at hSq); go_split_ands; go_simp; (try with_reducible rfl))
        try simp only [Act.put, q1, q2, q3]
        refine reg_take 13 (v := .agg (mdC X).toArray) (by rfl) (by kernel_rfl) (by kernel_rfl) (by kernel_rfl) (fun _ _ _ h => h) (by rfl) ?_ (by assumption) ?_
        · (intro wq hSq; exact exec_loadG 55 Tryz.underlying55 rfl infoMd (.tmp 30) rfl b0 (o + p * 40) rfl (mdC X) (mdC_length X) hSq.2.1)
        try simp only [Act.put, q1, q2, q3]
        refine reg_one 14 (by rfl) (by kernel_rfl) (by rfl) (fun K hK => ?_)
        (go_simp; go_at_fn 29; refine (HCall.out _ (bdrew (bself wr))).mono ?_; rintro _ w2 ⟨rfl, hb2⟩; have b2 := bstep (bdrew (bself wr)) hb2; go_wp2_with fail)
        refine hK.out _ _ ?_ (fun hHeld => ?_)
        · exact ⟨trivial, SGr b2 hb0 hX, SGr b2 hb0 hY⟩
        clear hK K
        try simp only [Act.put, q1, q2, q3]
        refine rtk 15 ?_ ?_ ?_
        rotate_left
        · (intro wq hSq; (try dsimp only at hSq); go_split_ands; go_simp; (try with_reducible rfl))
        try simp only [Act.put, q1, q2, q3]
        refine rtk 16 ?_ ?_ ?_
        rotate_left
        · (intro wq hSq; (try dsimp only at hSq); go_split_ands; go_simp; (try with_reducible rfl))
        try simp only [Act.put, q1, q2, q3]
        refine wpAnyH_done (by kernel_rfl) (noPanic_mk ?_) _
        clear hHeld
        go_wp2_with fail
        go_roundw
        case rel => exact ⟨p + 1 + 1, by go_num, by omega, by omega, bstep hbr b2⟩
        case measure => simp [intOf]; omega
    · have hlf : decide ((p : Int) + 1 < (b : Int)) = false := by simp; omega
      go_wp2_with fail
      go_end0
      exact ⟨rfl, hbr⟩
theorem mid_facts (i j h : Nat) (hh : h = (i + j) / 2) (hj : i ≤ 100000) (hj2 : j ≤ 100000) : IntKind.i64.wrap ((i : Int) + (j : Int)) = (i : Int) + (j : Int) ∧ IntKind.u64.wrap ((i : Int) + (j : Int)) = (i : Int) + (j : Int) ∧ ((i : Int) + (j : Int)) / 2 = (h : Int) ∧ IntKind.u64.wrap (h : Int) = (h : Int) ∧ IntKind.i64.wrap (h : Int) = (h : Int) := by
  refine ⟨by rw [IntKind.wrap_i64]; omega, by rw [IntKind.wrap_u64]; omega, by omega, by rw [IntKind.wrap_u64]; omega, by rw [IntKind.wrap_i64]; omega⟩
set_option maxRecDepth 100000 in
set_option maxHeartbeats 4000000 in
theorem kSym_any (l : List Md) (n : Nat) (A : Option Addr) (c : Nat) (u : Value) (hn : n = l.length) (hl : n ≤ 50000) : ∀ (f a m b : Nat) (w : World), b - a ≤ f → a < m → m < b → b ≤ n → SG mdC 40 w w.heap.size (.slice A n c) l → CmpUp l u w →
    Calls Tryz.prog 99 #[.slice A n c, .int .i64 (a : Int), .int .i64 (m : Int), .int .i64 (b : Int), .func (.func 29) #[] #[u]] w fun e w' => e = .returned (.tuple #[]) ∧ Below w.heap.size w w' := by
  intro f
  induction f with
  | zero => intro a m b w h1 h2 h3; omega
  | succ f ih =>
    intro a m b w hf ham hmb hbn hv hc
    have eg : ∀ args w, (callFunc 29 args).run Tryz.prog w = .ok (.enter 29 args) w := enters_of Tryz.func29 (by kernel_rfl) rfl
    have HV := Lib.hid hv
    have HC := Lib.hid hc
    have HN := Lib.hid hn
    have IH := Lib.hid ih
    clear hv hc hn ih
    have hmi : IntKind.i64.wrap ((m : Int) - (a : Int)) = (m : Int) - (a : Int) := by rw [IntKind.wrap_i64]; omega
    have hbi : IntKind.i64.wrap ((b : Int) - (m : Int)) = (b : Int) - (m : Int) := by rw [IntKind.wrap_i64]; omega
    by_cases h1 : m = a + 1
    · have e1 : ((m : Int) - (a : Int) == 1) = true := by rw [beq_iff_eq]; omega
      have hm1 : (m : Int) - 1 = (a : Int) := by omega
      have ham2 : ¬ (a : Int) < (a : Int) := by omega
      have gaw : IntKind.i64.wrap (a : Int) = (a : Int) := by rw [IntKind.wrap_i64]; omega
      have H1 := Lib.hid h1
      clear h1
      go_enter Tryz.func99, Tryz.ntmps99
      go_wp2_with fail
      go_loopw [10, 11] (fun iv jv wr => ∃ j : Nat, iv = .int .i64 (m : Int) ∧ jv = .int .i64 (j : Int) ∧ m ≤ j ∧ j ≤ b ∧ Below w.heap.size w wr) (fun _ jv _ => (intOf jv).toNat)
      case atStart => exact ⟨b, rfl, rfl, by omega, by omega, bself w⟩
      case round =>
        obtain ⟨j, rfl, rfl, hj1, hj2, hbr⟩ := hrel
        by_cases hlt : m < j
        · obtain ⟨h, hh⟩ : ∃ h, h = (m + j) / 2 := ⟨_, rfl⟩
          obtain ⟨f1, f2, f3, f4, f5⟩ := mid_facts m j h hh (by omega) (by omega)
          have hh1 : m ≤ h ∧ h < j := by omega
          obtain ⟨b0, o, k, X, Y, e, hb0, hX, hY, hcall⟩ := two_md (i := a) (j := h) (HV.out.on hbr) HN.out (by omega) (by omega) (HC.out.on hbr)
          injection e with e1 _ e3
          subst e1; subst e3
          have HCall := Lib.hid hcall
          have hpn : (a : Int) < (n : Int) := by omega
          have hpn1 : (h : Int) < (n : Int) := by omega
          have hlti : (m : Int) < (j : Int) := by omega
          clear hcall hh
          go_upto_region 5 with fail
          refine wp_region_noPanic ?_
          refine wp_region_held_drew (S := fun W => True ∧ W.rangeAt b0 (o + a * 40) (mdC X) ∧ W.rangeAt b0 (o + h * 40) (mdC Y)) (by kernel_rfl) ⟨trivial, hX, hY⟩ (fun hHeld => ?_)
          refine rtk 0 ?_ ?_ ?_
          rotate_left
          · (intro wq hSq; (try dsimp only at hSq); go_split_ands; go_simp; (try with_reducible rfl))
          try simp only [Act.put, q1, q2, q3]
          refine rtk 1 ?_ ?_ ?_
          rotate_left
          · (intro wq hSq; (try dsimp only at hSq); go_split_ands; go_simp; (try with_reducible rfl))
          try simp only [Act.put, q1, q2, q3]
          refine rtk 2 ?_ ?_ ?_
          rotate_left
          · (intro wq hSq; (try dsimp only at hSq); go_split_ands; go_simp; (try with_reducible rfl))
          try simp only [Act.put, q1, q2, q3]
          refine rtk 3 ?_ ?_ ?_
          rotate_left
          · (intro wq hSq; (try dsimp only at hSq); go_split_ands; go_simp; (try with_reducible rfl))
          try simp only [Act.put, q1, q2, q3]
          refine reg_take 4 (v := .agg (mdC Y).toArray) (by rfl) (by kernel_rfl) (by kernel_rfl) (by kernel_rfl) (fun _ _ _ h => h) (by rfl) ?_ (by assumption) ?_
          · (intro wq hSq; exact exec_loadG 55 Tryz.underlying55 rfl infoMd (.tmp 43) rfl b0 (o + h * 40) rfl (mdC Y) (mdC_length Y) hSq.2.2)
          try simp only [Act.put, q1, q2, q3]
          refine rtk 5 ?_ ?_ ?_
          rotate_left
          · (intro wq hSq; (try dsimp only at hSq); go_split_ands; go_simp; (try with_reducible rfl))
          try simp only [Act.put, q1, q2, q3]
          refine rtk 6 ?_ ?_ ?_
          rotate_left
          · (intro wq hSq; (try dsimp only at hSq); go_split_ands; go_simp; (try with_reducible rfl))
          try simp only [Act.put, q1, q2, q3]
          refine rtk 7 ?_ ?_ ?_
          rotate_left
          · (intro wq hSq; (try dsimp only at hSq); go_split_ands; go_simp; (try with_reducible rfl))
          try simp only [Act.put, q1, q2, q3]
          refine reg_take 8 (v := .agg (mdC X).toArray) (by rfl) (by kernel_rfl) (by kernel_rfl) (by kernel_rfl) (fun _ _ _ h => h) (by rfl) ?_ (by assumption) ?_
          · (intro wq hSq; exact exec_loadG 55 Tryz.underlying55 rfl infoMd (.tmp 47) rfl b0 (o + a * 40) rfl (mdC X) (mdC_length X) hSq.2.1)
          try simp only [Act.put, q1, q2, q3]
          refine reg_one 9 (by rfl) (by kernel_rfl) (by rfl) (fun K hK => ?_)
          (go_simp; go_at_fn 29; refine (HCall.out _ (bdrew (bself wr))).mono ?_; rintro _ w2 ⟨rfl, hb2⟩; have b2 := bstep (bdrew (bself wr)) hb2; go_wp2_with fail)
          refine hK.out _ _ ?_ (fun hHeld => ?_)
          · exact ⟨trivial, SGr b2 hb0 hX, SGr b2 hb0 hY⟩
          clear hK K
          try simp only [Act.put, q1, q2, q3]
          refine rtk 10 ?_ ?_ ?_
          rotate_left
          · (intro wq hSq; (try dsimp only at hSq); go_split_ands; go_simp; (try with_reducible rfl))
          try simp only [Act.put, q1, q2, q3]
          refine wpAnyH_done (by kernel_rfl) (noPanic_mk ?_) _
          clear hHeld
          go_wp2_with fail
          go_roundw
          case rel => exact ⟨h, rfl, rfl, by omega, by omega, bstep hbr b2⟩
          case measure => simp [intOf]; omega
        · obtain rfl : j = m := by omega
          obtain ⟨wo, hwo⟩ : ∃ wo, wo = wr := ⟨_, rfl⟩
          subst hwo
          go_wp2_with fail
          go_loopw [13] (fun kv wi => kv = .int .i64 (a : Int) ∧ wi = wo) (fun _ _ => 0)
          case atStart => exact ⟨rfl, rfl⟩
          case round =>
            obtain ⟨rfl, rfl⟩ := hrel
            go_wp2_with fail
            refine bodyPost_ret (results_none rfl _ _ _) rfl ?_
            exact ⟨rfl, hbr⟩
    · have e1 : ((m : Int) - (a : Int) == 1) = false := by rw [beq_eq_false_iff_ne]; omega
      by_cases h2 : b = m + 1
      · have e2 : ((b : Int) - (m : Int) == 1) = true := by rw [beq_iff_eq]; omega
        have H2 := Lib.hid h2
        clear h1 h2
        go_enter Tryz.func99, Tryz.ntmps99
        go_wp2_with fail
        go_loopw [14, 15] (fun iv jv wr => ∃ i : Nat, iv = .int .i64 (i : Int) ∧ jv = .int .i64 (m : Int) ∧ a ≤ i ∧ i ≤ m ∧ Below w.heap.size w wr) (fun iv _ _ => m - (intOf iv).toNat)
        case atStart => exact ⟨a, rfl, rfl, by omega, by omega, bself w⟩
        case round =>
          obtain ⟨i, rfl, rfl, hi1, hi2, hbr⟩ := hrel
          by_cases hlt : i < m
          · obtain ⟨h, hh⟩ : ∃ h, h = (i + m) / 2 := ⟨_, rfl⟩
            obtain ⟨f1, f2, f3, f4, f5⟩ := mid_facts i m h hh (by omega) (by omega)
            have hh1 : i ≤ h ∧ h < m := by omega
            obtain ⟨b0, o, k, X, Y, e, hb0, hX, hY, hcall⟩ := two_md (i := h) (j := m) (HV.out.on hbr) HN.out (by omega) (by omega) (HC.out.on hbr)
            injection e with e1 _ e3
            subst e1; subst e3
            have HCall := Lib.hid hcall
            have hpn : (m : Int) < (n : Int) := by omega
            have hpn1 : (h : Int) < (n : Int) := by omega
            have hlti : (i : Int) < (m : Int) := by omega
            clear hcall hh
            go_upto_region 17 with fail
            refine wp_region_noPanic ?_
            refine wp_region_held_drew (S := fun W => True ∧ W.rangeAt b0 (o + h * 40) (mdC X) ∧ W.rangeAt b0 (o + m * 40) (mdC Y)) (by kernel_rfl) ⟨trivial, hX, hY⟩ (fun hHeld => ?_)
            refine rtk 0 ?_ ?_ ?_
            rotate_left
            · (intro wq hSq; (try dsimp only at hSq); go_split_ands; go_simp; (try with_reducible rfl))
            try simp only [Act.put, q1, q2, q3]
            refine rtk 1 ?_ ?_ ?_
            rotate_left
            · (intro wq hSq; (try dsimp only at hSq); go_split_ands; go_simp; (try with_reducible rfl))
            try simp only [Act.put, q1, q2, q3]
            refine rtk 2 ?_ ?_ ?_
            rotate_left
            · (intro wq hSq; (try dsimp only at hSq); go_split_ands; go_simp; (try with_reducible rfl))
            try simp only [Act.put, q1, q2, q3]
            refine rtk 3 ?_ ?_ ?_
            rotate_left
            · (intro wq hSq; (try dsimp only at hSq); go_split_ands; go_simp; (try with_reducible rfl))
            try simp only [Act.put, q1, q2, q3]
            refine reg_take 4 (v := .agg (mdC Y).toArray) (by rfl) (by kernel_rfl) (by kernel_rfl) (by kernel_rfl) (fun _ _ _ h => h) (by rfl) ?_ (by assumption) ?_
            · (intro wq hSq; exact exec_loadG 55 Tryz.underlying55 rfl infoMd (.tmp 95) rfl b0 (o + m * 40) rfl (mdC Y) (mdC_length Y) hSq.2.2)
            try simp only [Act.put, q1, q2, q3]
            refine rtk 5 ?_ ?_ ?_
            rotate_left
            · (intro wq hSq; (try dsimp only at hSq); go_split_ands; go_simp; (try with_reducible rfl))
            try simp only [Act.put, q1, q2, q3]
            refine rtk 6 ?_ ?_ ?_
            rotate_left
            · (intro wq hSq; (try dsimp only at hSq); go_split_ands; go_simp; (try with_reducible rfl))
            try simp only [Act.put, q1, q2, q3]
            refine rtk 7 ?_ ?_ ?_
            rotate_left
            · (intro wq hSq; (try dsimp only at hSq); go_split_ands; go_simp; (try with_reducible rfl))
            try simp only [Act.put, q1, q2, q3]
            refine reg_take 8 (v := .agg (mdC X).toArray) (by rfl) (by kernel_rfl) (by kernel_rfl) (by kernel_rfl) (fun _ _ _ h => h) (by rfl) ?_ (by assumption) ?_
            · (intro wq hSq; exact exec_loadG 55 Tryz.underlying55 rfl infoMd (.tmp 99) rfl b0 (o + h * 40) rfl (mdC X) (mdC_length X) hSq.2.1)
            try simp only [Act.put, q1, q2, q3]
            refine reg_one 9 (by rfl) (by kernel_rfl) (by rfl) (fun K hK => ?_)
            (go_simp; go_at_fn 29; refine (HCall.out _ (bdrew (bself wr))).mono ?_; rintro _ w2 ⟨rfl, hb2⟩; have b2 := bstep (bdrew (bself wr)) hb2; go_wp2_with fail)
            refine hK.out _ _ ?_ (fun hHeld => ?_)
            · exact ⟨trivial, SGr b2 hb0 hX, SGr b2 hb0 hY⟩
            clear hK K
            try simp only [Act.put, q1, q2, q3]
            refine rtk 10 ?_ ?_ ?_
            rotate_left
            · (intro wq hSq; (try dsimp only at hSq); go_split_ands; go_simp; (try with_reducible rfl))
            try simp only [Act.put, q1, q2, q3]
            refine rtk 11 ?_ ?_ ?_
            rotate_left
            · (intro wq hSq; (try dsimp only at hSq); go_split_ands; go_simp; (try with_reducible rfl))
            try simp only [Act.put, q1, q2, q3]
            refine wpAnyH_done (by kernel_rfl) (noPanic_mk ?_) _
            clear hHeld
            go_wp2_with fail
            go_roundw
            case rel => exact ⟨h + 1, by go_num, rfl, by omega, by omega, bstep hbr b2⟩
            case measure => simp [intOf]; omega
          · obtain rfl : i = m := by omega
            obtain ⟨wo, hwo⟩ : ∃ wo, wo = wr := ⟨_, rfl⟩
            subst hwo
            go_wp2_with fail
            go_loopw [17] (fun kv wi => kv = .int .i64 (i : Int) ∧ wi = wo) (fun _ _ => 0)
            case atStart => exact ⟨rfl, rfl⟩
            case round =>
              obtain ⟨rfl, rfl⟩ := hrel
              go_wp2_with fail
              refine bodyPost_ret (results_none rfl _ _ _) rfl ?_
              exact ⟨rfl, hbr⟩
      · have e2 : ((b : Int) - (m : Int) == 1) = false := by rw [beq_eq_false_iff_ne]; omega
        obtain ⟨mid, hmid⟩ : ∃ mid, mid = (a + b) / 2 := ⟨_, rfl⟩
        obtain ⟨f1, f2, f3, f4, f5⟩ := mid_facts a b mid hmid (by omega) (by omega)
        obtain ⟨q, hq⟩ : ∃ q, q = mid + m - 1 := ⟨_, rfl⟩
        have gn : IntKind.i64.wrap ((mid : Int) + (m : Int)) = (mid : Int) + (m : Int) := by rw [IntKind.wrap_i64]; omega
        have gq : (mid : Int) + (m : Int) - 1 = (q : Int) := by omega
        have gqw : IntKind.i64.wrap (q : Int) = (q : Int) := by rw [IntKind.wrap_i64]; omega
        have hmid1 : a + 2 ≤ mid ∧ mid + 2 ≤ b := by omega
        by_cases hm : mid < m
        · obtain ⟨s0, hs0⟩ : ∃ s0, s0 = mid + m - b := ⟨_, rfl⟩
          have gs : (mid : Int) + (m : Int) - (b : Int) = (s0 : Int) := by omega
          have gsw : IntKind.i64.wrap (s0 : Int) = (s0 : Int) := by rw [IntKind.wrap_i64]; omega
          have hs1 : s0 ≤ mid ∧ q ≤ s0 + b - 1 ∧ q + 1 ≤ mid + m ∧ mid + m ≤ q + 1 := by omega
          have hmi2 : (mid : Int) < (m : Int) := by omega
          have gEw : IntKind.i64.wrap (m : Int) = (m : Int) := by rw [IntKind.wrap_i64]; omega
          have gE : (mid : Int) + (m : Int) - (mid : Int) = (m : Int) := by omega
          have HX := Lib.hid (And.intro h1 (And.intro h2 (And.intro hmid (And.intro hq hs0))))
          clear h1 h2 hmid hq hs0
          go_enter Tryz.func99, Tryz.ntmps99
          go_wp2_with fail
          go_loopw [20, 21] (fun sv rv wr => ∃ st : Nat, sv = .int .i64 (st : Int) ∧ rv = .int .i64 (mid : Int) ∧ s0 ≤ st ∧ st ≤ mid ∧ Below w.heap.size w wr) (fun sv _ _ => mid - (intOf sv).toNat)
          case atStart => exact ⟨s0, rfl, rfl, by omega, by omega, bself w⟩
          obtain ⟨st, rfl, rfl, hi1, hi2, hbr⟩ := hrel
          rcases Nat.lt_or_ge st mid with hlt | hlt
          · obtain ⟨h, hh⟩ : ∃ h, h = (st + mid) / 2 := ⟨_, rfl⟩
            obtain ⟨f1, f2, f3, f4, f5⟩ := mid_facts st mid h hh (by omega) (by omega)
            have hh1 : st ≤ h ∧ h < mid := by omega
            obtain ⟨pc, hpc⟩ : ∃ pc, pc = q - h := ⟨_, rfl⟩
            have gpc : (q : Int) - (h : Int) = (pc : Int) := by omega
            have gpcw : IntKind.i64.wrap (pc : Int) = (pc : Int) := by rw [IntKind.wrap_i64]; omega
            have hpc1 : h < pc ∧ pc < n := by omega
            obtain ⟨b0, o, k, X, Y, e, hb0, hX, hY, hcall⟩ := two_md (i := h) (j := pc) (HV.out.on hbr) HN.out (by omega) (by omega) (HC.out.on hbr)
            injection e with e1 _ e3
            subst e1; subst e3
            have HCall := Lib.hid hcall
            have hpn : (pc : Int) < (n : Int) := by omega
            have hpn1 : (h : Int) < (n : Int) := by omega
            have hlti : (st : Int) < (mid : Int) := by omega
            clear hcall hh hpc
            go_upto_region 35 with fail
            refine wp_region_noPanic ?_
            refine wp_region_held_drew (S := fun W => True ∧ W.rangeAt b0 (o + h * 40) (mdC X) ∧ W.rangeAt b0 (o + pc * 40) (mdC Y)) (by kernel_rfl) ⟨trivial, hX, hY⟩ (fun hHeld => ?_)
            refine rtk 0 ?_ ?_ ?_
            rotate_left
            · (intro wq hSq; (try dsimp only at hSq); go_split_ands; go_simp; (try with_reducible rfl))
            try simp only [Act.put, q1, q2, q3]
            refine rtk 1 ?_ ?_ ?_
            rotate_left
            · (intro wq hSq; (try dsimp only at hSq); go_split_ands; go_simp; (try with_reducible rfl))
            try simp only [Act.put, q1, q2, q3]
            refine rtk 2 ?_ ?_ ?_
            rotate_left
            · (intro wq hSq; (try dsimp only at hSq); go_split_ands; go_simp; (try with_reducible rfl))
            try simp only [Act.put, q1, q2, q3]
            refine rtk 3 ?_ ?_ ?_
            rotate_left
            · (intro wq hSq; (try dsimp only at hSq); go_split_ands; go_simp; (try with_reducible rfl))
            try simp only [Act.put, q1, q2, q3]
            refine rtk 4 ?_ ?_ ?_
            rotate_left
            · (intro wq hSq; (try dsimp only at hSq); go_split_ands; go_simp; (try with_reducible rfl))
            try simp only [Act.put, q1, q2, q3]
            refine rtk 5 ?_ ?_ ?_
            rotate_left
            · (intro wq hSq; (try dsimp only at hSq); go_split_ands; go_simp; (try with_reducible rfl))
            try simp only [Act.put, q1, q2, q3]
            refine reg_take 6 (v := .agg (mdC Y).toArray) (by rfl) (by kernel_rfl) (by kernel_rfl) (by kernel_rfl) (fun _ _ _ h => h) (by rfl) ?_ (by assumption) ?_
            · (intro wq hSq; exact exec_loadG 55 Tryz.underlying55 rfl infoMd (.tmp 163) rfl b0 (o + pc * 40) rfl (mdC Y) (mdC_length Y) hSq.2.2)
            try simp only [Act.put, q1, q2, q3]
            refine rtk 7 ?_ ?_ ?_
            rotate_left
            · (intro wq hSq; (try dsimp only at hSq); go_split_ands; go_simp; (try with_reducible rfl))
            try simp only [Act.put, q1, q2, q3]
            refine rtk 8 ?_ ?_ ?_
            rotate_left
            · (intro wq hSq; (try dsimp only at hSq); go_split_ands; go_simp; (try with_reducible rfl))
            try simp only [Act.put, q1, q2, q3]
            refine rtk 9 ?_ ?_ ?_
            rotate_left
            · (intro wq hSq; (try dsimp only at hSq); go_split_ands; go_simp; (try with_reducible rfl))
            try simp only [Act.put, q1, q2, q3]
            refine reg_take 10 (v := .agg (mdC X).toArray) (by rfl) (by kernel_rfl) (by kernel_rfl) (by kernel_rfl) (fun _ _ _ h => h) (by rfl) ?_ (by assumption) ?_
            · (intro wq hSq; exact exec_loadG 55 Tryz.underlying55 rfl infoMd (.tmp 167) rfl b0 (o + h * 40) rfl (mdC X) (mdC_length X) hSq.2.1)
            try simp only [Act.put, q1, q2, q3]
            refine reg_one 11 (by rfl) (by kernel_rfl) (by rfl) (fun K hK => ?_)
            (go_simp; go_at_fn 29; refine (HCall.out _ (bdrew (bself wr))).mono ?_; rintro _ w2 ⟨rfl, hb2⟩; have b2 := bstep (bdrew (bself wr)) hb2; go_wp2_with fail)
            refine hK.out _ _ ?_ (fun hHeld => ?_)
            · exact ⟨trivial, SGr b2 hb0 hX, SGr b2 hb0 hY⟩
            clear hK K
            try simp only [Act.put, q1, q2, q3]
            refine rtk 12 ?_ ?_ ?_
            rotate_left
            · (intro wq hSq; (try dsimp only at hSq); go_split_ands; go_simp; (try with_reducible rfl))
            try simp only [Act.put, q1, q2, q3]
            refine rtk 13 ?_ ?_ ?_
            rotate_left
            · (intro wq hSq; (try dsimp only at hSq); go_split_ands; go_simp; (try with_reducible rfl))
            try simp only [Act.put, q1, q2, q3]
            refine wpAnyH_done (by kernel_rfl) (noPanic_mk ?_) _
            clear hHeld
            go_wp2_with fail
            go_roundw
            case rel => exact ⟨h + 1, by go_num, rfl, by omega, by omega, bstep hbr b2⟩
            case measure => simp [intOf]; omega
          obtain rfl : mid = st := by omega
          have hmbi : (m : Int) < (b : Int) := by omega
          have hami : (a : Int) < (mid : Int) := by omega
          have HRec := Lib.hid (IH.out mid m b wr (by omega) (by omega) (by omega) hbn (HV.out.on hbr) (HC.out.on hbr))
          go_wp2_with (go_at_call 99; refine HRec.out.mono ?_; rintro _ w9 ⟨rfl, hb9⟩)
          go_end0
          exact ⟨rfl, bstep hbr hb9⟩
        · have hs1 : a ≤ m ∧ q ≤ a + b - 1 ∧ q + 1 ≤ mid + m ∧ mid + m ≤ q + 1 := by omega
          have hmi2 : ¬ (mid : Int) < (m : Int) := by omega
          have hmi3 : decide ((mid : Int) < (m : Int)) = false := by simpa using hmi2
          have gEw : IntKind.i64.wrap (mid : Int) = (mid : Int) := by rw [IntKind.wrap_i64]; omega
          have gE : (mid : Int) + (m : Int) - (m : Int) = (mid : Int) := by omega
          have HX := Lib.hid (And.intro h1 (And.intro h2 (And.intro hmid hq)))
          clear h1 h2 hmid hq
          go_enter Tryz.func99, Tryz.ntmps99
          go_wp2_with fail
          go_loopw [20, 21] (fun sv rv wr => ∃ st : Nat, sv = .int .i64 (st : Int) ∧ rv = .int .i64 (m : Int) ∧ a ≤ st ∧ st ≤ m ∧ Below w.heap.size w wr) (fun sv _ _ => m - (intOf sv).toNat)
          case atStart => exact ⟨a, rfl, rfl, by omega, by omega, bself w⟩
          obtain ⟨st, rfl, rfl, hi1, hi2, hbr⟩ := hrel
          rcases Nat.lt_or_ge st m with hlt | hlt
          · obtain ⟨h, hh⟩ : ∃ h, h = (st + m) / 2 := ⟨_, rfl⟩
            obtain ⟨f1, f2, f3, f4, f5⟩ := mid_facts st m h hh (by omega) (by omega)
            have hh1 : st ≤ h ∧ h < m := by omega
            obtain ⟨pc, hpc⟩ : ∃ pc, pc = q - h := ⟨_, rfl⟩
            have gpc : (q : Int) - (h : Int) = (pc : Int) := by omega
            have gpcw : IntKind.i64.wrap (pc : Int) = (pc : Int) := by rw [IntKind.wrap_i64]; omega
            have hpc1 : h < pc ∧ pc < n := by omega
            obtain ⟨b0, o, k, X, Y, e, hb0, hX, hY, hcall⟩ := two_md (i := h) (j := pc) (HV.out.on hbr) HN.out (by omega) (by omega) (HC.out.on hbr)
            injection e with e1 _ e3
            subst e1; subst e3
            have HCall := Lib.hid hcall
            have hpn : (pc : Int) < (n : Int) := by omega
            have hpn1 : (h : Int) < (n : Int) := by omega
            have hlti : (st : Int) < (m : Int) := by omega
            clear hcall hh hpc
            go_upto_region 35 with fail
            refine wp_region_noPanic ?_
            refine wp_region_held_drew (S := fun W => True ∧ W.rangeAt b0 (o + h * 40) (mdC X) ∧ W.rangeAt b0 (o + pc * 40) (mdC Y)) (by kernel_rfl) ⟨trivial, hX, hY⟩ (fun hHeld => ?_)
            refine rtk 0 ?_ ?_ ?_
            rotate_left
            · (intro wq hSq; (try dsimp only at hSq); go_split_ands; go_simp; (try with_reducible rfl))
            try simp only [Act.put, q1, q2, q3]
            refine rtk 1 ?_ ?_ ?_
            rotate_left
            · (intro wq hSq; (try dsimp only at hSq); go_split_ands; go_simp; (try with_reducible rfl))
            try simp only [Act.put, q1, q2, q3]
            refine rtk 2 ?_ ?_ ?_
            rotate_left
            · (intro wq hSq; (try dsimp only at hSq); go_split_ands; go_simp; (try with_reducible rfl))
            try simp only [Act.put, q1, q2, q3]
            refine rtk 3 ?_ ?_ ?_
            rotate_left
            · (intro wq hSq; (try dsimp only at hSq); go_split_ands; go_simp; (try with_reducible rfl))
            try simp only [Act.put, q1, q2, q3]
            refine rtk 4 ?_ ?_ ?_
            rotate_left
            · (intro wq hSq; (try dsimp only at hSq); go_split_ands; go_simp; (try with_reducible rfl))
            try simp only [Act.put, q1, q2, q3]
            refine rtk 5 ?_ ?_ ?_
            rotate_left
            · (intro wq hSq; (try dsimp only at hSq); go_split_ands; go_simp; (try with_reducible rfl))
            try simp only [Act.put, q1, q2, q3]
            refine reg_take 6 (v := .agg (mdC Y).toArray) (by rfl) (by kernel_rfl) (by kernel_rfl) (by kernel_rfl) (fun _ _ _ h => h) (by rfl) ?_ (by assumption) ?_
            · (intro wq hSq; exact exec_loadG 55 Tryz.underlying55 rfl infoMd (.tmp 163) rfl b0 (o + pc * 40) rfl (mdC Y) (mdC_length Y) hSq.2.2)
            try simp only [Act.put, q1, q2, q3]
            refine rtk 7 ?_ ?_ ?_
            rotate_left
            · (intro wq hSq; (try dsimp only at hSq); go_split_ands; go_simp; (try with_reducible rfl))
            try simp only [Act.put, q1, q2, q3]
            refine rtk 8 ?_ ?_ ?_
            rotate_left
            · (intro wq hSq; (try dsimp only at hSq); go_split_ands; go_simp; (try with_reducible rfl))
            try simp only [Act.put, q1, q2, q3]
            refine rtk 9 ?_ ?_ ?_
            rotate_left
            · (intro wq hSq; (try dsimp only at hSq); go_split_ands; go_simp; (try with_reducible rfl))
            try simp only [Act.put, q1, q2, q3]
            refine reg_take 10 (v := .agg (mdC X).toArray) (by rfl) (by kernel_rfl) (by kernel_rfl) (by kernel_rfl) (fun _ _ _ h => h) (by rfl) ?_ (by assumption) ?_
            · (intro wq hSq; exact exec_loadG 55 Tryz.underlying55 rfl infoMd (.tmp 167) rfl b0 (o + h * 40) rfl (mdC X) (mdC_length X) hSq.2.1)
            try simp only [Act.put, q1, q2, q3]
            refine reg_one 11 (by rfl) (by kernel_rfl) (by rfl) (fun K hK => ?_)
            (go_simp; go_at_fn 29; refine (HCall.out _ (bdrew (bself wr))).mono ?_; rintro _ w2 ⟨rfl, hb2⟩; have b2 := bstep (bdrew (bself wr)) hb2; go_wp2_with fail)
            refine hK.out _ _ ?_ (fun hHeld => ?_)
            · exact ⟨trivial, SGr b2 hb0 hX, SGr b2 hb0 hY⟩
            clear hK K
            try simp only [Act.put, q1, q2, q3]
            refine rtk 12 ?_ ?_ ?_
            rotate_left
            · (intro wq hSq; (try dsimp only at hSq); go_split_ands; go_simp; (try with_reducible rfl))
            try simp only [Act.put, q1, q2, q3]
            refine rtk 13 ?_ ?_ ?_
            rotate_left
            · (intro wq hSq; (try dsimp only at hSq); go_split_ands; go_simp; (try with_reducible rfl))
            try simp only [Act.put, q1, q2, q3]
            refine wpAnyH_done (by kernel_rfl) (noPanic_mk ?_) _
            clear hHeld
            go_wp2_with fail
            go_roundw
            case rel => exact ⟨h + 1, by go_num, rfl, by omega, by omega, bstep hbr b2⟩
            case measure => simp [intOf]; omega
          obtain rfl : m = st := by omega
          have hami : (a : Int) < (m : Int) := by omega
          by_cases hme : m < mid
          · have hmei : (m : Int) < (mid : Int) := by omega
            have HRec := Lib.hid (IH.out a m mid wr (by omega) (by omega) (by omega) (by omega) (HV.out.on hbr) (HC.out.on hbr))
            go_wp2_with (go_at_call 99; refine HRec.out.mono ?_; rintro _ w9 ⟨rfl, hb9⟩)
            go_end0
            exact ⟨rfl, bstep hbr hb9⟩
          · obtain rfl : m = mid := by omega
            go_wp2_with fail
            go_end0
            exact ⟨rfl, hbr⟩
set_option maxRecDepth 100000 in
set_option maxHeartbeats 4000000 in
theorem kStable_any (l : List Md) (n : Nat) (A : Option Addr) (c : Nat) (u : Value) (w : World) (hn : n = l.length) (hl : n ≤ 1000) (hv : SG mdC 40 w w.heap.size (.slice A n c) l) (hc : CmpUp l u w) :
    Calls Tryz.prog 68 #[.slice A n c, .int .i64 (n : Int), .func (.func 29) #[] #[u]] w fun e w' => e = .returned (.tuple #[]) ∧ Below w.heap.size w w' := by
  have HIns : Hid (∀ (a b : Nat) W, Below w.heap.size w W → a ≤ b → b ≤ n → Calls Tryz.prog 98 #[.slice A n c, .int .i64 (a : Int), .int .i64 (b : Int), .func (.func 29) #[] #[u]] W fun e w' => e = .returned (.tuple #[]) ∧ Below W.heap.size W w') := Lib.hid (fun a b W hW h1 h2 => kIns_any l n a b A c u W (hv.on hW) hn h1 h2 (by omega) (hc.on hW))
  have HSym : Hid (∀ (a m b : Nat) W, Below w.heap.size w W → a < m → m < b → b ≤ n → Calls Tryz.prog 99 #[.slice A n c, .int .i64 (a : Int), .int .i64 (m : Int), .int .i64 (b : Int), .func (.func 29) #[] #[u]] W fun e w' => e = .returned (.tuple #[]) ∧ Below W.heap.size W w') := Lib.hid (fun a m b W hW h1 h2 h3 => kSym_any l n A c u hn (by omega) (b - a) a m b W (Nat.le_refl _) h1 h2 h3 (hv.on hW) (hc.on hW))
  clear hv hc hn
  go_enter Tryz.func68, Tryz.ntmps68
  go_wp2_with fail
  go_loopw [7, 8] (fun av bv wr => ∃ a b : Nat, av = .int .i64 (a : Int) ∧ bv = .int .i64 (b : Int) ∧ b = a + 20 ∧ a ≤ n ∧ Below w.heap.size w wr) (fun av _ _ => n - (intOf av).toNat)
  case atStart => exact ⟨0, 20, rfl, rfl, rfl, by omega, bself w⟩
  case round =>
    obtain ⟨a, b, rfl, rfl, hab, han, hbr⟩ := hrel
    have hab1 : a + 20 ≤ b ∧ b ≤ a + 20 := by omega
    clear hab
    by_cases hlt : b ≤ n
    · have hbi : (b : Int) ≤ (n : Int) := by omega
      have gb : IntKind.i64.wrap ((b : Int) + 20) = (b : Int) + 20 := by rw [IntKind.wrap_i64]; omega
      have HI := Lib.hid (HIns.out a b wr hbr (by omega) hlt)
      go_wp2_with (go_at_call 98; refine HI.out.mono ?_; rintro _ w2 ⟨rfl, hb2⟩)
      go_roundw
      case rel => exact ⟨b, b + 20, rfl, by go_num, rfl, hlt, bstep hbr hb2⟩
      case measure => simp [intOf]; omega
    · have hbi : ¬ (b : Int) ≤ (n : Int) := by omega
      have HI := Lib.hid (HIns.out a n wr hbr han (Nat.le_refl _))
      go_wp2_with (go_at_call 98; refine HI.out.mono ?_; rintro _ w2 ⟨rfl, hb2⟩)
      have hbr2 := bstep hbr hb2
      clear hbr hb2 HI
      go_loopw [6] (fun sv wr => ∃ s : Nat, sv = .int .i64 (s : Int) ∧ 20 ≤ s ∧ s ≤ 2000 ∧ Below w.heap.size w wr) (fun sv _ => n - (intOf sv).toNat)
      case atStart => exact ⟨20, rfl, by omega, by omega, hbr2⟩
      case round =>
        obtain ⟨s, rfl, hs1, hs2, hbr⟩ := hrel
        by_cases hsn : s < n
        · have hsi : (s : Int) < (n : Int) := by omega
          have g2 : IntKind.i64.wrap (2 * (s : Int)) = 2 * (s : Int) := by rw [IntKind.wrap_i64]; omega
          have g2' : IntKind.i64.wrap ((s : Int) * 2) = (s : Int) * 2 := by rw [IntKind.wrap_i64]; omega
          go_wp2_with fail
          go_loopw [7, 8] (fun av bv wr => ∃ a b : Nat, av = .int .i64 (a : Int) ∧ bv = .int .i64 (b : Int) ∧ b = a + 2 * s ∧ a ≤ n ∧ Below w.heap.size w wr) (fun av _ _ => n - (intOf av).toNat)
          case atStart => exact ⟨0, 2 * s, rfl, by go_num, by omega, by omega, hbr⟩
          case round =>
            obtain ⟨a, b, rfl, rfl, hab, han, hbr⟩ := hrel
            have hab1 : a + 2 * s ≤ b ∧ b ≤ a + 2 * s := by omega
            obtain ⟨m, hm⟩ : ∃ m, m = a + s := ⟨_, rfl⟩
            have gm : (a : Int) + (s : Int) = (m : Int) := by omega
            have gmw : IntKind.i64.wrap (m : Int) = (m : Int) := by rw [IntKind.wrap_i64]; omega
            have hm1 : a + s ≤ m ∧ m ≤ a + s := by omega
            clear hab hm
            by_cases hlt : b ≤ n
            · have hbi : (b : Int) ≤ (n : Int) := by omega
              have gb : IntKind.i64.wrap ((b : Int) + 2 * (s : Int)) = (b : Int) + 2 * (s : Int) := by rw [IntKind.wrap_i64]; omega
              have HI := Lib.hid (HSym.out a m b wr hbr (by omega) (by omega) hlt)
              go_wp2_with (go_at_call 99; refine HI.out.mono ?_; rintro _ w2 ⟨rfl, hb2⟩)
              go_roundw
              case rel => exact ⟨b, b + 2 * s, rfl, by go_num, rfl, hlt, bstep hbr hb2⟩
              case measure => simp [intOf]; omega
            · have hbi : ¬ (b : Int) ≤ (n : Int) := by omega
              by_cases hmn : m < n
              · have hmi : (m : Int) < (n : Int) := by omega
                have HI := Lib.hid (HSym.out a m n wr hbr (by omega) hmn (Nat.le_refl _))
                go_wp2_with (go_at_call 99; refine HI.out.mono ?_; rintro _ w2 ⟨rfl, hb2⟩)
                go_roundw
                case rel => exact ⟨s * 2, by go_num, by omega, by omega, bstep hbr hb2⟩
                case measure => simp [intOf]; omega
              · have hmi : ¬ (m : Int) < (n : Int) := by omega
                go_wp2_with fail
                go_roundw
                case rel => exact ⟨s * 2, by go_num, by omega, by omega, hbr⟩
                case measure => simp [intOf]; omega
        · have hsi : ¬ (s : Int) < (n : Int) := by omega
          go_wp2_with fail
          go_end0
          exact ⟨rfl, hbr⟩
set_option maxRecDepth 100000 in
set_option maxHeartbeats 1000000 in
theorem kSortStable_any (l : List Md) (n : Nat) (A : Option Addr) (c : Nat) (u : Value) (w : World) (hn : n = l.length) (hl : n ≤ 1000) (hv : SG mdC 40 w w.heap.size (.slice A n c) l) (hc : CmpUp l u w) :
    Calls Tryz.prog 28 #[.slice A n c, .func (.func 29) #[] #[u]] w fun e w' => e = .returned (.tuple #[]) ∧ Below w.heap.size w w' := by
  have HS := Lib.hid (kStable_any l n A c u w hn hl hv hc)
  clear hv hc hn
  go_enter Tryz.func28, Tryz.ntmps28
  go_wp2_with (go_at_call 68; refine HS.out.mono ?_; rintro _ w2 ⟨rfl, hb2⟩)
  go_end0
  exact ⟨rfl, hb2⟩
end Go.Proofs.YtchjknbideoieaaGreatDoor
