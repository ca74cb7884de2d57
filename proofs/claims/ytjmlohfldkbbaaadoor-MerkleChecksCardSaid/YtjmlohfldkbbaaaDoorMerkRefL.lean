/-
  What is proved here: what the reference's leads and Check come to, at this seat's numbers. Condition: the table of constants.
-/
import Derived.Test.YtjmlohfldkbbaaaDoorMerkShown
import Derived.Test.YtjmlohfldkbbaaaDoorMerkRefP
namespace Go.Proofs.YtjmlohfldkbbaaaDoor
open Go.RowKit

def z0 : Dg := ⟨List.replicate 32 0, by simp⟩
theorem builtZ : Tryd.prog.built 31 [] = some (dgA z0.1) := by kernel_rfl
theorem wl_buildZ {ops : Array Oper} {rest : List Oper} {o : Oper} {a : Act} {Q : Exit → Act → World → Prop} {w : World} (hgd : o.guard = none) (ho : o.op = .build 31 #[]) (c : Array Value) (hc : Tryd.prog.built 31 [] = some c)
    (h : wpList Tryd.prog ops Q rest (a.put o.dst (.agg c)) w) : wpList Tryd.prog ops Q (o :: rest) a w := by
  refine wpList_plain hgd fun K hK => wp_exec (v := .agg c) ?_ (hK _ _ h)
  have hr := run_build (P := Tryd.prog) w 31 #[] c hc
  unfold execOp
  simp only [ho, List.map_toArray, List.map_nil, Sem.run_bind, Sem.run_pure, Result.andThen_ok, hr]
theorem res_cellslot {fn : Func} {p q : Tmp} (h : fn.results = #[.cell p 31, .tmp q]) (tmps : Array Value) (w : World) (g : Nat) (c : Array Value) (b : Value) (hp : tmps.getD p undef = .pointer (some ⟨g, 0, none⟩)) (hq : tmps.getD q undef = b)
    (hg : w.heap[g]? = some (rowO c)) (hn : c.size = 32) : (results fn tmps).run Tryd.prog w = .ok (.tuple #[.agg c, b]) w := by
  have hp' : tmps[p]?.getD undef = .pointer (some ⟨g, 0, none⟩) := by simpa using hp
  have hq' : tmps[q]?.getD undef = b := by simpa using hq
  simp [results, h, hp', hq', asAddr, run_loadVar_row w g 31 31 c (0, 0) _ hg Tryd.underlying31 rfl (by rw [hn]; kernel_rfl)]
/-- what a leaf and a proof lead to -/
def LeadsTo (n i : Nat) (leaf : Dg) (ps : List Dg) (x : Dg) : Prop := (dirs n i).length = ps.length → x = climb jnD leaf (dirs n i).reverse ps
theorem leads_left {n i : Nat} {leaf x last : Dg} {rest : List Dg} (h1 : 1 < n) (h2 : i < part n) (h : LeadsTo (part n) i leaf rest x) : LeadsTo n i leaf (rest ++ [last]) (jnD x last) ∧ ((dirs (part n) i).length = rest.length ↔ (dirs n i).length = (rest ++ [last]).length) := by
  unfold LeadsTo at *
  rw [dirs_left h1 h2, List.length_cons, List.length_append, List.reverse_cons]
  refine ⟨fun e => ?_, by simp only [List.length_cons, List.length_nil]; omega⟩
  have e2 : (dirs (part n) i).length = rest.length := by simp only [List.length_cons, List.length_nil] at e; omega
  rw [climb_app jnD leaf _ _ _ _ (by rw [List.length_reverse]; exact e2), ← h e2]
  rfl
theorem leads_right {n i : Nat} {leaf x last : Dg} {rest : List Dg} (h1 : 1 < n) (h2 : ¬ i < part n) (h : LeadsTo (n - part n) (i - part n) leaf rest x) : LeadsTo n i leaf (rest ++ [last]) (jnD last x) ∧ ((dirs (n - part n) (i - part n)).length = rest.length ↔ (dirs n i).length = (rest ++ [last]).length) := by
  unfold LeadsTo at *
  rw [dirs_right h1 h2, List.length_cons, List.length_append, List.reverse_cons]
  refine ⟨fun e => ?_, by simp only [List.length_cons, List.length_nil]; omega⟩
  have e2 : (dirs (n - part n) (i - part n)).length = rest.length := by simp only [List.length_cons, List.length_nil] at e; omega
  rw [climb_app jnD leaf _ _ _ _ (by rw [List.length_reverse]; exact e2), ← h e2]
  rfl
set_option maxRecDepth 100000 in
set_option maxHeartbeats 1000000 in
theorem rleads_n (n : Nat) : ∀ (i : Nat), i < n → n ≤ 9223372036854775807 → ∀ (leaf : Dg) (ps : List Dg) (v : Value) (w : World), SD w w.heap.size v ps → KTab w 0 → 0 < w.heap.size →
    Calls Tryd.prog 24 #[.int .i64 (n : Int), .int .i64 (i : Int), .agg (dgA leaf.1), v] w fun e w' => ∃ (x : Dg) (ok : Bool), e = .returned (.tuple #[.agg (dgA x.1), .bool ok]) ∧ ok = decide ((dirs n i).length = ps.length) ∧ LeadsTo n i leaf ps x ∧ Below w.heap.size w w' := by
  induction n using Nat.strongRecOn with
  | _ n ih =>
    intro i hi hn leaf ps v w hv hk h0
    have HIH := Lib.hid ih
    clear ih
    obtain ⟨A, c0, rfl, hlc, hcm⟩ := hv.form
    have nl := dgA_n leaf
    go_enter Tryd.func24, Tryd.ntmps24
    go_upto_region 1 with fail
    generalize hWA : World.alloc _ _ = wA
    have rL : wA.heap[w.heap.size]? = some (rowO (dgA leaf.1)) := by rw [← hWA]; exact heap_alloc2_old w _ _
    have rR : wA.heap[w.heap.size + 1]? = some (rowO (dgA (List.replicate 32 0))) := by rw [← hWA]; exact (heap_alloc2_new w _ _).trans (by kernel_rfl)
    have bA : Below w.heap.size w wA := by rw [← hWA]; exact balloc (balloc (bself w) _) _
    have zA : w.heap.size + 1 < wA.heap.size := by rw [← hWA]; simp
    clear hWA
    have HZ : Hid ((dgA (List.replicate 32 0)).size = 32) := Lib.hid (by rw [dgA_size]; rfl)
    have HEND : Hid (∀ w', Below wA.heap.size wA w' → ∀ c, w'.heap[w.heap.size + 1]? = some (rowO (dgA (List.replicate 32 0))) ∧ (w'.setRow (w.heap.size + 1) c).heap[w.heap.size + 1]? = some (rowO c) ∧ Below w.heap.size w (w'.setRow (w.heap.size + 1) c)) := Lib.hid (fun w' h c => by
      have h3 := (h.block (w.heap.size + 1) (by omega)).trans rR
      exact ⟨h3, setRow_heap _ _ _ _ _ _ h3, below_setRow (bA.trans (h.mono bA.size)) (by omega) _⟩)
    have HK : Hid (∀ w', Below wA.heap.size wA w' → KTab w' 0 ∧ 0 < w'.heap.size) := Lib.hid (fun w' h => ⟨hk.on0 (bA.trans (h.mono bA.size)) h0, by have := h.size; omega⟩)
    have KL : Hid (∀ w', Below wA.heap.size wA w' → w'.heap[w.heap.size]? = some (rowO (dgA leaf.1))) := Lib.hid (fun w' h => (h.block w.heap.size (by omega)).trans rL)
    have hv2 : SD wA wA.heap.size (.slice A ps.length c0) ps := (hv.below bA).more (by omega)
    clear hv rR
    by_cases h1 : n = 1
    · have h2 : ((n : Int) == 1) = true := by rw [h1]; rfl
      have HD : Hid (dirs n i = []) := Lib.hid (dirs_small i (by omega))
      have h9 := Lib.hid (HEND.out wA (bself wA) (dgA leaf.1))
      have HB : Hid (((ps.length : Int) == 0) = decide ((dirs n i).length = ps.length)) := Lib.hid (by
        rw [HD.out, Bool.eq_iff_iff, beq_iff_eq, decide_eq_true_iff]
        simp only [List.length_nil]
        omega)
      have HL : Hid (LeadsTo n i leaf ps leaf) := Lib.hid (by intro _; rw [HD.out]; rfl)
      clear h1
      go_wp2_with (first
        | (refine wl_loadD rfl (.tmp 6) rfl _ rfl (dgA leaf.1) rL nl ?_)
        | (refine wl_storeD rfl (.tmp 8) (.tmp 19) rfl _ rfl _ (dgA leaf.1) rfl h9.out.1 HZ.out nl (dgA_one _) ?_))
      exact bodyPost_ret (v := .tuple #[.agg (dgA leaf.1), .bool ((ps.length : Int) == 0)]) (res_cellslot Tryd.results24 _ _ _ (dgA leaf.1) _ rfl rfl h9.out.2.1 nl) rfl ⟨leaf, _, rfl, HB.out, HL.out, h9.out.2.2⟩
    · have h2 : ((n : Int) == 1) = false := by rw [beq_eq_false_iff_ne]; omega
      by_cases hp0 : ps.length = 0
      · have hp2 : ((ps.length : Int) == 0) = true := by rw [hp0]; rfl
        have h9 := Lib.hid (HEND.out wA (bself wA) (dgA z0.1))
        have HB : Hid (false = decide ((dirs n i).length = ps.length) ∧ LeadsTo n i leaf ps z0) := Lib.hid (by
          have hd : 0 < (dirs n i).length := by
            by_cases hp : i < part n
            · rw [dirs_left (by omega) hp]; simp
            · rw [dirs_right (by omega) hp]; simp
          have hne : ¬ (dirs n i).length = ps.length := by omega
          exact ⟨by simp [hne], fun e => absurd e hne⟩)
        have nz := dgA_n z0
        obtain ⟨cz, hcz⟩ : ∃ cz, cz = dgA z0.1 := ⟨_, rfl⟩
        have HBZ : Hid (Tryd.prog.built 31 [] = some cz) := Lib.hid (by rw [hcz]; exact builtZ)
        have HNZ : Hid (cz.size = 32 ∧ ∀ v ∈ cz.toList, v.oneCell' = true) := Lib.hid (by rw [hcz]; exact ⟨nz, dgA_one _⟩)
        rw [← hcz] at h9
        have HCZ := Lib.hid hcz
        clear hp0 hcz nz
        go_wp2_with (first
          | (refine wl_buildZ rfl rfl cz HBZ.out ?_)
          | (refine wl_storeD rfl (.tmp 8) (.tmp 26) rfl _ rfl _ cz rfl h9.out.1 HZ.out HNZ.out.1 HNZ.out.2 ?_))
        exact bodyPost_ret (v := .tuple #[.agg cz, .bool false]) (res_cellslot Tryd.results24 _ _ _ cz _ rfl rfl h9.out.2.1 HNZ.out.1) rfl ⟨z0, false, by rw [HCZ.out], HB.out.1, HB.out.2, h9.out.2.2⟩
      · have hp2 : ((ps.length : Int) == 0) = false := by rw [beq_eq_false_iff_ne]; omega
        obtain ⟨b, o, c9, e9, hbl, hel⟩ := hv2.at_ (by omega)
        injection e9 with e91 e92 e93
        subst e91; subst e93
        clear e92
        obtain ⟨rest, last, hps⟩ : ∃ rest last, ps = rest ++ [last] := by
          have hne : ps ≠ [] := by intro e; rw [e] at hp0; exact hp0 rfl
          exact ⟨_, _, (List.dropLast_concat_getLast hne).symm⟩
        obtain ⟨m, hm⟩ : ∃ m, m = rest.length := ⟨_, rfl⟩
        have hpl : ps.length = m + 1 := by rw [hps, List.length_append, hm]; rfl
        have hrl : wA.rangeAt b (o + m * 32) (bv last.1) := by
          have h := hel m (by omega)
          have e : ps[m]'(by omega) = last := by
            have h5 : ps[m]? = some last := by rw [hps, List.getElem?_append_right (by omega), hm]; simp
            rw [List.getElem?_eq_getElem (by omega)] at h5
            injection h5
          rw [e] at h
          exact h
        have srest : SD wA wA.heap.size (.slice (some ⟨b, o, none⟩) m c0) rest := by
          have h := hv2.take (k := m) (by omega) rfl
          rw [hps, hm, List.take_left] at h
          rw [hm]
          exact h
        have HPS := Lib.hid hps
        have HMR := Lib.hid hm
        have y1 : IntKind.i64.wrap (m : Int) = (m : Int) := IntWalk.i64_in _ (by omega)
        have y2 : (m : Int) < (m : Int) + 1 := by omega
        have y3 : (m : Int) ≤ (c0 : Int) := by omega
        have y4 : ((ps.length : Int) - 1) = (m : Int) := by omega
        have y5 : (m : Int) < (ps.length : Int) := by omega
        clear hp0 hps hm hel hv2 hlc hcm
        go_upto_region 6 with (first
          | (refine wl_loadM rfl (.tmp 31) rfl b (o + m * 32) rfl last hrl ?_)
          | (refine wl_storeD rfl (.tmp 10) (.tmp 32) rfl _ rfl _ (dgA last.1) rfl (heap_alloc_new wA _) (by kernel_rfl) (dgA_n last) (dgA_one _) ?_))
        generalize hw1 : World.setRow _ _ _ = w1
        obtain ⟨D, hD⟩ : ∃ D, D = wA.heap.size := ⟨_, rfl⟩
        have rD : w1.heap[D]? = some (rowO (dgA last.1)) := by rw [← hw1, hD]; exact setRow_heap _ _ _ _ _ _ (heap_alloc_new wA _)
        have b1 : Below wA.heap.size wA w1 := by rw [← hw1]; exact below_setRow (balloc (bself wA) _) (Nat.le_refl _) _
        have zD : D < w1.heap.size := by rw [← hw1, hD]; simp
        clear hw1 hrl
        rw [← hD]
        have HDA : Hid (D = wA.heap.size) := Lib.hid hD
        clear hD
        obtain ⟨k, hk9⟩ : ∃ k, k = part n := ⟨_, rfl⟩
        have hk1 : k < n := by rw [hk9]; exact part_lt (by omega)
        have hk2 : 0 < k := by rw [hk9]; exact part_pos _
        have HSP : Hid (Calls Tryd.prog 28 #[.int .i64 (n : Int)] w1 fun e w' => e = .returned (.int .i64 (k : Int)) ∧ w' = w1) := Lib.hid (by rw [hk9]; exact rPart_any n w1 (by omega) (by omega))
        have HK9 := Lib.hid hk9
        have nlast := dgA_n last
        clear hk9
        go_wp2_with fail
        refine HSP.out.mono ?_
        rintro e w2 ⟨rfl, rfl⟩
        have rL2 := KL.out w2 b1
        by_cases hik : i < k
        · have hik2 : (i : Int) < (k : Int) := by omega
          have HR : Hid (Calls Tryd.prog 24 #[.int .i64 (k : Int), .int .i64 (i : Int), .agg (dgA leaf.1), .slice (some ⟨b, o, none⟩) m c0] w2 fun e w' => ∃ (x : Dg) (ok : Bool), e = .returned (.tuple #[.agg (dgA x.1), .bool ok]) ∧ ok = decide ((dirs k i).length = rest.length) ∧ LeadsTo k i leaf rest x ∧ Below w2.heap.size w2 w') := Lib.hid (HIH.out k hk1 i hik (by omega) leaf rest _ w2 (srest.on b1) (HK.out w2 b1).1 (HK.out w2 b1).2)
          clear srest
          go_wp2_with (refine wl_loadD rfl (.tmp 6) rfl _ rfl (dgA leaf.1) rL2 nl ?_)
          refine HR.out.mono ?_
          rintro e w3 ⟨x, ok, rfl, hok, hx, hb3⟩
          have HFIN : Hid (ok = decide ((dirs n i).length = ps.length) ∧ LeadsTo n i leaf ps (jnD x last)) := Lib.hid (by
            have hk9 := HK9.out
            rw [hk9] at hx hok
            have h := leads_left (last := last) (by omega) (by rw [← hk9]; exact hik) hx
            rw [hok, HPS.out]
            exact ⟨decide_eq_decide.2 h.2, h.1⟩)
          obtain ⟨cj, hcj⟩ : ∃ cj, dgA (jnD x last).1 = cj := ⟨_, rfl⟩
          have HJ : Hid (∀ w', Below wA.heap.size wA w' → Calls Tryd.prog 29 #[.agg (dgA x.1), .agg (dgA last.1)] w' fun e w'' => e = .returned (.agg cj) ∧ Below w'.heap.size w' w'') := Lib.hid (fun w' h => rJoin_any x last _ _ cj rfl rfl hcj w' (HK.out w' h).1 (HK.out w' h).2)
          clear hok hx HR
          have HCJ : Hid (cj.size = 32 ∧ ∀ v ∈ cj.toList, v.oneCell' = true) := Lib.hid (by rw [← hcj]; exact ⟨dgA_n _, dgA_one _⟩)
          have HCE := Lib.hid hcj
          have nx := dgA_n x
          have b3 := bstep b1 hb3
          have rD3 := (hb3.block D zD).trans rD
          clear hcj
          go_upto_region 10 with (refine wl_storeD rfl (.tmp 13) (.tmp 49) rfl _ rfl _ (dgA x.1) rfl (heap_alloc_new w3 _) (by kernel_rfl) nx (dgA_one _) ?_)
          generalize hw4 : World.setRow _ _ _ = w4
          have rX : w4.heap[w3.heap.size]? = some (rowO (dgA x.1)) := by rw [← hw4]; exact setRow_heap _ _ _ _ _ _ (heap_alloc_new w3 _)
          have b34 : Below w3.heap.size w3 w4 := by rw [← hw4]; exact below_setRow (balloc (bself w3) _) (Nat.le_refl _) _
          clear hw4
          have b4 := bstep b3 b34
          have rD4 := (b34.block D (by have := hb3.size; omega)).trans rD3
          have HJ4 := Lib.hid (HJ.out w4 b4)
          go_wp2_with (first
            | (refine wl_loadD rfl (.tmp 13) rfl _ rfl (dgA x.1) rX nx ?_)
            | (refine wl_loadD rfl (.tmp 10) rfl _ rfl (dgA last.1) rD4 nlast ?_))
          refine HJ4.out.mono ?_
          rintro e w5 ⟨rfl, hb5⟩
          have h9 := Lib.hid (HEND.out w5 (bstep b4 hb5) cj)
          go_wp2_with (refine wl_storeD rfl (.tmp 8) (.tmp 53) rfl _ rfl _ cj rfl h9.out.1 HZ.out HCJ.out.1 HCJ.out.2 ?_)
          exact bodyPost_ret (v := .tuple #[.agg cj, .bool ok]) (res_cellslot Tryd.results24 _ _ _ cj _ rfl rfl h9.out.2.1 HCJ.out.1) rfl ⟨jnD x last, ok, by rw [HCE.out], HFIN.out.1, HFIN.out.2, h9.out.2.2⟩
        · have hik2 : ¬ (i : Int) < (k : Int) := by omega
          obtain ⟨j, hj⟩ : ∃ j, j = i - k := ⟨_, rfl⟩
          obtain ⟨q, hq⟩ : ∃ q, q = n - k := ⟨_, rfl⟩
          have HR : Hid (Calls Tryd.prog 24 #[.int .i64 (q : Int), .int .i64 (j : Int), .agg (dgA leaf.1), .slice (some ⟨b, o, none⟩) m c0] w2 fun e w' => ∃ (x : Dg) (ok : Bool), e = .returned (.tuple #[.agg (dgA x.1), .bool ok]) ∧ ok = decide ((dirs q j).length = rest.length) ∧ LeadsTo q j leaf rest x ∧ Below w2.heap.size w2 w') := Lib.hid (HIH.out q (by omega) j (by omega) (by omega) leaf rest _ w2 (srest.on b1) (HK.out w2 b1).1 (HK.out w2 b1).2)
          have z1 : (i : Int) - (k : Int) = (j : Int) := by omega
          have z2 : (n : Int) - (k : Int) = (q : Int) := by omega
          have z3 : IntKind.i64.wrap (j : Int) = (j : Int) := IntWalk.i64_in _ (by omega)
          have z4 : IntKind.i64.wrap (q : Int) = (q : Int) := IntWalk.i64_in _ (by omega)
          have HQJ := Lib.hid (And.intro hj hq)
          clear srest hj hq
          go_wp2_with (refine wl_loadD rfl (.tmp 6) rfl _ rfl (dgA leaf.1) rL2 nl ?_)
          refine HR.out.mono ?_
          rintro e w3 ⟨x, ok, rfl, hok, hx, hb3⟩
          have HFIN : Hid (ok = decide ((dirs n i).length = ps.length) ∧ LeadsTo n i leaf ps (jnD last x)) := Lib.hid (by
            have hk9 := HK9.out
            rw [HQJ.out.1, HQJ.out.2, hk9] at hx hok
            have h := leads_right (last := last) (by omega) (by rw [← hk9]; exact hik) hx
            rw [hok, HPS.out]
            exact ⟨decide_eq_decide.2 h.2, h.1⟩)
          obtain ⟨cj, hcj⟩ : ∃ cj, dgA (jnD last x).1 = cj := ⟨_, rfl⟩
          have HJ : Hid (∀ w', Below wA.heap.size wA w' → Calls Tryd.prog 29 #[.agg (dgA last.1), .agg (dgA x.1)] w' fun e w'' => e = .returned (.agg cj) ∧ Below w'.heap.size w' w'') := Lib.hid (fun w' h => rJoin_any last x _ _ cj rfl rfl hcj w' (HK.out w' h).1 (HK.out w' h).2)
          clear hok hx HR
          have HCJ : Hid (cj.size = 32 ∧ ∀ v ∈ cj.toList, v.oneCell' = true) := Lib.hid (by rw [← hcj]; exact ⟨dgA_n _, dgA_one _⟩)
          have HCE := Lib.hid hcj
          have nx := dgA_n x
          have b3 := bstep b1 hb3
          have rD3 := (hb3.block D zD).trans rD
          clear hcj
          go_upto_region 12 with (refine wl_storeD rfl (.tmp 15) (.tmp 65) rfl _ rfl _ (dgA x.1) rfl (heap_alloc_new w3 _) (by kernel_rfl) nx (dgA_one _) ?_)
          generalize hw4 : World.setRow _ _ _ = w4
          have rX : w4.heap[w3.heap.size]? = some (rowO (dgA x.1)) := by rw [← hw4]; exact setRow_heap _ _ _ _ _ _ (heap_alloc_new w3 _)
          have b34 : Below w3.heap.size w3 w4 := by rw [← hw4]; exact below_setRow (balloc (bself w3) _) (Nat.le_refl _) _
          clear hw4
          have b4 := bstep b3 b34
          have rD4 := (b34.block D (by have := hb3.size; omega)).trans rD3
          have HJ4 := Lib.hid (HJ.out w4 b4)
          go_wp2_with (first
            | (refine wl_loadD rfl (.tmp 15) rfl _ rfl (dgA x.1) rX nx ?_)
            | (refine wl_loadD rfl (.tmp 10) rfl _ rfl (dgA last.1) rD4 nlast ?_))
          refine HJ4.out.mono ?_
          rintro e w5 ⟨rfl, hb5⟩
          have h9 := Lib.hid (HEND.out w5 (bstep b4 hb5) cj)
          go_wp2_with (refine wl_storeD rfl (.tmp 8) (.tmp 69) rfl _ rfl _ cj rfl h9.out.1 HZ.out HCJ.out.1 HCJ.out.2 ?_)
          exact bodyPost_ret (v := .tuple #[.agg cj, .bool ok]) (res_cellslot Tryd.results24 _ _ _ cj _ rfl rfl h9.out.2.1 HCJ.out.1) rfl ⟨jnD last x, ok, by rw [HCE.out], HFIN.out.1, HFIN.out.2, h9.out.2.2⟩
set_option maxRecDepth 100000 in
set_option maxHeartbeats 1000000 in
theorem rCheck_any (root leaf : Dg) (n at_ : Int) (ps : List Dg) (v : Value) (w : World) (hn : n ≤ 9223372036854775807) (hv : SD w w.heap.size v ps) (hk : KTab w 0) (h0 : 0 < w.heap.size) :
    Calls Tryd.prog 15 #[.agg (dgA root.1), .int .i64 n, .int .i64 at_, .agg (dgA leaf.1), v] w fun e w' => e = .returned (.bool (decide (checkD root n at_ leaf ps))) ∧ Below w.heap.size w w' := by
  have nr := dgA_n root
  have nl := dgA_n leaf
  go_enter Tryd.func15, Tryd.ntmps15
  by_cases hbad : at_ < 0 ∨ n ≤ at_
  · have HF : Hid (decide (checkD root n at_ leaf ps) = false) := Lib.hid (by rw [decide_eq_false_iff_not]; intro h; obtain ⟨h1, h2, _⟩ := h; omega)
    by_cases h0 : at_ < 0
    · go_wp2_with fail
      go_ret
      exact ⟨(congrArg (fun x => Ending.returned (Value.bool x)) HF.out).symm, balloc (balloc (bself w) _) _⟩
    · have h8 : n ≤ at_ := by omega
      go_wp2_with fail
      go_ret
      exact ⟨(congrArg (fun x => Ending.returned (Value.bool x)) HF.out).symm, balloc (balloc (bself w) _) _⟩
  · obtain ⟨i, rfl⟩ : ∃ i : Nat, at_ = (i : Int) := ⟨at_.toNat, by omega⟩
    obtain ⟨N, rfl⟩ : ∃ N : Nat, n = (N : Int) := ⟨n.toNat, by omega⟩
    have e1 : ¬ (i : Int) < 0 := by omega
    have e2 : ¬ (N : Int) ≤ (i : Int) := by omega
    have HCD : Hid (checkD root (N : Int) (i : Int) leaf ps ↔ (dirs N i).length = ps.length ∧ climb jnD leaf (dirs N i).reverse ps = root) := Lib.hid (by
      unfold checkD
      rw [Int.toNat_natCast, Int.toNat_natCast]
      exact ⟨fun h => h.2.2, fun h => ⟨by omega, by omega, h⟩⟩)
    go_upto_region 3 with fail
    generalize hWA : World.alloc _ _ = wA
    have rA : wA.heap[w.heap.size]? = some (rowO (dgA root.1)) := by rw [← hWA]; exact heap_alloc2_old w _ _
    have rL : wA.heap[w.heap.size + 1]? = some (rowO (dgA leaf.1)) := by rw [← hWA]; exact heap_alloc2_new w _ _
    have bA : Below w.heap.size w wA := by rw [← hWA]; exact balloc (balloc (bself w) _) _
    have zA : w.heap.size + 1 < wA.heap.size := by rw [← hWA]; simp
    clear hWA hbad
    have HR := Lib.hid (rleads_n N i (by omega) (by omega) leaf ps v wA ((hv.below bA).more (by omega)) (hk.on0 bA h0) (by omega))
    clear hv
    go_wp2_with (refine wl_loadD rfl (.tmp 8) rfl _ rfl (dgA leaf.1) rL nl ?_)
    refine HR.out.mono ?_
    rintro e w1 ⟨x, ok, rfl, hok, hx, hb1⟩
    have HOK := Lib.hid hok
    have HX := Lib.hid hx
    clear hok hx
    have nx := dgA_n x
    have rA1 := (hb1.block w.heap.size (by omega)).trans rA
    have z1 := hb1.size
    clear HR
    go_upto_region 4 with (refine wl_storeD rfl (.tmp 11) (.tmp 26) rfl _ rfl _ (dgA x.1) rfl (heap_alloc_new w1 _) (by kernel_rfl) nx (dgA_one _) ?_)
    generalize hw2 : World.setRow _ _ _ = w2
    have rX : w2.heap[w1.heap.size]? = some (rowO (dgA x.1)) := by rw [← hw2]; exact setRow_heap _ _ _ _ _ _ (heap_alloc_new w1 _)
    have b12 : Below w1.heap.size w1 w2 := by rw [← hw2]; exact below_setRow (balloc (bself w1) _) (Nat.le_refl _) _
    clear hw2
    have rA2 := (b12.block w.heap.size (by omega)).trans rA1
    have b2 : Below w.heap.size w w2 := bA.trans ((bstep hb1 b12).mono bA.size)
    clear rA rA1 rL b12 hb1
    cases ok with
    | false =>
      have HF : Hid (decide (checkD root (N : Int) (i : Int) leaf ps) = false) := Lib.hid (by
        rw [decide_eq_false_iff_not, HCD.out]
        intro h
        have := HOK.out
        rw [decide_eq_true h.1] at this
        cases this)
      go_wp2_with fail
      go_ret
      exact ⟨(congrArg (fun x => Ending.returned (Value.bool x)) HF.out).symm, b2⟩
    | true =>
      have HF : Hid (decide (x = root) = decide (checkD root (N : Int) (i : Int) leaf ps)) := Lib.hid (by
        have h1 : (dirs N i).length = ps.length := by have := HOK.out; exact of_decide_eq_true this.symm
        have h2 := HX.out h1
        rw [decide_eq_decide, HCD.out, h2]
        exact ⟨fun h => ⟨h1, h⟩, fun h => h.2⟩)
      have hEq : ∀ w', (Op.equalIn 10000 31 (.agg (dgA x.1)) (.agg (dgA root.1))).run Tryd.prog w' = .ok (decide (x = root)) w' := fun w' => by rw [← dg_eq]; exact run_eqD w' x.1 root.1 x.2 root.2
      go_wp2_with (first
        | (refine wl_loadDg rfl (.tmp 11) rfl _ rfl (dgA x.1) rX nx ?_)
        | (refine wl_loadDg rfl (.tmp 5) rfl _ rfl (dgA root.1) rA2 nr ?_))
      go_ret
      exact ⟨congrArg (fun x => Ending.returned (Value.bool x)) HF.out, b2⟩
end Go.Proofs.YtjmlohfldkbbaaaDoor
