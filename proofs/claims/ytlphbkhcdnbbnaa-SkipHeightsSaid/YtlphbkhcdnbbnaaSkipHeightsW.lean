/-
  What is proved here: the walk of SkipHeights: it returns true. Condition: the list's length.
-/
import Derived.Test.YtlphbkhcdnbbnaaSkipNewestW
import Derived.Test.YtlphbkhcdnbbnaaSameW
namespace Go.Proofs.Ytlphbkhcdnbbnaa
open Go.RowKit

theorem infoP : (Try.prog.info? 27).map (fun i => (i.zero, i.size, i.bytes)) = some (some (.agg #[.string .empty, .int .u64 0, .int .u8 0, .string .empty, .int .i64 0]), 5, 56) := by kernel_rfl
/-- the value v owns the puts l -/
def OP (w : World) (base : Nat) (v : Value) (l : List PutA) : Prop := w.ownsRow base 27 5 v l.length (l.flatMap putC)
theorem putC_one (l : List PutA) : ∀ u ∈ l.flatMap putC, u.oneCell' = true := by
  intro u hu
  obtain ⟨d, _, h⟩ := List.mem_flatMap.1 hu
  unfold putC at h
  simp only [List.mem_cons, List.not_mem_nil, or_false] at h
  rcases h with rfl | rfl | rfl | rfl | rfl <;> rfl
theorem OP.sp {w : World} {base : Nat} {v : Value} {l : List PutA} (h : OP w base v l) : SP w w.heap.size v l := Sl.of_own h
theorem OP.keptAt {w w' : World} {base : Nat} {v : Value} {l : List PutA} (h : OP w base v l) (hk : ∀ g, v.ownBlock = some g → w'.heap[g]? = w.heap[g]?) : OP w' base v l := by
  refine ⟨h.1, ?_⟩
  rcases h.2 with hn | ⟨g, cap, cur, hv, hbg, hg, rest⟩
  · exact .inl hn
  · exact .inr ⟨g, cap, cur, hv, hbg, (hk g (by rw [hv]; rfl)).trans hg, rest⟩
theorem OP.lt {w : World} {base : Nat} {v : Value} {l : List PutA} (h : OP w base v l) : ∀ k, v.ownBlock = some k → base ≤ k ∧ k < w.heap.size := World.ownsRow.lt h
section
variable {ops : Array Oper} {rest : List Oper} {o : Oper} {a : Act} {Q : Exit → Act → World → Prop} {w : World}
/-- append(dst, p) of puts -/
theorem wl_appP (hgd : Region.wanted o (yielded ops a.tmps) = true) (s x : Operand)
    (ho : o.op = .call { callee := .builtin .append, args := #[s, x], argTypes := #[22, 22] })
    (base : Nat) (v : Value) (l : List PutA) (hs : a.eval s = v) (hown : OP w base v l)
    (p : PutA) {g : Nat} (hg : g = w.heap.size) (hx : a.eval x = .slice (some ⟨g, 0, none⟩) 1 1) (hlen : l.length + 1 ≤ maxLen) (hfits : Fits l.length 1 56) (hbase : base ≤ w.heap.size)
    (h : ∀ v' w', OP w' base v' (l ++ [p]) → w.grownBy w' v.ownBlock → (v'.ownBlock = v.ownBlock ∨ v'.ownBlock = some (w.heap.size + 1)) → Below base w w' → wpList Try.prog ops Q rest (a.put o.dst v') w') : wpList Try.prog ops Q (o :: rest) a (w.alloc (.cells #[.string p.e.user, .int .u64 (p.e.seq.toNat : Int), .int .u8 (p.e.kind.toNat : Int), .string p.e.value, .int .i64 p.h] 27)) := by
  refine wl_of hgd fun K hK => ?_
  obtain ⟨i0, hi0, hz0, hz1, hz2⟩ := info_parts infoP
  have hsrc : Sl (w.alloc (.cells #[.string p.e.user, .int .u64 (p.e.seq.toNat : Int), .int .u8 (p.e.kind.toNat : Int), .string p.e.value, .int .i64 p.h] 27)) (w.heap.size + 1) 5 (.slice (some ⟨g, 0, none⟩) 1 1) 1 ([p].flatMap putC) :=
    ⟨_, _, rfl, Nat.le_refl _, by simp [maxLen], Rd.newBlock w _ _ hg (by omega) rfl⟩
  refine wp_app _ s x 22 ho base 27 i0 _ 5 56 Try.underlying22 hi0 hz0 hz1 hz2 rfl (by omega) v l.length _ hs (World.ownsRow.alloc hown _) (w.heap.size + 1) 1 _ _ hx hsrc (putC_one [p]) hlen hfits (by simp; omega) ?_
  intro v' w' h1 h2 h3 h4
  refine hK _ _ (h v' w' ?_ ((World.grownBy_alloc w _ _).trans h2) ?_ (((Below.refl _ _).alloc hbase _).trans h4))
  · unfold OP
    rw [List.length_append, List.flatMap_append]
    exact h1
  · rcases h3 with h | h
    · exact .inl h
    · right; rw [h]; simp
end
/-- two lists lie apart -/
def Sep2 (w : World) (L L2 : Nat) : Prop := L ≠ L2 ∧ rowAt w L ≠ some L2 ∧ rowAt w L2 ≠ some L ∧ ∀ g, rowAt w L = some g → rowAt w L2 ≠ some g
theorem Sep2.symm {w : World} {L L2 : Nat} (h : Sep2 w L L2) : Sep2 w L2 L := ⟨fun e => h.1 e.symm, h.2.2.1, h.2.1, fun g hg e => h.2.2.2 g e hg⟩
/-- a list and what is owned lie apart -/
def SepO (w : World) (L : Nat) (v : Value) : Prop := v.ownBlock ≠ some L ∧ ∀ g, rowAt w L = some g → v.ownBlock ≠ some g
theorem put_other {w w' : World} {base L L2 : Nat} {E E2 : List Ent} (hS : SL w base L E) (hS2 : SL w base L2 E2) (hsep : Sep2 w L L2) (hfr : PutFr w w' L) (hsz : w.heap.size ≤ w'.heap.size) : SL w' base L2 E2 ∧ rowAt w' L2 = rowAt w L2 ∧ Sep2 w' L L2 := by
  have hL2 := hS2.lt.2
  obtain ⟨g2, hg2, hg2L, _, hg2l⟩ := hS2.row
  have hk := hS2.kept hsz (hfr.2 L2 hL2 (fun e => hsep.1 e.symm) hsep.2.1) (fun g hg => hfr.2 g (by rw [hg2] at hg; injection hg with hg; omega) (fun e => hsep.2.2.1 (by rw [hg, e])) (fun e => hsep.2.2.2 g e hg))
  refine ⟨hk.1, hk.2, hsep.1, ?_, by rw [hk.2]; exact hsep.2.2.1, ?_⟩
  · rcases hfr.1 with h | ⟨g, hg, h⟩
    · rw [h]; exact hsep.2.1
    · rw [h]; intro e; injection e with e; omega
  · intro g hg
    rw [hk.2]
    rcases hfr.1 with h | ⟨g3, hg3, h⟩
    · rw [h] at hg; exact hsep.2.2.2 g hg
    · rw [h] at hg; injection hg with hg
      rw [hg2]; intro e; injection e with e; omega
theorem put_own {w w' : World} {base L : Nat} {v : Value} {l : List PutA} (h : OP w base v l) (hsep : SepO w L v) (hfr : PutFr w w' L) : OP w' base v l ∧ SepO w' L v := by
  have hlt := h.lt
  refine ⟨h.keptAt (fun g hg => hfr.2 g (hlt g hg).2 (fun e => hsep.1 (by rw [hg, e])) (fun e => hsep.2 g e hg)), hsep.1, fun g hg e => ?_⟩
  rcases hfr.1 with h2 | ⟨g3, hg3, h2⟩
  · rw [h2] at hg; exact hsep.2 g hg e
  · rw [h2] at hg; injection hg with hg
    have := (hlt g e).2
    omega
theorem app_list {w w' : World} {base L : Nat} {E : List Ent} {v v' : Value} (hS : SL w base L E) (hsep : SepO w L v) (hg : w.grownBy w' v.ownBlock) (hv : v'.ownBlock = v.ownBlock ∨ v'.ownBlock = some (w.heap.size + 1)) : SL w' base L E ∧ rowAt w' L = rowAt w L ∧ SepO w' L v' := by
  have hL := hS.lt.2
  obtain ⟨g, hgr, _, _, hgl⟩ := hS.row
  have hk := hS.kept hg.size (hg.block L hL (fun e => hsep.1 e.symm)) (fun g2 hg2 => hg.block g2 (by rw [hgr] at hg2; injection hg2 with hg2; omega) (fun e => hsep.2 g2 hg2 e.symm))
  refine ⟨hk.1, hk.2, ?_, fun g2 hg2 => ?_⟩
  · rcases hv with h | h
    · rw [h]; exact hsep.1
    · rw [h]; intro e; injection e with e; omega
  · rw [hk.2] at hg2
    rcases hv with h | h
    · rw [h]; exact hsep.2 g2 hg2
    · rw [h]; intro e; injection e with e
      rw [hgr] at hg2; injection hg2 with hg2; omega
theorem SL.rebase {w : World} {base base' L : Nat} {E : List Ent} (h : SL w base L E) (hb : base' ≤ base) : SL w base' L E := by
  obtain ⟨ns, cs, ⟨g, n, cap, hL, hn, ho, h5, h6, h7, h8⟩, h9⟩ := h
  exact ⟨ns, cs, ⟨g, n, cap, hL, hn, own_base ho hb, h5, by omega, by omega, h8⟩, h9⟩
theorem OP.nil_ (w : World) (base : Nat) : OP w base (.slice none 0 0) [] := World.ownsRow_nil w base 27 5
theorem rowAt_on2 {w w' : World} {L : Nat} (h : Below w.heap.size w w') (hL : L < w.heap.size) : rowAt w' L = rowAt w L := by unfold rowAt; rw [h.cell (p := ⟨L, 0, none⟩) hL]
theorem Sep2.on {w w' : World} {L L2 : Nat} (h : Sep2 w L L2) (hb : Below w.heap.size w w') (hL : L < w.heap.size) (hL2 : L2 < w.heap.size) : Sep2 w' L L2 := by
  unfold Sep2 at h ⊢
  rw [rowAt_on2 hb hL, rowAt_on2 hb hL2]
  exact h
theorem SepO.on {w w' : World} {L : Nat} {v : Value} (h : SepO w L v) (hb : Below w.heap.size w w') (hL : L < w.heap.size) : SepO w' L v := by
  unfold SepO at h ⊢
  rw [rowAt_on2 hb hL]
  exact h
/- the order in which entries come has no part -/
theorem ins_perm (e : Ent) (E : List Ent) : (insE e E).Perm (e :: E) := by
  unfold insE
  conv => rhs; rw [← List.takeWhile_append_dropWhile (p := fun x => aheadE x e) (l := E)]
  exact List.perm_middle
theorem sorted_perm : ∀ {E F : List Ent}, E.Pairwise (fun a b => aheadE a b = true) → F.Pairwise (fun a b => aheadE a b = true) → E.Perm F → E = F
  | [], F, _, _, h => by rw [List.nil_perm] at h; exact h.symm
  | a :: E, F, hE, hF, h => by
    cases F with
    | nil => exact absurd h.length_eq (by simp)
    | cons b F =>
      rw [List.pairwise_cons] at hE hF
      have hab : a = b := by
        have h1 : a ∈ b :: F := h.subset (by simp)
        have h2 : b ∈ a :: E := h.symm.subset (by simp)
        rcases List.mem_cons.1 h1 with e | h1
        · exact e
        · rcases List.mem_cons.1 h2 with e | h2
          · exact e.symm
          · have := ahead_asymm (hE.1 b h2)
            rw [hF.1 a h1] at this; cases this
      subst hab
      rw [sorted_perm hE.2 hF.2 (List.perm_cons a |>.1 h)]
def Unlike (a b : Ent) : Prop := ¬ (a.user.toList = b.user.toList ∧ a.seq.toNat = b.seq.toNat)
theorem unlike_of {a b : Ent} (h : aheadE a b = true) : Unlike a b := by
  rintro ⟨h1, h2⟩
  rcases (aheadE_iff a b).1 h with h | h
  · rw [h1, ltB_irr] at h; cases h
  · omega
theorem unlike_pair {E F : List Ent} (hE : OkE E) (h : F.Perm E) : F.Pairwise Unlike := by
  have h1 : E.Pairwise Unlike := hE.1.imp (fun h => unlike_of h)
  exact h.symm.pairwise h1 (fun {a b} hab hba => hab ⟨hba.1.symm, hba.2.symm⟩)
theorem there_not {E : List Ent} {e : Ent} (h : ∀ x ∈ E, Unlike e x) : there e E = false := by
  unfold there
  cases hd : (E.dropWhile (fun x => aheadE x e)).head? with
  | none => rfl
  | some x =>
    have hx : x ∈ E := (List.dropWhile_sublist _).subset (List.mem_of_head? hd)
    have := h x hx
    unfold Unlike at this
    cases h1 : (x.user.toList == e.user.toList) with
    | false => simp [h1]
    | true =>
      have h1' : x.user.toList = e.user.toList := by simpa using h1
      simp only [h1, Bool.true_and, decide_eq_false_iff_not]
      intro h2
      exact this ⟨h1'.symm, h2.symm⟩
/-- one more entry, from the end -/
theorem back_step {l : List PutA} {E F : List Ent} (hE : OkE E) (hp : (l.map (·.e)).Perm E) {i : Nat} (hi : i < l.length) (hF : F.Perm ((l.drop (l.length - i)).map (·.e))) (hlt : l.length - 1 - i < l.length) :
    rightE l[l.length - 1 - i].e = true ∧ there l[l.length - 1 - i].e F = false ∧ (insE l[l.length - 1 - i].e F).Perm ((l.drop (l.length - (i + 1))).map (·.e)) := by
  have hd : l.drop (l.length - (i + 1)) = l[l.length - 1 - i] :: l.drop (l.length - i) := by
    have h1 : l.length - (i + 1) = l.length - 1 - i := by omega
    rw [h1, List.drop_eq_getElem_cons hlt]
    congr 2
    omega
  refine ⟨hE.2 _ (hp.subset (List.mem_map.2 ⟨_, List.getElem_mem hlt, rfl⟩)), there_not ?_, ?_⟩
  · have h1 := unlike_pair hE hp
    have h2 : ((l.drop (l.length - (i + 1))).map (·.e)).Pairwise Unlike := h1.sublist ((List.drop_sublist _ _).map _)
    rw [hd, List.map_cons, List.pairwise_cons] at h2
    exact fun x hx => h2.1 x (hF.subset hx)
  · rw [hd, List.map_cons]
    exact (ins_perm _ _).trans (hF.cons _)
theorem putE_ways (E : List Ent) (e : Ent) : (rightE e = true ∧ there e E = false ∧ putE E e = (0, insE e E)) ∨ putE E e = (1, E) ∨ putE E e = (3, E) := by
  unfold putE
  cases hr : rightE e with
  | false => exact .inr (.inl rfl)
  | true =>
    cases ht : there e E with
    | true => exact .inr (.inr rfl)
    | false => exact .inl ⟨rfl, rfl, rfl⟩
set_option maxRecDepth 100000 in
set_option maxHeartbeats 4000000 in
theorem skipHeights_any (v : Value) (l : List PutA) (w : World) (hv : SP w w.heap.size v l) (hl : l.length ≤ 140737488351232) (hok : ∀ x ∈ l, PutOk x) :
    Calls Try.prog 5 #[v] w fun en w' => en = .returned (.bool true) ∧ Below w.heap.size w w' := by
  go_enter Try.func5, Try.ntmps5
  go_wp2_with fail
  refine (shown_any _).mono ?_
  rintro en w1 ⟨rfl, hb1⟩
  have z1 := hb1.size
  go_wp2_with fail
  refine (sNew_any _).mono ?_
  rintro en w2 ⟨L, rfl, hS2, hb2⟩
  have b2 := bstep hb1 hb2
  have z2 := hb2.size
  have hL2 := hS2.lt
  obtain ⟨gr2, hgr2, _, _, hgl2⟩ := hS2.row
  go_wp2_with fail
  refine (sNew_any _).mono ?_
  rintro en w3 ⟨L2, rfl, hT3, hb3⟩
  have b3 := bstep b2 hb3
  have z3 := hb3.size
  have hS3 := hS2.on hb3 (Nat.le_refl _)
  have hM3 := hT3.lt
  obtain ⟨gr3, hgr3, hgne3, hgb3, hgl3⟩ := hT3.row
  have hsep3 : Sep2 w3 L L2 := by
    refine ⟨by omega, ?_, ?_, fun g hg => ?_⟩
    · rw [rowAt_on2 hb3 hL2.2, hgr2]; intro e; injection e with e; omega
    · rw [hgr3]; intro e; injection e with e; omega
    · rw [rowAt_on2 hb3 hL2.2, hgr2] at hg
      injection hg with hg
      rw [hgr3]; intro e; injection e with e; omega
  have hT3' := hT3.rebase z2
  go_wp2_with fail
  refine (few_any v l w.heap.size _ (Sl.below hv b3) hl).mono ?_
  rintro en w4 ⟨v4, rfl, hv4, hb4⟩
  have b4 := bstep b3 hb4
  have z4 := hb4.size
  have hS4 := hS3.on hb4 (Nat.le_refl _)
  have hT4 := hT3'.on hb4 (Nat.le_refl _)
  have hsep4 := hsep3.on hb4 hS3.lt.2 hM3.2
  have okm : ∀ x ∈ l.take 200, PutOk x := fun x hx => hok x (List.mem_of_mem_take hx)
  have hml : (l.take 200).length ≤ 200 := by rw [List.length_take]; omega
  generalize l.take 200 = m at hv4 okm hml
  obtain ⟨A, c, rfl, hlc, hcm, hr⟩ := hv4.form
  generalize hbase : w1.heap.size = base at hS4 hT4
  have hbw4 : base ≤ w4.heap.size := by omega
  have hBw : w.heap.size ≤ base := by omega
  clear hS2 hS3 hT3 hT3' hsep3 hgr2 hgr3
  go_wp2_with fail
  go_loopw [6, 22] (fun wv iv wr => ∃ (k : Nat) (E : List Ent) (q : List PutA), iv = .int .i64 k ∧ k ≤ m.length ∧ SL wr base L E ∧ SL wr base L2 [] ∧ Sep2 wr L L2 ∧ OP wr base wv q ∧ SepO wr L wv ∧ SepO wr L2 wv ∧ OkE E ∧ (q.map (·.e)).Perm E ∧ q.length ≤ k ∧ (∀ x ∈ q, PutOk x) ∧ Below base w4 wr) (fun _ iv _ => m.length - (intOf iv).toNat)
  case atStart => exact ⟨0, [], [], rfl, Nat.zero_le _, hS4, hT4, hsep4, OP.nil_ _ _, ⟨by simp [Value.ownBlock], fun g _ => by simp [Value.ownBlock]⟩, ⟨by simp [Value.ownBlock], fun g _ => by simp [Value.ownBlock]⟩, OkE.nil, List.Perm.refl _, Nat.le_refl _, (fun x hx => absurd hx (by simp)), Below.refl _ _⟩
  case round =>
    obtain ⟨k, E, q, rfl, hk, hS, hT, hsep, hq, ho1, ho2, hE, hpm, hqk, hqok, hbr⟩ := hrel
    clear hS4 hT4 hsep4
    have hzr := hbr.size
    have hEl : E.length = q.length := by have := hpm.length_eq; rw [List.length_map] at this; exact this.symm
    obtain ⟨Aq, cq, hqv, hqc, hqm, hqr⟩ := hq.sp.form
    subst hqv
    by_cases hlt : k < m.length
    · obtain ⟨b, o, rfl, hb, d0, d1, d2, d3, d4⟩ := (hr.below (hbr.mono (by omega))).put rfl hlt
      have okx := okm m[k] (List.getElem_mem _)
      generalize hx : m[k] = x at d0 d1 d2 d3 d4 okx
      have ba := balloc (bself wr) (putObj x)
      have hS5 := hS.on ba (Nat.le_refl _)
      have hT5 := hT.on ba (Nat.le_refl _)
      have hsep5 := hsep.on ba hS.lt.2 hT.lt.2
      have hq5 : OP (wr.alloc (putObj x)) base (.slice Aq q.length cq) q := hq.keptAt (fun g hg => ba.block g (hq.lt g hg).2)
      have ho15 := ho1.on ba hS.lt.2
      have ho25 := ho2.on ba hT.lt.2
      have bS5 : Below base w4 (wr.alloc (putObj x)) := hbr.trans (ba.mono (by omega))
      have rX := heap_alloc_new wr (putObj x)
      obtain ⟨e0, e1, e2, e3, e4⟩ := kcells5 rX
      have hsX : (wr.alloc (putObj x)).heap.size = wr.heap.size + 1 := by simp
      have hLX := hS.lt
      have hrX : rowAt (wr.alloc (putObj x)) L ≠ some wr.heap.size := by
        obtain ⟨g, hg, _, _, hgl⟩ := hS.row
        rw [rowAt_on2 ba hS.lt.2, hg]
        intro e; injection e with e; omega
      go_wp2_with fail
      refine (sPut_any base L E x.e x.h _ hS5 hE (by omega) okx.1 okx.2.1 okx.2.2).mono ?_
      rintro en w6 ⟨rfl, hS6, hfr6, hb6⟩
      have z6 := hb6.size
      have hT6 := put_other hS5 hT5 hsep5 hfr6 z6
      have hq6 := put_own hq5 ho15 hfr6
      have ho26 : SepO w6 L2 (.slice Aq q.length cq) := ⟨ho25.1, fun g hg => ho25.2 g (by rw [← hT6.2.1]; exact hg)⟩
      have rX6 := (hfr6.2 wr.heap.size (by omega) (by omega) hrX).trans rX
      have b6 : Below base w4 w6 := bS5.trans hb6
      clear e0 e1 e2 e3 e4
      obtain ⟨e0, e1, e2, e3, e4⟩ := kcells5 rX6
      rcases putE_ways E x.e with ⟨hr1, ht1, hpe⟩ | hpe | hpe
      · have HE : Hid (OkE (insE x.e E) ∧ ((q ++ [x]).map (·.e)).Perm (insE x.e E)) := Lib.hid ⟨hE.ins hr1 ht1, by
          rw [List.map_append]
          exact (List.perm_append_comm.trans (hpm.cons _)).trans (ins_perm _ _).symm⟩
        clear hr1 ht1
        rw [hpe] at hS6 ⊢
        clear hpe
        have hz6 : base ≤ w6.heap.size := by omega
        have HA : Hid (∀ (v' : Value) (w' : World), OP w' base v' (q ++ [x]) → w6.grownBy w' (Value.slice Aq q.length cq).ownBlock → (v'.ownBlock = (Value.slice Aq q.length cq).ownBlock ∨ v'.ownBlock = some (w6.heap.size + 1)) → Below base w6 w' → SL w' base L (insE x.e E) ∧ SL w' base L2 [] ∧ Sep2 w' L L2 ∧ SepO w' L v' ∧ SepO w' L2 v' ∧ Below base w4 w') := Lib.hid (fun v' w' ho hg hv hb => by
          have h1 := app_list hS6 hq6.2 hg hv
          have h2 := app_list hT6.1 ho26 hg hv
          refine ⟨h1.1, h2.1, ?_, h1.2.2, h2.2.2, b6.trans hb⟩
          have h3 := hT6.2.2
          unfold Sep2 at h3 ⊢
          rw [h1.2.1, h2.2.1]
          exact h3)
        go_wp2_with (at_builtin; refine wl_appP rfl (.tmp 33) (.tmp 35) rfl base _ q rfl hq6.1 x rfl rfl (by simp only [maxLen]; omega) (Fits.one _ _ (by omega)) hz6 ?_; intro v7 w7 hq7 hg7 hv7 hb7; have HF := HA.out v7 w7 hq7 hg7 hv7 hb7)
        go_roundw
        case rel => exact ⟨k + 1, insE x.e E, q ++ [x], by go_num, by omega, HF.1, HF.2.1, HF.2.2.1, hq7, HF.2.2.2.1, HF.2.2.2.2.1, HE.out.1, HE.out.2, by simp; omega, (fun y hy => by rcases List.mem_append.1 hy with h | h; exact hqok y h; rw [List.mem_singleton.1 h]; exact okx), HF.2.2.2.2.2⟩
        case measure => simp [intOf]; omega
      · rw [hpe] at hS6 ⊢
        clear hpe
        go_wp2_with fail
        go_roundw
        case rel => exact ⟨k + 1, E, q, by go_num, by omega, hS6, hT6.1, hT6.2.2, hq6.1, hq6.2, ho26, hE, hpm, by omega, hqok, b6⟩
        case measure => simp [intOf]; omega
      · rw [hpe] at hS6 ⊢
        clear hpe
        go_wp2_with fail
        go_roundw
        case rel => exact ⟨k + 1, E, q, by go_num, by omega, hS6, hT6.1, hT6.2.2, hq6.1, hq6.2, ho26, hE, hpm, by omega, hqok, b6⟩
        case measure => simp [intOf]; omega
    · clear hqr
      go_wp2_with fail
      have hzb : base ≤ wr.heap.size := by omega
      have hwb : Below base w4 wr := hbr
      go_loopw [40] (fun iv wy => ∃ (i : Nat) (F : List Ent), iv = .int .i64 i ∧ i ≤ q.length ∧ SL wy base L E ∧ SL wy base L2 F ∧ Sep2 wy L L2 ∧ OP wy base (.slice Aq q.length cq) q ∧ SepO wy L (.slice Aq q.length cq) ∧ SepO wy L2 (.slice Aq q.length cq) ∧ OkE F ∧ F.Perm ((q.drop (q.length - i)).map (·.e)) ∧ Below base w4 wy ∧ base ≤ wy.heap.size) (fun iv _ => q.length - (intOf iv).toNat)
      case atStart => exact ⟨0, [], rfl, Nat.zero_le _, hS, hT, hsep, hq, ho1, ho2, OkE.nil, by simp, hwb, hzb⟩
      case round =>
        obtain ⟨i, F, rfl, hi, hS7, hT7, hsep7, hq7, ho17, ho27, hF, hFp, hbr7, hzb7⟩ := hrel
        clear hS hT hsep hq ho1 ho2 hzb
        have hFl : F.length = i := by have := hFp.length_eq; rw [List.length_map, List.length_drop] at this; omega
        obtain ⟨A7, c7, hv7, hc7, hm7, hr7⟩ := hq7.sp.form
        injection hv7 with hv71 hv72 hv73
        subst hv71; subst hv73
        by_cases hlt7 : i < q.length
        · have hix : q.length - 1 - i < q.length := by omega
          obtain ⟨hr8, ht8, hp8⟩ := back_step hE hpm hlt7 hFp hix
          obtain ⟨b, o, rfl, hb, d0, d1, d2, d3, d4⟩ := hr7.put rfl hix
          have okx := hqok _ (List.getElem_mem hix)
          generalize hx : q[q.length - 1 - i] = x at d0 d1 d2 d3 d4 okx hr8 ht8 hp8
          have gi : ((q.length : Int) - 1 - (i : Int)) = ((q.length - 1 - i : Nat) : Int) := by omega
          have HP : Hid (putE F x.e = (0, insE x.e F)) := Lib.hid (by unfold putE; rw [hr8, ht8]; rfl)
          have HQ : Hid (OkE (insE x.e F) ∧ (insE x.e F).Perm ((q.drop (q.length - (i + 1))).map (·.e))) := Lib.hid ⟨hF.ins hr8 ht8, hp8⟩
          clear hr8 ht8 hp8 hx
          go_wp2_with fail
          refine (sPut_any base L2 F x.e (i : Int) _ hT7 hF (by omega) okx.1 (by omega) (by omega)).mono ?_
          rintro en w8 ⟨rfl, hT8, hfr8, hb8⟩
          rw [HP.out] at hT8 ⊢
          have z8 := hb8.size
          have hS8 := put_other hT7 hS7 hsep7.symm hfr8 z8
          have hq8 := put_own hq7 ho27 hfr8
          have ho18 : SepO w8 L (.slice (some ⟨b, o, none⟩) q.length cq) := ⟨ho17.1, fun g hg => ho17.2 g (by rw [← hS8.2.1]; exact hg)⟩
          have b8 := hbr7.trans hb8
          go_wp2_with fail
          go_roundw
          case rel => exact ⟨i + 1, insE x.e F, by go_num, by omega, hS8.1, hT8, hS8.2.2.symm, hq8.1, ho18, hq8.2, HQ.out.1, HQ.out.2, b8, by omega⟩
          case measure => simp [intOf]; omega
        · have hiq : i = q.length := by omega
          have hFE : F = E := sorted_perm hF.1 hE.1 (by
            rw [hiq, Nat.sub_self, List.drop_zero] at hFp
            exact hFp.trans hpm)
          have hEn : E.length ≤ 1000 := by omega
          subst hFE
          clear hiq hFl
          go_wp2_with fail
          refine (sAll_any base L F _ hS7 hEn).mono ?_
          rintro en w8 ⟨v8, rfl, ho8, hb8⟩
          have b8 := hbr7.trans (hb8.mono hzb7)
          have z8 := hb8.size
          have hS8 := hS7.on hb8 (Nat.le_refl _)
          have hT8 := hT7.on hb8 (Nat.le_refl _)
          go_wp2_with fail
          refine (sAll_any base L2 F _ hT8 hEn).mono ?_
          rintro en w9 ⟨v9, rfl, ho9, hb9⟩
          have b9 := b8.trans (hb9.mono (by omega))
          have z9 := hb9.size
          have hS9 := hS8.on hb9 (Nat.le_refl _)
          have hT9 := hT8.on hb9 (Nat.le_refl _)
          have ho8' := ho8.below hb9 (Nat.le_refl _)
          go_wp2_with fail
          refine (rSame_true _ _ F _ ho8'.se ho9.se).mono ?_
          rintro en w10 ⟨rfl, hb10⟩
          have b10 := b9.trans (hb10.mono (by omega))
          have z10 := hb10.size
          have hS10 := hS9.on hb10 (Nat.le_refl _)
          have hT10 := hT9.on hb10 (Nat.le_refl _)
          go_wp2_with fail
          refine (sLen_any base L F _ hS10 hEn).mono ?_
          rintro en w11 ⟨rfl, hb11⟩
          have b11 := b10.trans (hb11.mono (by omega))
          have z11 := hb11.size
          have hS11 := hS10.on hb11 (Nat.le_refl _)
          have hT11 := hT10.on hb11 (Nat.le_refl _)
          rw [hEl]
          go_wp2_with fail
          refine (sSize_any base L F _ hS11).mono ?_
          rintro en w12 ⟨rfl, hb12⟩
          have b12 := b11.trans (hb12.mono (by omega))
          have z12 := hb12.size
          have hT12 := hT11.on hb12 (Nat.le_refl _)
          go_wp2_with fail
          refine (sSize_any base L2 F _ hT12).mono ?_
          rintro en w13 ⟨rfl, hb13⟩
          have b13 := b12.trans (hb13.mono (by omega))
          go_wp2_with fail
          go_ret
          exact ⟨rfl, b4.trans (b13.mono hBw)⟩
end Go.Proofs.Ytlphbkhcdnbbnaa
