/-
  What is proved here: the walk of SkipPlays: it returns true. Condition: the list's length.
-/
import Derived.Test.YtlphbkhcdnbbnaaSkipNewestW
import Derived.Test.YtlphbkhcdnbbnaaSkipRefW2
import Derived.Test.YtlphbkhcdnbbnaaSameW
namespace Go.Proofs.Ytlphbkhcdnbbnaa
open Go.RowKit

/-- the list and the reference's list lie apart -/
def Sep (w : World) (L R : Nat) : Prop := R ≠ L ∧ rowAt w L ≠ some R ∧ ∀ v, w.cell? ⟨R, 0, none⟩ = some v → v.ownBlock ≠ some L ∧ ∀ g, rowAt w L = some g → v.ownBlock ≠ some g
theorem rowAt_on {w w' : World} {L : Nat} (h : Below w.heap.size w w') (hL : L < w.heap.size) : rowAt w' L = rowAt w L := by unfold rowAt; rw [h.cell (p := ⟨L, 0, none⟩) hL]
theorem Sep.on {w w' : World} {L R : Nat} (h : Sep w L R) (hb : Below w.heap.size w w') (hL : L < w.heap.size) (hR : R < w.heap.size) : Sep w' L R := by
  unfold Sep at h ⊢
  rw [rowAt_on hb hL, hb.cell (p := ⟨R, 0, none⟩) hR]
  exact h
theorem OE.keptAt {w w' : World} {base : Nat} {v : Value} {E : List Ent} (h : OE w base v E) (hk : ∀ g, v.ownBlock = some g → w'.heap[g]? = w.heap[g]?) : OE w' base v E := by
  refine ⟨h.1, ?_⟩
  rcases h.2 with hn | ⟨g, cap, cur, hv, hbg, hg, rest⟩
  · exact .inl hn
  · exact .inr ⟨g, cap, cur, hv, hbg, (hk g (by rw [hv]; rfl)).trans hg, rest⟩
theorem sep_put {w w' : World} {base L R : Nat} {E E' : List Ent} (hS : SL w base L E) (hR : RL w base R E') (hsep : Sep w L R) (hfr : PutFr w w' L) : RL w' base R E' ∧ Sep w' L R := by
  have hRlt := hR.lt
  obtain ⟨v, h1, h2, h3⟩ := hR
  have hc := cell_of_row w R 0 _ _ _ h1
  obtain ⟨s1, s2⟩ := hsep.2.2 v (by simpa using hc)
  have hR' := (hfr.2 R hRlt hsep.1 hsep.2.1)
  have hlt : ∀ g, v.ownBlock = some g → g < w.heap.size := fun g hg => (h2.lt g hg).2
  refine ⟨⟨v, hR'.trans h1, h2.keptAt (fun g hg => hfr.2 g (hlt g hg) (fun e => s1 (by rw [hg, e])) (fun e => s2 g e hg)), h3⟩, hsep.1, ?_, ?_⟩
  · rcases hfr.1 with h | ⟨g, hg, h⟩
    · rw [h]; exact hsep.2.1
    · rw [h]; intro e; injection e with e; omega
  · intro v' hv'
    have hc' := cell_of_row w' R 0 _ _ _ (hR'.trans h1)
    rw [hc'] at hv'
    obtain rfl : v = v' := by simpa using hv'
    refine ⟨s1, fun g hg e => ?_⟩
    rcases hfr.1 with h | ⟨g2, hg2, h⟩
    · rw [h] at hg; exact s2 g hg e
    · rw [h] at hg
      injection hg with hg
      have := hlt g e
      omega
theorem sep_ref {w w' : World} {base L R : Nat} {E : List Ent} (hS : SL w base L E) (hsep : Sep w L R) (hfr : RefFr w w' R) (hg : w.grownBy w' (some R)) : SL w' base L E ∧ Sep w' L R := by
  have hL := hS.lt.2
  obtain ⟨gr, hgr, hgrL, hgb, hgl⟩ := hS.row
  have hne : gr ≠ R := fun e => hsep.2.1 (by rw [hgr, e])
  have hk := hS.kept hg.size (hg.block L hL (fun e => hsep.1 (by injection e with e; exact e.symm))) (fun g hgg => by
    rw [hgr] at hgg
    injection hgg with hgg
    subst hgg
    exact hg.block gr hgl (fun e => hne (by injection e)))
  refine ⟨hk.1, hsep.1, by rw [hk.2]; exact hsep.2.1, fun v' hv' => ?_⟩
  rw [hk.2]
  rcases hfr v' hv' with h | h
  · exact hsep.2.2 v' h
  · refine ⟨fun e => ?_, fun g hgg e => ?_⟩
    · have := h _ e; omega
    · rw [hgr] at hgg
      injection hgg with hgg
      subst hgg
      have := h _ e
      omega
set_option maxRecDepth 100000 in
set_option maxHeartbeats 4000000 in
theorem skipPlays_any (v : Value) (l : List PutA) (u : ByteArray) (s : UInt64) (n : Int) (w : World) (hv : SP w w.heap.size v l) (hl : l.length ≤ 140737488351232) (hok : ∀ x ∈ l, PutOk x) (hu : u.size ≤ 9223372036854775807) (hn1 : -9223372036854775808 ≤ n) (hn2 : n ≤ 9223372036854775807) :
    Calls Try.prog 4 #[v, askV u s n] w fun en w' => en = .returned (.bool true) ∧ Below w.heap.size w w' := by
  go_enter Try.func4, Try.ntmps4
  go_wp2_with fail
  have bA : Below w.heap.size w (w.alloc (askObj u s n)) := balloc (bself w) _
  have rA2 : (w.alloc (askObj u s n)).heap[w.heap.size]? = some (askObj u s n) := heap_alloc_new w _
  have zA : (w.alloc (askObj u s n)).heap.size = w.heap.size + 1 := by simp
  generalize w.alloc (askObj u s n) = wA at bA rA2 zA
  refine (shown_any _).mono ?_
  rintro en w1 ⟨rfl, hb1⟩
  have b1 := bstep bA hb1
  have z1 := hb1.size
  go_wp2_with fail
  refine (sNew_any _).mono ?_
  rintro en w2 ⟨L, rfl, hS2, hb2⟩
  have b2 := bstep b1 hb2
  have z2 := hb2.size
  have c2 := hb1.trans (hb2.mono z1)
  have hL2 := hS2.lt
  obtain ⟨gr2, hgr2, _, _, hgl2⟩ := hS2.row
  go_upto_region 6 with fail
  have hR2 : RL (w2.alloc (refObj (.slice none 0 0))) w1.heap.size w2.heap.size [] := ⟨_, heap_alloc_new w2 _, OE.nil_ _ _, by simp [Value.ownBlock]⟩
  have hsep2 : Sep (w2.alloc (refObj (.slice none 0 0))) L w2.heap.size := by
    refine ⟨by omega, by rw [rowAt_on (balloc (bself w2) _) hL2.2, hgr2]; intro e; injection e with e; omega, fun v hv => ?_⟩
    rw [cell_of_row _ w2.heap.size 0 _ _ _ (heap_alloc_new w2 (refObj (.slice none 0 0)))] at hv
    obtain rfl : Value.slice none 0 0 = v := by simpa using hv
    exact ⟨by simp [Value.ownBlock], fun g _ => by simp [Value.ownBlock]⟩
  have hS2' := hS2.on (balloc (bself w2) (refObj (.slice none 0 0))) (Nat.le_refl _)
  have c2' : Below wA.heap.size wA (w2.alloc (refObj (.slice none 0 0))) := c2.trans ((balloc (bself w2) _).mono (by omega))
  have b2' := balloc b2 (refObj (.slice none 0 0))
  have z2' : (w2.alloc (refObj (.slice none 0 0))).heap.size = w2.heap.size + 1 := by simp
  generalize hRR : w2.heap.size = R at hR2 hsep2 z2'
  generalize w2.alloc (refObj (.slice none 0 0)) = w2a at hR2 hsep2 hS2' c2' b2' z2'
  go_wp2_with fail
  refine (few_any v l w.heap.size _ (Sl.below hv b2') hl).mono ?_
  rintro en w3 ⟨v3, rfl, hv3, hb3⟩
  have b3 := bstep b2' hb3
  have z3 := hb3.size
  have hS3 := hS2'.on hb3 (Nat.le_refl _)
  have hR3 := hR2.on hb3 (Nat.le_refl _)
  have hsep3 := hsep2.on hb3 (by omega) (by omega)
  have c3 := c2'.trans (hb3.mono (by omega))
  have okm : ∀ x ∈ l.take 200, PutOk x := fun x hx => hok x (List.mem_of_mem_take hx)
  have hml : (l.take 200).length ≤ 200 := by rw [List.length_take]; omega
  generalize l.take 200 = m at hv3 okm hml
  obtain ⟨A, c, rfl, hlc, hcm, hr⟩ := hv3.form
  generalize hbase : w1.heap.size = base at hS3 hR3
  have hb3' : Below base w3 w3 := Below.refl _ _
  have rB2 := (c3.block _ (by omega)).trans rA2
  have hBw : w.heap.size + 1 ≤ base := by omega
  have hbw3 : base ≤ w3.heap.size := by omega
  clear hS2 hS2' hR2 hsep2 hgr2
  go_wp2_with fail
  go_loopw [23] (fun iv wr => ∃ (k : Nat) (E : List Ent), iv = .int .i64 k ∧ k ≤ m.length ∧ SL wr base L E ∧ RL wr base R E ∧ Sep wr L R ∧ OkE E ∧ E.length ≤ k ∧ Below base w3 wr) (fun iv _ => m.length - (intOf iv).toNat)
  case atStart => exact ⟨0, [], rfl, Nat.zero_le _, hS3, hR3, hsep3, OkE.nil, Nat.le_refl _, hb3'⟩
  case round =>
    obtain ⟨k, E, rfl, hk, hS, hR, hsep, hE, hEk, hbr⟩ := hrel
    clear hS3 hR3 hsep3
    have pQ := (hbr.block _ (by omega)).trans rB2
    have hzr := hbr.size
    have hSl := hS.lt
    have hRl := hR.lt
    by_cases hlt : k < m.length
    · obtain ⟨b, o, rfl, hb, d0, d1, d2, d3, d4⟩ := (hr.below (hbr.mono (by omega))).put rfl hlt
      have okx := okm m[k] (List.getElem_mem _)
      generalize hx : m[k] = x at d0 d1 d2 d3 d4 okx
      have hS5 := hS.on (balloc (bself wr) (putObj x)) (Nat.le_refl _)
      have hR5 := hR.on (balloc (bself wr) (putObj x)) (Nat.le_refl _)
      have hsep5 := hsep.on (balloc (bself wr) (putObj x)) hSl.2 hRl
      have bS5 : Below base w3 (wr.alloc (putObj x)) := hbr.trans ((balloc (bself wr) _).mono (by omega))
      have hzX : (wr.alloc (putObj x)).heap.size = wr.heap.size + 1 := by simp
      have rX := heap_alloc_new wr (putObj x)
      have hQb : wr.heap.size ≠ R := by omega
      have hLX : wr.heap.size ≠ L := by omega
      have hrX : rowAt (wr.alloc (putObj x)) L ≠ some wr.heap.size := by
        obtain ⟨g, hg, _, _, hgl⟩ := hS.row
        rw [rowAt_on (balloc (bself wr) _) hSl.2, hg]
        intro e; injection e with e; omega
      go_upto_region 9 with fail
      generalize hX : wr.heap.size = X at rX hQb hzX hLX hrX
      generalize wr.alloc (putObj x) = wx at hS5 hR5 hsep5 bS5 rX hzX hrX
      go_cut [57] (fun cv wy => cv = .bool false ∧ SL wy base L (putE E x.e).2 ∧ RL wy base R (putE E x.e).2 ∧ Sep wy L R ∧ Below base wx wy)
      case first =>
        have HP : Hid (OkE (putE E x.e).2 ∧ (putE E x.e).2.length ≤ E.length + 1) := Lib.hid (hE.put x.e)
        generalize hpe : putE E x.e = pe at HP
        obtain ⟨cd, E'⟩ := pe
        have hE' : OkE E' := HP.out.1
        have hl' : E'.length ≤ 1000 := by have := HP.out.2; simp only at this; omega
        have HPE := Lib.hid hpe
        clear hpe HP
        have HK : Hid (∀ w' : World, w'.heap[X]? = some (putObj x) → w'.cell? ⟨X, 0, none⟩ = some (.string x.e.user) ∧ w'.cell? ⟨X, 1, none⟩ = some (.int .u64 (x.e.seq.toNat : Int)) ∧ w'.cell? ⟨X, 2, none⟩ = some (.int .u8 (x.e.kind.toNat : Int)) ∧ w'.cell? ⟨X, 3, none⟩ = some (.string x.e.value) ∧ w'.cell? ⟨X, 4, none⟩ = some (.int .i64 x.h)) := Lib.hid (fun w' h => kcells5 h)
        have hbx : base ≤ wx.heap.size := by omega
        have hS5d : SL wx.drew base L E := hS5
        have hR5d : RL wx.drew base R E := hR5
        have hsep5d : Sep wx.drew L R := hsep5
        have rXd : wx.drew.heap[X]? = some (putObj x) := rX
        have hrXd : rowAt wx.drew L ≠ some X := hrX
        have hXd : X < wx.drew.heap.size := by show X < wx.heap.size; omega
        have bxd : Below base wx wx.drew := (Below.refl _ _).drew
        refine wp_region_noPanic ?_
        refine wp_region_held_drew (S := fun w' => w'.cell? ⟨X, 0, none⟩ = some (.string x.e.user) ∧ w'.cell? ⟨X, 1, none⟩ = some (.int .u64 (x.e.seq.toNat : Int)) ∧ w'.cell? ⟨X, 2, none⟩ = some (.int .u8 (x.e.kind.toNat : Int)) ∧ w'.cell? ⟨X, 3, none⟩ = some (.string x.e.value) ∧ w'.cell? ⟨X, 4, none⟩ = some (.int .i64 x.h)) (by kernel_rfl) (HK.out _ rX) (fun hHeld => ?_)
        refine reg_take 0 (v := ?_) (by rfl) (by kernel_rfl) (by kernel_rfl) (by kernel_rfl) (fun _ _ _ h => h) (by rfl) ?_ (by assumption) ?_
        rotate_left
        · (intro wq hSq; (try dsimp only at hSq); go_split_ands; go_simp; (try with_reducible rfl))
        try simp only [Act.put, List.setIfInBounds_toArray, List.set_cons_zero, List.set_cons_succ]
        refine reg_take 1 (v := ?_) (by rfl) (by kernel_rfl) (by kernel_rfl) (by kernel_rfl) (fun _ _ _ h => h) (by rfl) ?_ (by assumption) ?_
        rotate_left
        · (intro wq hSq; (try dsimp only at hSq); go_split_ands; go_simp; (try with_reducible rfl))
        try simp only [Act.put, List.setIfInBounds_toArray, List.set_cons_zero, List.set_cons_succ]
        refine reg_take 2 (v := ?_) (by rfl) (by kernel_rfl) (by kernel_rfl) (by kernel_rfl) (fun _ _ _ h => h) (by rfl) ?_ (by assumption) ?_
        rotate_left
        · (intro wq hSq; (try dsimp only at hSq); go_split_ands; go_simp; (try with_reducible rfl))
        try simp only [Act.put, List.setIfInBounds_toArray, List.set_cons_zero, List.set_cons_succ]
        refine reg_take 3 (v := ?_) (by rfl) (by kernel_rfl) (by kernel_rfl) (by kernel_rfl) (fun _ _ _ h => h) (by rfl) ?_ (by assumption) ?_
        rotate_left
        · (intro wq hSq; (try dsimp only at hSq); go_split_ands; go_simp; (try with_reducible rfl))
        try simp only [Act.put, List.setIfInBounds_toArray, List.set_cons_zero, List.set_cons_succ]
        refine reg_take 4 (v := ?_) (by rfl) (by kernel_rfl) (by kernel_rfl) (by kernel_rfl) (fun _ _ _ h => h) (by rfl) ?_ (by assumption) ?_
        rotate_left
        · (intro wq hSq; (try dsimp only at hSq); go_split_ands; go_simp; (try with_reducible rfl))
        try simp only [Act.put, List.setIfInBounds_toArray, List.set_cons_zero, List.set_cons_succ]
        refine reg_take 6 (v := ?_) (by rfl) (by kernel_rfl) (by kernel_rfl) (by kernel_rfl) (fun _ _ _ h => h) (by rfl) ?_ (by assumption) ?_
        rotate_left
        · (intro wq hSq; (try dsimp only at hSq); go_split_ands; go_simp; (try with_reducible rfl))
        try simp only [Act.put, List.setIfInBounds_toArray, List.set_cons_zero, List.set_cons_succ]
        refine reg_take 7 (v := ?_) (by rfl) (by kernel_rfl) (by kernel_rfl) (by kernel_rfl) (fun _ _ _ h => h) (by rfl) ?_ (by assumption) ?_
        rotate_left
        · (intro wq hSq; (try dsimp only at hSq); go_split_ands; go_simp; (try with_reducible rfl))
        try simp only [Act.put, List.setIfInBounds_toArray, List.set_cons_zero, List.set_cons_succ]
        refine reg_take 8 (v := ?_) (by rfl) (by kernel_rfl) (by kernel_rfl) (by kernel_rfl) (fun _ _ _ h => h) (by rfl) ?_ (by assumption) ?_
        rotate_left
        · (intro wq hSq; (try dsimp only at hSq); go_split_ands; go_simp; (try with_reducible rfl))
        try simp only [Act.put, List.setIfInBounds_toArray, List.set_cons_zero, List.set_cons_succ]
        refine reg_one 5 (by rfl) (by kernel_rfl) (by rfl) (fun K hK => ?_)
        (go_simp; go_at_call 11; refine (sPut_any base L E x.e x.h wx.drew hS5d hE (by omega) okx.1 okx.2.1 okx.2.2).mono ?_; rintro e1 w6 ⟨rfl, hS6, hfr6, hb6⟩; rw [HPE.out] at hS6 ⊢; have hSR6 := sep_put hS5d hR5d hsep5d hfr6; have rX6 := (hfr6.2 X hXd hLX hrXd).trans rXd; have z6 := hb6.size; have hb6 := bxd.trans hb6; go_wp2_with fail)
        refine hK.out _ _ ?_ (fun hHeld => ?_)
        · exact HK.out _ rX6
        clear hK K
        try simp only [Act.put, List.setIfInBounds_toArray, List.set_cons_zero, List.set_cons_succ]
        refine reg_one 9 (by rfl) (by kernel_rfl) (by rfl) (fun K hK => ?_)
        (go_simp; go_at_call 14; refine (rPut_any base R E x.e _ hSR6.1 (by omega) okx.1.1 okx.1.2 (Nat.le_trans hbx z6)).mono ?_; rintro e2 w7 ⟨rfl, hR7, hrf7, hg7⟩; rw [HPE.out] at hR7 ⊢; have hSR7 := sep_ref hS6 hSR6.2 hrf7 hg7; have rX7 := (hg7.block X (Array.getElem?_eq_some_iff.1 rX6).1 (by intro e; injection e with e; exact hQb e)).trans rX6; have z7 := hg7.size; have bg7 := hb6.trans ((Below.refl base w6).grown hg7 (Nat.le_trans hbx z6) (fun k hk => by injection hk with hk; omega)); go_wp2_with fail)
        refine hK.out _ _ ?_ (fun hHeld => ?_)
        · exact HK.out _ rX7
        clear hK K
        try simp only [Act.put, List.setIfInBounds_toArray, List.set_cons_zero, List.set_cons_succ]
        obtain ⟨vr, hcr, hor, _, _⟩ := hR7.cell0
        obtain ⟨Ar, cr, hvr, _, _, _⟩ := hor.se.form
        subst hvr
        refine reg_add (fun w' => w'.cell? ⟨R, 0, none⟩ = some (.slice Ar E'.length cr)) (by assumption) hcr (fun hHeld => ?_)
        have hR7l := hR7.lt
        refine reg_take 10 (v := ?_) (by rfl) (by kernel_rfl) (by kernel_rfl) (by kernel_rfl) (fun _ _ _ h => h) (by rfl) ?_ (by assumption) ?_
        rotate_left
        · (intro wq hSq; (try dsimp only at hSq); go_split_ands; go_simp; (try with_reducible rfl))
        try simp only [Act.put, List.setIfInBounds_toArray, List.set_cons_zero, List.set_cons_succ]
        refine reg_take 11 (v := ?_) (by rfl) (by kernel_rfl) (by kernel_rfl) (by kernel_rfl) (fun _ _ _ h => h) (by rfl) ?_ (by assumption) ?_
        rotate_left
        · (intro wq hSq; (try dsimp only at hSq); go_split_ands; go_simp; (try with_reducible rfl))
        try simp only [Act.put, List.setIfInBounds_toArray, List.set_cons_zero, List.set_cons_succ]
        refine reg_take 12 (v := ?_) (by rfl) (by kernel_rfl) (by kernel_rfl) (by kernel_rfl) (fun _ _ _ h => h) (by rfl) ?_ (by assumption) ?_
        rotate_left
        · (intro wq hSq; (try dsimp only at hSq); go_split_ands; go_simp; (try with_reducible rfl))
        try simp only [Act.put, List.setIfInBounds_toArray, List.set_cons_zero, List.set_cons_succ]
        refine reg_take 14 (v := ?_) (by rfl) (by kernel_rfl) (by kernel_rfl) (by kernel_rfl) (fun _ _ _ h => h) (by rfl) ?_ (by assumption) ?_
        rotate_left
        · (intro wq hSq; (try dsimp only at hSq); go_split_ands; go_simp; (try with_reducible rfl))
        try simp only [Act.put, List.setIfInBounds_toArray, List.set_cons_zero, List.set_cons_succ]
        refine reg_take 15 (v := ?_) (by rfl) (by kernel_rfl) (by kernel_rfl) (by kernel_rfl) (fun _ _ _ h => h) (by rfl) ?_ (by assumption) ?_
        rotate_left
        · (intro wq hSq; (try dsimp only at hSq); go_split_ands; go_simp; (try with_reducible rfl))
        try simp only [Act.put, List.setIfInBounds_toArray, List.set_cons_zero, List.set_cons_succ]
        refine reg_take 16 (v := ?_) (by rfl) (by kernel_rfl) (by kernel_rfl) (by kernel_rfl) (fun _ _ _ h => h) (by rfl) ?_ (by assumption) ?_
        rotate_left
        · (intro wq hSq; (try dsimp only at hSq); go_split_ands; go_simp; (try with_reducible rfl))
        try simp only [Act.put, List.setIfInBounds_toArray, List.set_cons_zero, List.set_cons_succ]
        refine reg_take 17 (v := ?_) (by rfl) (by kernel_rfl) (by kernel_rfl) (by kernel_rfl) (fun _ _ _ h => h) (by rfl) ?_ (by assumption) ?_
        rotate_left
        · (intro wq hSq; (try dsimp only at hSq); go_split_ands; go_simp; (try with_reducible rfl))
        try simp only [Act.put, List.setIfInBounds_toArray, List.set_cons_zero, List.set_cons_succ]
        refine reg_take 18 (v := ?_) (by rfl) (by kernel_rfl) (by kernel_rfl) (by kernel_rfl) (fun _ _ _ h => h) (by rfl) ?_ (by assumption) ?_
        rotate_left
        · (intro wq hSq; (try dsimp only at hSq); go_split_ands; go_simp; (try with_reducible rfl))
        try simp only [Act.put, List.setIfInBounds_toArray, List.set_cons_zero, List.set_cons_succ]
        refine reg_one 13 (by rfl) (by kernel_rfl) (by rfl) (fun K hK => ?_)
        (go_simp; go_at_call 15; refine (sLen_any base L E' _ hSR7.1 hl').mono ?_; rintro e3 w8 ⟨rfl, hb8⟩; have hcr8 := (hb8.cell (p := ⟨R, 0, none⟩) hR7l).trans hcr; have rX8 := (hb8.block X (Array.getElem?_eq_some_iff.1 rX7).1).trans rX7; have hS8 := hSR7.1.on hb8 (Nat.le_refl _); have hR8 := hR7.on hb8 (Nat.le_refl _); have hsep8 := hSR7.2.on hb8 hSR7.1.lt.2 hR7l; have hor8 := hor.below hb8 (Nat.le_refl _); have bg8 := bg7.trans (hb8.mono (Nat.le_trans (Nat.le_trans hbx z6) z7)); have z8 := hb8.size; go_wp2_with fail)
        refine hK.out _ _ ?_ (fun hHeld => ?_)
        · exact ⟨hcr8, HK.out _ rX8⟩
        clear hK K
        try simp only [Act.put, List.setIfInBounds_toArray, List.set_cons_zero, List.set_cons_succ]
        have hR8l := hR8.lt
        refine reg_take 19 (v := ?_) (by rfl) (by kernel_rfl) (by kernel_rfl) (by kernel_rfl) (fun _ _ _ h => h) (by rfl) ?_ (by assumption) ?_
        rotate_left
        · (intro wq hSq; (try dsimp only at hSq); go_split_ands; go_simp; (try with_reducible rfl))
        try simp only [Act.put, List.setIfInBounds_toArray, List.set_cons_zero, List.set_cons_succ]
        refine reg_take 20 (v := ?_) (by rfl) (by kernel_rfl) (by kernel_rfl) (by kernel_rfl) (fun _ _ _ h => h) (by rfl) ?_ (by assumption) ?_
        rotate_left
        · (intro wq hSq; (try dsimp only at hSq); go_split_ands; go_simp; (try with_reducible rfl))
        try simp only [Act.put, List.setIfInBounds_toArray, List.set_cons_zero, List.set_cons_succ]
        refine reg_take 21 (v := ?_) (by rfl) (by kernel_rfl) (by kernel_rfl) (by kernel_rfl) (fun _ _ _ h => h) (by rfl) ?_ (by assumption) ?_
        rotate_left
        · (intro wq hSq; (try dsimp only at hSq); go_split_ands; go_simp; (try with_reducible rfl))
        try simp only [Act.put, List.setIfInBounds_toArray, List.set_cons_zero, List.set_cons_succ]
        refine reg_take 22 (v := ?_) (by rfl) (by kernel_rfl) (by kernel_rfl) (by kernel_rfl) (fun _ _ _ h => h) (by rfl) ?_ (by assumption) ?_
        rotate_left
        · (intro wq hSq; (try dsimp only at hSq); go_split_ands; go_simp; (try with_reducible rfl))
        try simp only [Act.put, List.setIfInBounds_toArray, List.set_cons_zero, List.set_cons_succ]
        refine reg_take 24 (v := ?_) (by rfl) (by kernel_rfl) (by kernel_rfl) (by kernel_rfl) (fun _ _ _ h => h) (by rfl) ?_ (by assumption) ?_
        rotate_left
        · (intro wq hSq; (try dsimp only at hSq); go_split_ands; go_simp; (try with_reducible rfl))
        try simp only [Act.put, List.setIfInBounds_toArray, List.set_cons_zero, List.set_cons_succ]
        refine reg_take 25 (v := ?_) (by rfl) (by kernel_rfl) (by kernel_rfl) (by kernel_rfl) (fun _ _ _ h => h) (by rfl) ?_ (by assumption) ?_
        rotate_left
        · (intro wq hSq; (try dsimp only at hSq); go_split_ands; go_simp; (try with_reducible rfl))
        try simp only [Act.put, List.setIfInBounds_toArray, List.set_cons_zero, List.set_cons_succ]
        refine reg_take 26 (v := ?_) (by rfl) (by kernel_rfl) (by kernel_rfl) (by kernel_rfl) (fun _ _ _ h => h) (by rfl) ?_ (by assumption) ?_
        rotate_left
        · (intro wq hSq; (try dsimp only at hSq); go_split_ands; go_simp; (try with_reducible rfl))
        try simp only [Act.put, List.setIfInBounds_toArray, List.set_cons_zero, List.set_cons_succ]
        refine reg_take 27 (v := ?_) (by rfl) (by kernel_rfl) (by kernel_rfl) (by kernel_rfl) (fun _ _ _ h => h) (by rfl) ?_ (by assumption) ?_
        rotate_left
        · (intro wq hSq; (try dsimp only at hSq); go_split_ands; go_simp; (try with_reducible rfl))
        try simp only [Act.put, List.setIfInBounds_toArray, List.set_cons_zero, List.set_cons_succ]
        refine reg_one 23 (by rfl) (by kernel_rfl) (by rfl) (fun K hK => ?_)
        (go_simp; go_at_call 16; refine (sSize_any base L E' _ hS8).mono ?_; rintro e4 w9 ⟨rfl, hb9⟩; have hcr9 := (hb9.cell (p := ⟨R, 0, none⟩) hR8l).trans hcr8; have rX9 := (hb9.block X (Array.getElem?_eq_some_iff.1 rX8).1).trans rX8; have hS9 := hS8.on hb9 (Nat.le_refl _); have hR9 := hR8.on hb9 (Nat.le_refl _); have hsep9 := hsep8.on hb9 hS8.lt.2 hR8l; have hor9 := hor8.below hb9 (Nat.le_refl _); have bg9 := bg8.trans (hb9.mono (Nat.le_trans (Nat.le_trans (Nat.le_trans hbx z6) z7) z8)); have z9 := hb9.size; go_wp2_with fail)
        refine hK.out _ _ ?_ (fun hHeld => ?_)
        · exact ⟨hcr9, HK.out _ rX9⟩
        clear hK K
        try simp only [Act.put, List.setIfInBounds_toArray, List.set_cons_zero, List.set_cons_succ]
        have hR9l := hR9.lt
        refine reg_one 28 (by rfl) (by kernel_rfl) (by rfl) (fun K hK => ?_)
        (go_simp; go_at_call 17; refine (rSize_any _ E' _ hor9.se hE' hl').mono ?_; rintro e5 w10 ⟨rfl, hb10⟩; have hcr10 := (hb10.cell (p := ⟨R, 0, none⟩) hR9l).trans hcr9; have rX10 := (hb10.block X (Array.getElem?_eq_some_iff.1 rX9).1).trans rX9; have hS10 := hS9.on hb10 (Nat.le_refl _); have hR10 := hR9.on hb10 (Nat.le_refl _); have hsep10 := hsep9.on hb10 hS9.lt.2 hR9l; have bg10 := bg9.trans (hb10.mono (Nat.le_trans (Nat.le_trans (Nat.le_trans (Nat.le_trans hbx z6) z7) z8) z9)); go_wp2_with fail)
        refine hK.out _ _ ?_ (fun hHeld => ?_)
        · exact ⟨hcr10, HK.out _ rX10⟩
        clear hK K
        try simp only [Act.put, List.setIfInBounds_toArray, List.set_cons_zero, List.set_cons_succ]
        refine reg_take 29 (v := ?_) (by rfl) (by kernel_rfl) (by kernel_rfl) (by kernel_rfl) (fun _ _ _ h => h) (by rfl) ?_ (by assumption) ?_
        rotate_left
        · (intro wq hSq; (try dsimp only at hSq); go_split_ands; go_simp; (try with_reducible rfl))
        try simp only [Act.put, List.setIfInBounds_toArray, List.set_cons_zero, List.set_cons_succ]
        refine reg_take 30 (v := ?_) (by rfl) (by kernel_rfl) (by kernel_rfl) (by kernel_rfl) (fun _ _ _ h => h) (by rfl) ?_ (by assumption) ?_
        rotate_left
        · (intro wq hSq; (try dsimp only at hSq); go_split_ands; go_simp; (try with_reducible rfl))
        try simp only [Act.put, List.setIfInBounds_toArray, List.set_cons_zero, List.set_cons_succ]
        refine wpAnyH_done (by kernel_rfl) (noPanic_mk ?_) _
        go_wp2_with fail
        go_meet
        rw [HPE.out]
        exact ⟨rfl, hS10, hR10, hsep10, bg10⟩
      case rest =>
        obtain ⟨rfl, hS6, hR6, hsep6, hb6⟩ := hcut
        have hP := hE.put x.e
        go_wp2_with fail
        go_roundw
        case rel => exact ⟨k + 1, _, by go_num, by omega, hS6, hR6, hsep6, hP.1, by omega, bS5.trans hb6⟩
        case measure => simp [intOf]; omega
    · obtain ⟨g0, g1, g2⟩ := kcells3 pQ
      go_wp2_with fail
      refine (sGetX_any base L E u s _ hS (by omega)).mono ?_
      rintro en w6 ⟨xa, ba, HA, rfl, hb6⟩
      have z6 := hb6.size
      have hS6 := (hS.on hb6 (Nat.le_refl _)).on (balloc (bself w6) (entObj xa)) (Nat.le_refl _)
      have hR6 := (hR.on hb6 (Nat.le_refl _)).on (balloc (bself w6) (entObj xa)) (Nat.le_refl _)
      have b7 : Below base w3 (w6.alloc (entObj xa)) := (hbr.trans (hb6.mono (by omega))).trans ((balloc (bself w6) _).mono (by omega))
      have pQ7 := (b7.block _ (by omega)).trans rB2
      have xR7 := heap_alloc_new w6 (entObj xa)
      have zz7 : (w6.alloc (entObj xa)).heap.size = w6.heap.size + 1 := by simp
      clear g0 g1 g2
      obtain ⟨g0, g1, g2⟩ := kcells3 pQ7
      go_wp2_with fail
      refine (rGet_any base R E u s _ hR6 hE (by omega)).mono ?_
      rintro en w8 ⟨xb, bb, HB, rfl, hb8⟩
      have z8 := hb8.size
      have hX : xb = xa ∧ bb = ba := by
        have := HA.out.symm.trans HB.out
        injection this with h1 h2
        exact ⟨h1.symm, h2.symm⟩
      obtain ⟨rfl, rfl⟩ := hX
      clear HA HB
      have hS8 := (hS6.on hb8 (Nat.le_refl _)).on (balloc (bself w8) (entObj xb)) (Nat.le_refl _)
      have hR8 := (hR6.on hb8 (Nat.le_refl _)).on (balloc (bself w8) (entObj xb)) (Nat.le_refl _)
      have b9 : Below base w3 (w8.alloc (entObj xb)) := (b7.trans (hb8.mono (by omega))).trans ((balloc (bself w8) _).mono (by omega))
      have pQ9 := (b9.block _ (by omega)).trans rB2
      have xR9 := heap_alloc_new w8 (entObj xb)
      have yR9 := ((Below.heap_alloc w8 (entObj xb) w6.heap.size (by omega)).trans (hb8.block _ (by omega))).trans xR7
      have zz9 : (w8.alloc (entObj xb)).heap.size = w8.heap.size + 1 := by simp
      clear g0 g1 g2
      go_upto_region 14 with fail
      obtain ⟨vr, hcr, hor, _, _⟩ := hR8.cell0
      obtain ⟨Ar, cr, hvr, _, _, _⟩ := hor.se.form
      subst hvr
      generalize hX1 : w6.heap.size = X1 at *
      generalize hX2 : w8.heap.size = X2 at *
      generalize w8.alloc (entObj xb) = W at *
      have hR8l := hR8.lt
      have hEn : E.length ≤ 1000 := by omega
      have HF : Hid (∀ w' : World, SL w' base L E → Calls Try.prog 20 #[.pointer (some ⟨L, 0, none⟩), .string u, .int .u64 (s.toNat : Int), .int .i64 n] w' fun e w'' => ∃ v, e = .returned v ∧ OE w'' w'.heap.size v ((restE E ⟨u, s, 0, ⟨#[]⟩⟩).take n.toNat) ∧ Below w'.heap.size w' w'') := Lib.hid (fun w' h => sFrom_any base L E ⟨u, s, 0, ⟨#[]⟩⟩ n w' h hEn hn1 hn2)
      have HK : Hid (∀ w' : World, Below W.heap.size W w' → w'.cell? ⟨X1, 0, none⟩ = some (.string xb.user) ∧ w'.cell? ⟨X1, 1, none⟩ = some (.int .u64 (xb.seq.toNat : Int)) ∧ w'.cell? ⟨X1, 2, none⟩ = some (.int .u8 (xb.kind.toNat : Int)) ∧ w'.cell? ⟨X1, 3, none⟩ = some (.string xb.value) ∧ w'.cell? ⟨X2, 0, none⟩ = some (.string xb.user) ∧ w'.cell? ⟨X2, 1, none⟩ = some (.int .u64 (xb.seq.toNat : Int)) ∧ w'.cell? ⟨X2, 2, none⟩ = some (.int .u8 (xb.kind.toNat : Int)) ∧ w'.cell? ⟨X2, 3, none⟩ = some (.string xb.value) ∧ w'.cell? ⟨w.heap.size, 0, none⟩ = some (.string u) ∧ w'.cell? ⟨w.heap.size, 1, none⟩ = some (.int .u64 (s.toNat : Int)) ∧ w'.cell? ⟨w.heap.size, 2, none⟩ = some (.int .i64 n) ∧ w'.cell? ⟨R, 0, none⟩ = some (.slice Ar E.length cr)) := Lib.hid (fun w' h => by
        obtain ⟨⟨j0, j1, j2, j3⟩, _, _, _, _⟩ := kcells4 yR9
        obtain ⟨⟨i0, i1, i2, i3⟩, _, _, _, _⟩ := kcells4 xR9
        obtain ⟨g0, g1, g2⟩ := kcells3 pQ9
        have q1 : X1 < W.heap.size := by omega
        have q2 : X2 < W.heap.size := by omega
        have q3 : w.heap.size < W.heap.size := by omega
        exact ⟨(h.cell q1).trans j0, (h.cell q1).trans j1, (h.cell q1).trans j2, (h.cell q1).trans j3, (h.cell q2).trans i0, (h.cell q2).trans i1, (h.cell q2).trans i2, (h.cell q2).trans i3, (h.cell q3).trans g0, (h.cell q3).trans g1, (h.cell q3).trans g2, (h.cell (p := ⟨R, 0, none⟩) hR8l).trans hcr⟩)
      have hS8d : SL W.drew base L E := hS8
      have bd : Below W.heap.size W W.drew := bdrew (bself W)
      refine wp_region_noPanic ?_
      refine wp_region_held_drew (S := fun w' => w'.cell? ⟨X1, 0, none⟩ = some (.string xb.user) ∧ w'.cell? ⟨X1, 1, none⟩ = some (.int .u64 (xb.seq.toNat : Int)) ∧ w'.cell? ⟨X1, 2, none⟩ = some (.int .u8 (xb.kind.toNat : Int)) ∧ w'.cell? ⟨X1, 3, none⟩ = some (.string xb.value) ∧ w'.cell? ⟨X2, 0, none⟩ = some (.string xb.user) ∧ w'.cell? ⟨X2, 1, none⟩ = some (.int .u64 (xb.seq.toNat : Int)) ∧ w'.cell? ⟨X2, 2, none⟩ = some (.int .u8 (xb.kind.toNat : Int)) ∧ w'.cell? ⟨X2, 3, none⟩ = some (.string xb.value) ∧ w'.cell? ⟨w.heap.size, 0, none⟩ = some (.string u) ∧ w'.cell? ⟨w.heap.size, 1, none⟩ = some (.int .u64 (s.toNat : Int)) ∧ w'.cell? ⟨w.heap.size, 2, none⟩ = some (.int .i64 n) ∧ w'.cell? ⟨R, 0, none⟩ = some (.slice Ar E.length cr)) (by kernel_rfl) (HK.out _ bd) (fun hHeld => ?_)
      refine reg_take 0 (v := ?_) (by rfl) (by kernel_rfl) (by kernel_rfl) (by kernel_rfl) (fun _ _ _ h => h) (by rfl) ?_ (by assumption) ?_
      rotate_left
      · (intro wq hSq; (try dsimp only at hSq); go_split_ands; go_simp; (try with_reducible rfl))
      try simp only [Act.put, List.setIfInBounds_toArray, List.set_cons_zero, List.set_cons_succ]
      refine reg_take 1 (v := ?_) (by rfl) (by kernel_rfl) (by kernel_rfl) (by kernel_rfl) (fun _ _ _ h => h) (by rfl) ?_ (by assumption) ?_
      rotate_left
      · (intro wq hSq; (try dsimp only at hSq); go_split_ands; go_simp; (try with_reducible rfl))
      try simp only [Act.put, List.setIfInBounds_toArray, List.set_cons_zero, List.set_cons_succ]
      refine reg_take 2 (v := ?_) (by rfl) (by kernel_rfl) (by kernel_rfl) (by kernel_rfl) (fun _ _ _ h => h) (by rfl) ?_ (by assumption) ?_
      rotate_left
      · (intro wq hSq; (try dsimp only at hSq); go_split_ands; go_simp; (try with_reducible rfl))
      try simp only [Act.put, List.setIfInBounds_toArray, List.set_cons_zero, List.set_cons_succ]
      refine reg_take 3 (v := ?_) (by rfl) (by kernel_rfl) (by kernel_rfl) (by kernel_rfl) (fun _ _ _ h => h) (by rfl) ?_ (by assumption) ?_
      rotate_left
      · (intro wq hSq; (try dsimp only at hSq); go_split_ands; go_simp; (try with_reducible rfl))
      try simp only [Act.put, List.setIfInBounds_toArray, List.set_cons_zero, List.set_cons_succ]
      refine reg_take 4 (v := ?_) (by rfl) (by kernel_rfl) (by kernel_rfl) (by kernel_rfl) (fun _ _ _ h => h) (by rfl) ?_ (by assumption) ?_
      rotate_left
      · (intro wq hSq; (try dsimp only at hSq); go_split_ands; go_simp; (try with_reducible rfl))
      try simp only [Act.put, List.setIfInBounds_toArray, List.set_cons_zero, List.set_cons_succ]
      refine reg_take 5 (v := ?_) (by rfl) (by kernel_rfl) (by kernel_rfl) (by kernel_rfl) (fun _ _ _ h => h) (by rfl) ?_ (by assumption) ?_
      rotate_left
      · (intro wq hSq; (try dsimp only at hSq); go_split_ands; go_simp; (try with_reducible rfl))
      try simp only [Act.put, List.setIfInBounds_toArray, List.set_cons_zero, List.set_cons_succ]
      refine reg_take 6 (v := ?_) (by rfl) (by kernel_rfl) (by kernel_rfl) (by kernel_rfl) (fun _ _ _ h => h) (by rfl) ?_ (by assumption) ?_
      rotate_left
      · (intro wq hSq; (try dsimp only at hSq); go_split_ands; go_simp; (try with_reducible rfl))
      try simp only [Act.put, List.setIfInBounds_toArray, List.set_cons_zero, List.set_cons_succ]
      refine reg_take 7 (v := ?_) (by rfl) (by kernel_rfl) (by kernel_rfl) (by kernel_rfl) (fun _ _ _ h => h) (by rfl) ?_ (by assumption) ?_
      rotate_left
      · (intro wq hSq; (try dsimp only at hSq); go_split_ands; go_simp; (try with_reducible rfl))
      try simp only [Act.put, List.setIfInBounds_toArray, List.set_cons_zero, List.set_cons_succ]
      refine reg_take 8 (v := ?_) (by rfl) (by kernel_rfl) (by kernel_rfl) (by kernel_rfl) (fun _ _ _ h => h) (by rfl) ?_ (by assumption) ?_
      rotate_left
      · (intro wq hSq; (try dsimp only at hSq); go_split_ands; go_simp; (try with_reducible rfl))
      try simp only [Act.put, List.setIfInBounds_toArray, List.set_cons_zero, List.set_cons_succ]
      refine reg_take 9 (v := ?_) (by rfl) (by kernel_rfl) (by kernel_rfl) (by kernel_rfl) (fun _ _ _ h => h) (by rfl) ?_ (by assumption) ?_
      rotate_left
      · (intro wq hSq; (try dsimp only at hSq); go_split_ands; go_simp; (try with_reducible rfl))
      try simp only [Act.put, List.setIfInBounds_toArray, List.set_cons_zero, List.set_cons_succ]
      refine reg_take 10 (v := ?_) (by rfl) (by kernel_rfl) (by kernel_rfl) (by kernel_rfl) (fun _ _ _ h => h) (by rfl) ?_ (by assumption) ?_
      rotate_left
      · (intro wq hSq; (try dsimp only at hSq); go_split_ands; go_simp; (try with_reducible rfl))
      try simp only [Act.put, List.setIfInBounds_toArray, List.set_cons_zero, List.set_cons_succ]
      refine reg_take 11 (v := ?_) (by rfl) (by kernel_rfl) (by kernel_rfl) (by kernel_rfl) (fun _ _ _ h => h) (by rfl) ?_ (by assumption) ?_
      rotate_left
      · (intro wq hSq; (try dsimp only at hSq); go_split_ands; go_simp; (try with_reducible rfl))
      try simp only [Act.put, List.setIfInBounds_toArray, List.set_cons_zero, List.set_cons_succ]
      refine reg_take 12 (v := ?_) (by rfl) (by kernel_rfl) (by kernel_rfl) (by kernel_rfl) (fun _ _ _ h => h) (by rfl) ?_ (by assumption) ?_
      rotate_left
      · (intro wq hSq; (try dsimp only at hSq); go_split_ands; go_simp; (try with_reducible rfl))
      try simp only [Act.put, List.setIfInBounds_toArray, List.set_cons_zero, List.set_cons_succ]
      refine reg_take 13 (v := ?_) (by rfl) (by kernel_rfl) (by kernel_rfl) (by kernel_rfl) (fun _ _ _ h => h) (by rfl) ?_ (by assumption) ?_
      rotate_left
      · (intro wq hSq; (try dsimp only at hSq); go_split_ands; go_simp; (try with_reducible rfl))
      try simp only [Act.put, List.setIfInBounds_toArray, List.set_cons_zero, List.set_cons_succ]
      refine reg_take 14 (v := ?_) (by rfl) (by kernel_rfl) (by kernel_rfl) (by kernel_rfl) (fun _ _ _ h => h) (by rfl) ?_ (by assumption) ?_
      rotate_left
      · (intro wq hSq; (try dsimp only at hSq); go_split_ands; go_simp; (try with_reducible rfl))
      try simp only [Act.put, List.setIfInBounds_toArray, List.set_cons_zero, List.set_cons_succ]
      refine reg_take 15 (v := ?_) (by rfl) (by kernel_rfl) (by kernel_rfl) (by kernel_rfl) (fun _ _ _ h => h) (by rfl) ?_ (by assumption) ?_
      rotate_left
      · (intro wq hSq; (try dsimp only at hSq); go_split_ands; go_simp; (try with_reducible rfl))
      try simp only [Act.put, List.setIfInBounds_toArray, List.set_cons_zero, List.set_cons_succ]
      refine reg_take 16 (v := ?_) (by rfl) (by kernel_rfl) (by kernel_rfl) (by kernel_rfl) (fun _ _ _ h => h) (by rfl) ?_ (by assumption) ?_
      rotate_left
      · (intro wq hSq; (try dsimp only at hSq); go_split_ands; go_simp; (try with_reducible rfl))
      try simp only [Act.put, List.setIfInBounds_toArray, List.set_cons_zero, List.set_cons_succ]
      refine reg_take 17 (v := ?_) (by rfl) (by kernel_rfl) (by kernel_rfl) (by kernel_rfl) (fun _ _ _ h => h) (by rfl) ?_ (by assumption) ?_
      rotate_left
      · (intro wq hSq; (try dsimp only at hSq); go_split_ands; go_simp; (try with_reducible rfl))
      try simp only [Act.put, List.setIfInBounds_toArray, List.set_cons_zero, List.set_cons_succ]
      refine reg_take 18 (v := ?_) (by rfl) (by kernel_rfl) (by kernel_rfl) (by kernel_rfl) (fun _ _ _ h => h) (by rfl) ?_ (by assumption) ?_
      rotate_left
      · (intro wq hSq; (try dsimp only at hSq); go_split_ands; go_simp; (try with_reducible rfl))
      try simp only [Act.put, List.setIfInBounds_toArray, List.set_cons_zero, List.set_cons_succ]
      refine reg_take 20 (v := ?_) (by rfl) (by kernel_rfl) (by kernel_rfl) (by kernel_rfl) (fun _ _ _ h => h) (by rfl) ?_ (by assumption) ?_
      rotate_left
      · (intro wq hSq; (try dsimp only at hSq); go_split_ands; go_simp; (try with_reducible rfl))
      try simp only [Act.put, List.setIfInBounds_toArray, List.set_cons_zero, List.set_cons_succ]
      refine reg_take 21 (v := ?_) (by rfl) (by kernel_rfl) (by kernel_rfl) (by kernel_rfl) (fun _ _ _ h => h) (by rfl) ?_ (by assumption) ?_
      rotate_left
      · (intro wq hSq; (try dsimp only at hSq); go_split_ands; go_simp; (try with_reducible rfl))
      try simp only [Act.put, List.setIfInBounds_toArray, List.set_cons_zero, List.set_cons_succ]
      refine reg_take 22 (v := ?_) (by rfl) (by kernel_rfl) (by kernel_rfl) (by kernel_rfl) (fun _ _ _ h => h) (by rfl) ?_ (by assumption) ?_
      rotate_left
      · (intro wq hSq; (try dsimp only at hSq); go_split_ands; go_simp; (try with_reducible rfl))
      try simp only [Act.put, List.setIfInBounds_toArray, List.set_cons_zero, List.set_cons_succ]
      refine reg_take 23 (v := ?_) (by rfl) (by kernel_rfl) (by kernel_rfl) (by kernel_rfl) (fun _ _ _ h => h) (by rfl) ?_ (by assumption) ?_
      rotate_left
      · (intro wq hSq; (try dsimp only at hSq); go_split_ands; go_simp; (try with_reducible rfl))
      try simp only [Act.put, List.setIfInBounds_toArray, List.set_cons_zero, List.set_cons_succ]
      refine reg_take 24 (v := ?_) (by rfl) (by kernel_rfl) (by kernel_rfl) (by kernel_rfl) (fun _ _ _ h => h) (by rfl) ?_ (by assumption) ?_
      rotate_left
      · (intro wq hSq; (try dsimp only at hSq); go_split_ands; go_simp; (try with_reducible rfl))
      try simp only [Act.put, List.setIfInBounds_toArray, List.set_cons_zero, List.set_cons_succ]
      refine reg_take 25 (v := ?_) (by rfl) (by kernel_rfl) (by kernel_rfl) (by kernel_rfl) (fun _ _ _ h => h) (by rfl) ?_ (by assumption) ?_
      rotate_left
      · (intro wq hSq; (try dsimp only at hSq); go_split_ands; go_simp; (try with_reducible rfl))
      try simp only [Act.put, List.setIfInBounds_toArray, List.set_cons_zero, List.set_cons_succ]
      refine reg_take 26 (v := ?_) (by rfl) (by kernel_rfl) (by kernel_rfl) (by kernel_rfl) (fun _ _ _ h => h) (by rfl) ?_ (by assumption) ?_
      rotate_left
      · (intro wq hSq; (try dsimp only at hSq); go_split_ands; go_simp; (try with_reducible rfl))
      try simp only [Act.put, List.setIfInBounds_toArray, List.set_cons_zero, List.set_cons_succ]
      refine reg_one 19 (by rfl) (by kernel_rfl) (by rfl) (fun K hK => ?_)
      (go_simp; go_at_call 20; refine (HF.out _ hS8d).mono ?_; rintro e1 u1 ⟨v1, rfl, ho1, hu1⟩; have t1 := bstep bd hu1; have hR9 := hR8.on t1 (Nat.le_refl _); have hS9 := hS8.on t1 (Nat.le_refl _); have y1 := hu1.size; go_wp2_with fail)
      refine hK.out _ _ ?_ (fun hHeld => ?_)
      · exact HK.out _ t1
      clear hK K
      try simp only [Act.put, List.setIfInBounds_toArray, List.set_cons_zero, List.set_cons_succ]
      refine reg_one 27 (by rfl) (by kernel_rfl) (by rfl) (fun K hK => ?_)
      (go_simp; go_at_call 21; refine (rFrom_any base R E u s n _ hR9 hE hEn hn1 hn2).mono ?_; rintro e2 u2 ⟨v2, rfl, ho2, hu2⟩; have t2 := bstep t1 hu2; have ho1' := ho1.below hu2 (Nat.le_refl _); have hR10 := hR9.on hu2 (Nat.le_refl _); have hS10 := hS9.on hu2 (Nat.le_refl _); go_wp2_with fail)
      refine hK.out _ _ ?_ (fun hHeld => ?_)
      · exact HK.out _ t2
      clear hK K
      try simp only [Act.put, List.setIfInBounds_toArray, List.set_cons_zero, List.set_cons_succ]
      refine reg_one 28 (by rfl) (by kernel_rfl) (by rfl) (fun K hK => ?_)
      (go_simp; go_at_call 19; refine (rSame_true _ _ _ _ ho1'.se ho2.se).mono ?_; rintro e3 u3 ⟨rfl, hu3⟩; have t3 := bstep t2 hu3; have hR11 := hR10.on hu3 (Nat.le_refl _); have hS11 := hS10.on hu3 (Nat.le_refl _); go_wp2_with fail)
      refine hK.out _ _ ?_ (fun hHeld => ?_)
      · exact HK.out _ t3
      clear hK K
      try simp only [Act.put, List.setIfInBounds_toArray, List.set_cons_zero, List.set_cons_succ]
      refine reg_take 29 (v := ?_) (by rfl) (by kernel_rfl) (by kernel_rfl) (by kernel_rfl) (fun _ _ _ h => h) (by rfl) ?_ (by assumption) ?_
      rotate_left
      · (intro wq hSq; (try dsimp only at hSq); go_split_ands; go_simp; (try with_reducible rfl))
      try simp only [Act.put, List.setIfInBounds_toArray, List.set_cons_zero, List.set_cons_succ]
      refine reg_take 30 (v := ?_) (by rfl) (by kernel_rfl) (by kernel_rfl) (by kernel_rfl) (fun _ _ _ h => h) (by rfl) ?_ (by assumption) ?_
      rotate_left
      · (intro wq hSq; (try dsimp only at hSq); go_split_ands; go_simp; (try with_reducible rfl))
      try simp only [Act.put, List.setIfInBounds_toArray, List.set_cons_zero, List.set_cons_succ]
      refine reg_take 31 (v := ?_) (by rfl) (by kernel_rfl) (by kernel_rfl) (by kernel_rfl) (fun _ _ _ h => h) (by rfl) ?_ (by assumption) ?_
      rotate_left
      · (intro wq hSq; (try dsimp only at hSq); go_split_ands; go_simp; (try with_reducible rfl))
      try simp only [Act.put, List.setIfInBounds_toArray, List.set_cons_zero, List.set_cons_succ]
      refine reg_take 33 (v := ?_) (by rfl) (by kernel_rfl) (by kernel_rfl) (by kernel_rfl) (fun _ _ _ h => h) (by rfl) ?_ (by assumption) ?_
      rotate_left
      · (intro wq hSq; (try dsimp only at hSq); go_split_ands; go_simp; (try with_reducible rfl))
      try simp only [Act.put, List.setIfInBounds_toArray, List.set_cons_zero, List.set_cons_succ]
      refine reg_take 34 (v := ?_) (by rfl) (by kernel_rfl) (by kernel_rfl) (by kernel_rfl) (fun _ _ _ h => h) (by rfl) ?_ (by assumption) ?_
      rotate_left
      · (intro wq hSq; (try dsimp only at hSq); go_split_ands; go_simp; (try with_reducible rfl))
      try simp only [Act.put, List.setIfInBounds_toArray, List.set_cons_zero, List.set_cons_succ]
      refine reg_take 35 (v := ?_) (by rfl) (by kernel_rfl) (by kernel_rfl) (by kernel_rfl) (fun _ _ _ h => h) (by rfl) ?_ (by assumption) ?_
      rotate_left
      · (intro wq hSq; (try dsimp only at hSq); go_split_ands; go_simp; (try with_reducible rfl))
      try simp only [Act.put, List.setIfInBounds_toArray, List.set_cons_zero, List.set_cons_succ]
      refine reg_take 36 (v := ?_) (by rfl) (by kernel_rfl) (by kernel_rfl) (by kernel_rfl) (fun _ _ _ h => h) (by rfl) ?_ (by assumption) ?_
      rotate_left
      · (intro wq hSq; (try dsimp only at hSq); go_split_ands; go_simp; (try with_reducible rfl))
      try simp only [Act.put, List.setIfInBounds_toArray, List.set_cons_zero, List.set_cons_succ]
      refine reg_one 32 (by rfl) (by kernel_rfl) (by rfl) (fun K hK => ?_)
      (go_simp; go_at_call 22; refine (sAll_any base L E _ hS11 hEn).mono ?_; rintro e4 u4 ⟨v4, rfl, ho4, hu4⟩; have t4 := bstep t3 hu4; go_wp2_with fail)
      refine hK.out _ _ ?_ (fun hHeld => ?_)
      · exact HK.out _ t4
      clear hK K
      try simp only [Act.put, List.setIfInBounds_toArray, List.set_cons_zero, List.set_cons_succ]
      have hor4 := hor.below t4 (Nat.le_refl _)
      refine reg_one 37 (by rfl) (by kernel_rfl) (by rfl) (fun K hK => ?_)
      (go_simp; go_at_call 19; refine (rSame_true _ _ _ _ ho4.se hor4.se).mono ?_; rintro e5 u5 ⟨rfl, hu5⟩; have t5 := bstep t4 hu5; go_wp2_with fail)
      refine hK.out _ _ ?_ (fun hHeld => ?_)
      · exact HK.out _ t5
      clear hK K
      try simp only [Act.put, List.setIfInBounds_toArray, List.set_cons_zero, List.set_cons_succ]
      refine reg_take 38 (v := ?_) (by rfl) (by kernel_rfl) (by kernel_rfl) (by kernel_rfl) (fun _ _ _ h => h) (by rfl) ?_ (by assumption) ?_
      rotate_left
      · (intro wq hSq; (try dsimp only at hSq); go_split_ands; go_simp; (try with_reducible rfl))
      try simp only [Act.put, List.setIfInBounds_toArray, List.set_cons_zero, List.set_cons_succ]
      refine reg_take 39 (v := ?_) (by rfl) (by kernel_rfl) (by kernel_rfl) (by kernel_rfl) (fun _ _ _ h => h) (by rfl) ?_ (by assumption) ?_
      rotate_left
      · (intro wq hSq; (try dsimp only at hSq); go_split_ands; go_simp; (try with_reducible rfl))
      try simp only [Act.put, List.setIfInBounds_toArray, List.set_cons_zero, List.set_cons_succ]
      refine wpAnyH_done (by kernel_rfl) (noPanic_mk ?_) _
      go_wp2_with fail
      go_ret
      exact ⟨rfl, b3.trans ((b9.mono (by omega)).trans (t5.mono (by omega)))⟩
end Go.Proofs.Ytlphbkhcdnbbnaa
