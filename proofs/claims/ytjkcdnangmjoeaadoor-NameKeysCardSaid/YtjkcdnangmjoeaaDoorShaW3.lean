/-
  What is proved here: what State.put of package sha comes to, at this seat's numbers. Conditions: the bytes' length.
-/
import Derived.Test.YtjkcdnangmjoeaaDoorShaW2
namespace Go.Proofs.YtjkcdnangmjoeaaDoor
open Go.RowKit

/-- the block in which a state's part lies -/
def rowP (w : World) (P : Nat) : Option Nat := (w.cell? ⟨P, 8, none⟩).bind Value.ownBlock
/-- nothing has turned but the state's two blocks -/
def Off (w w' : World) (P : Nat) : Prop := ∀ k, k < w.heap.size → k ≠ P → rowP w P ≠ some k → w'.heap[k]? = w.heap[k]?
/-- block P is the state of the bytes bs -/
def StAt (w : World) (base P : Nat) (bs : List UInt8) : Prop := ∃ pv, w.heap[P]? = some (stObj (wordsOf bs) pv (bs.length : Int)) ∧ OB w base pv (partOf bs) ∧ pv.ownBlock ≠ some P ∧ base ≤ P
/-- the value v reads as x, whatever is done to the state -/
def VS (w : World) (P : Nat) (v : Value) (x : List UInt8) : Prop := ∀ w', Off w w' P → SB w' w.heap.size v x
theorem Off.refl (w : World) (P : Nat) : Off w w P := fun _ _ _ _ => rfl
theorem Off.below {w w' w'' : World} {P : Nat} (h : Off w w' P) (hs : w.heap.size ≤ w'.heap.size) (hb : Below w'.heap.size w' w'') : Off w w'' P := fun k hk h1 h2 => (hb.block k (by omega)).trans (h k hk h1 h2)
theorem Off.set {w w' : World} {P : Nat} (h : Off w w' P) {p : Addr} (hp : p.block = P) (u : Value) : Off w (w'.setCell p u) P := fun k hk h1 h2 => (Below.heap_setCell _ _ _ _ (by rw [hp]; exact h1)).trans (h k hk h1 h2)
theorem Off.grown {w w' w'' : World} {P : Nat} (h : Off w w' P) (hs : w.heap.size ≤ w'.heap.size) {row : Option Nat} (hg : w'.grownBy w'' row) (hr : ∀ k, row = some k → k < w.heap.size → k = P ∨ rowP w P = some k) : Off w w'' P := fun k hk h1 h2 => (hg.block k (by omega) (fun e => by rcases hr k e.symm hk with h3 | h3; exact h1 h3; exact h2 h3)).trans (h k hk h1 h2)
theorem VS.cut {w : World} {P : Nat} {A : Option Addr} {n c : Nat} {x : List UInt8} (h : VS w P (.slice A n c) x) (hn : n = x.length) {k : Nat} (hk : k ≤ x.length) : VS w P (.slice (if c = k then A else A.map (·.add k)) (x.length - k) (c - k)) (x.drop k) := by
  subst hn
  intro w' hw
  have h1 := Sl.cut (h w' hw) hk rfl
  rw [Nat.mul_one] at h1
  unfold SB
  rw [List.length_drop]
  have h2 : bv (x.drop k) = (bv x).drop k := by unfold bv; rw [List.map_drop]
  rw [h2]
  exact h1
theorem VS.take {w : World} {P : Nat} {A : Option Addr} {n c : Nat} {x : List UInt8} (h : VS w P (.slice A n c) x) (hn : n = x.length) {k : Nat} (hk : k ≤ x.length) : VS w P (.slice A k c) (x.take k) := by
  subst hn
  intro w' hw
  have h1 := Sl.take (h w' hw) hk rfl
  rw [Nat.mul_one] at h1
  unfold SB
  rw [List.length_take, Nat.min_eq_left hk]
  have h2 : bv (x.take k) = (bv x).take k := by unfold bv; rw [List.map_take]
  rw [h2]
  exact h1
theorem rowP_of {w : World} {P : Nat} {S : St} {pv : Value} {n : Int} (h : w.heap[P]? = some (stObj S pv n)) : rowP w P = pv.ownBlock := by
  unfold rowP
  rw [(stCells h).2.2.2.2.2.2.2.2.1]
  rfl
theorem st_set9 {w : World} {P : Nat} {S : St} {pv : Value} {n m : Int} (h : w.heap[P]? = some (stObj S pv n)) : (w.setCell ⟨P, 9, none⟩ (.int .i64 m)).heap[P]? = some (stObj S pv m) := by
  simp [World.setCell, Array.getElem?_modify, h]
theorem st_set8 {w : World} {P : Nat} {S : St} {pv u : Value} {n : Int} (h : w.heap[P]? = some (stObj S pv n)) : (w.setCell ⟨P, 8, none⟩ u).heap[P]? = some (stObj S u n) := by
  simp [World.setCell, Array.getElem?_modify, h]
/-- a state on the way: its words, what its part owns -/
def MidAt (w wr : World) (base P : Nat) (S : St) (L : List UInt8) (pv : Value) (N : Int) : Prop :=
  wr.heap[P]? = some (stObj S pv N) ∧ OB wr base pv L ∧ pv.ownBlock ≠ some P ∧ Off w wr P ∧ (pv.ownBlock = rowP w P ∨ ∀ g, pv.ownBlock = some g → w.heap.size ≤ g) ∧ Below base w wr
theorem MidAt.below {w wr w' : World} {base P : Nat} {S : St} {L : List UInt8} {pv : Value} {N : Int} (h : MidAt w wr base P S L pv N) (hb : Below wr.heap.size wr w') (hbase : base ≤ w.heap.size) : MidAt w w' base P S L pv N := by
  obtain ⟨h1, h2, h3, h4, h5, h6⟩ := h
  have hz := h6.size
  exact ⟨(hb.block P (Array.getElem?_eq_some_iff.1 h1).1).trans h1, h2.below hb (Nat.le_refl _), h3, h4.below hz hb, h5, h6.trans (hb.mono (by omega))⟩
/-- the part grows -/
theorem MidAt.app {w wr w' : World} {base P : Nat} {S : St} {L L2 : List UInt8} {pv v2 : Value} {N : Int} (h : MidAt w wr base P S L pv N) (hPl : P < w.heap.size) (_hbase : base ≤ w.heap.size) (hbP : base ≤ P) (ho : OB w' base v2 L2) (hg : wr.grownBy w' pv.ownBlock) (hv : v2.ownBlock = pv.ownBlock ∨ v2.ownBlock = some wr.heap.size) (hb : Below base wr w') :
    (∃ A c, v2 = .slice A L2.length c) ∧ w'.cell? ⟨P, 8, none⟩ = some pv ∧ w'.frozen? ⟨P, 8, none⟩ = false ∧ MidAt w (w'.setCell ⟨P, 8, none⟩ v2) base P S L2 v2 N := by
  obtain ⟨h1, h2, h3, h4, h5, h6⟩ := h
  have hz := h6.size
  have h7 := (hg.block P (by omega) (fun e => h3 e.symm)).trans h1
  obtain ⟨A, c, hf, _, _, _⟩ := ho.sb
  refine ⟨⟨A, c, hf⟩, (stCells h7).2.2.2.2.2.2.2.2.1, by simp [World.frozen?, h7], st_set8 h7, ?_, ?_, ?_, ?_, (h6.trans hb).setCell hbP _⟩
  · refine ho.setCell ?_ _
    rcases hv with h | h
    · rw [h]; exact h3
    · rw [h]; intro e; injection e with e; have e' : wr.heap.size = P := e; omega
  · rcases hv with h | h
    · rw [h]; exact h3
    · rw [h]; intro e; injection e with e; omega
  · refine (h4.grown hz hg (fun k hk hkl => ?_)).set rfl _
    rcases h5 with h | h
    · exact .inr (by rw [← h]; exact hk)
    · have := h k hk; omega
  · rcases hv with h | h
    · rw [h]; exact h5
    · right; intro g hg2; rw [h] at hg2; injection hg2 with hg2; omega
theorem MidAt.fin {w wr : World} {base P : Nat} {S : St} {L cur : List UInt8} {pv : Value} {N : Int} (h : MidAt w wr base P S L pv N) (hS : S = wordsOf cur) (hL : L = partOf cur) (hN : N = (cur.length : Int)) (hbP : base ≤ P) :
    StAt wr base P cur ∧ Off w wr P ∧ (rowP wr P = rowP w P ∨ ∀ g, rowP wr P = some g → w.heap.size ≤ g) ∧ Below base w wr := by
  subst hS; subst hL; subst hN
  obtain ⟨h1, h2, h3, h4, h5, h6⟩ := h
  exact ⟨⟨pv, h1, h2, h3, hbP⟩, h4, by rw [rowP_of h1]; exact h5, h6⟩
theorem MidAt.block {w wr w' : World} {base P : Nat} {S S' : St} {L : List UInt8} {pv : Value} {N : Int} (h : MidAt w wr base P S L pv N) (hPl : P < w.heap.size) (_hbase : base ≤ w.heap.size) (hbP : base ≤ P) (hP : w'.heap[P]? = some (stObj S' pv N)) (hg : wr.grownBy w' (some P)) : MidAt w w' base P S' L pv N := by
  obtain ⟨h1, h2, h3, h4, h5, h6⟩ := h
  have hz := h6.size
  exact ⟨hP, h2.grown hg (.inr h3), h3, h4.grown hz hg (fun k hk _ => .inl (by injection hk with hk; exact hk.symm)), h5, h6.grown hg (by omega) (fun k hk => by injection hk with hk; omega)⟩
theorem MidAt.nil {w wr : World} {base P : Nat} {S : St} {L : List UInt8} {pv : Value} {N : Int} (h : MidAt w wr base P S L pv N) (hbP : base ≤ P) : MidAt w (wr.setCell ⟨P, 8, none⟩ (.slice none 0 0)) base P S [] (.slice none 0 0) N := by
  obtain ⟨h1, h2, h3, h4, h5, h6⟩ := h
  exact ⟨st_set8 h1, OB.nil_ _ _, by simp [Value.ownBlock], h4.set rfl _, .inr (fun g hg => by simp [Value.ownBlock] at hg), h6.setCell hbP _⟩
theorem KTab.on {w w' : World} {base : Nat} (h : KTab w 1) (hb : Below base w w') (h1 : 1 < base) : KTab w' 1 := fun i hi => (hb.cell (p := ⟨1, i, none⟩) (show 1 < base by omega)).trans (h i hi)
theorem put_fill2 (bs x : List UInt8) (K : Nat) (hK : bs.length % 64 + K = 64) (hx : K ≤ x.length) (_h0 : 0 < K) : wordsOf (bs ++ x.take K) = blockS (wordsOf bs) ((partOf bs ++ x.take K).take 64) ∧ (bs ++ x.take K).length % 64 = 0 := by
  have hl : (x.take K).length = K := by rw [List.length_take]; omega
  have h1 := (put_fill bs (x.take K) (by omega) (by omega)).1
  refine ⟨?_, by rw [List.length_append, hl]; omega⟩
  have e : (partOf bs ++ x.take K).take 64 = partOf bs ++ x.take K := List.take_of_length_le (by rw [List.length_append, partOf_length, hl]; omega)
  rw [h1, e]
theorem MidAt.fresh {w wr w' : World} {base P : Nat} {S : St} {L L2 : List UInt8} {pv v2 : Value} {N : Int} (h : MidAt w wr base P S L pv N) (hPl : P < w.heap.size) (hbase : base ≤ w.heap.size) (hbP : base ≤ P) (ho : OB w' base v2 L2) (hv : ∀ g, v2.ownBlock = some g → wr.heap.size ≤ g) (hb : Below wr.heap.size wr w') :
    w'.cell? ⟨P, 8, none⟩ = some pv ∧ w'.frozen? ⟨P, 8, none⟩ = false ∧ MidAt w (w'.setCell ⟨P, 8, none⟩ v2) base P S L2 v2 N := by
  have hb' := h.below hb hbase
  obtain ⟨h1, h2, h3, h4, h5, h6⟩ := h
  have hz := h6.size
  obtain ⟨k1, k2, k3, k4, k5, k6⟩ := hb'
  have hne : v2.ownBlock ≠ some P := fun e => by have := hv P e; omega
  exact ⟨(stCells k1).2.2.2.2.2.2.2.2.1, by simp [World.frozen?, k1], st_set8 k1, ho.setCell hne _, hne, k4.set rfl _, .inr (fun g hg => by have := hv g hg; omega), k6.setCell hbP _⟩
def sliceLen : Value → Nat
  | .slice _ n _ => n
  | _ => 0
theorem put_last (cur rest : List UInt8) (h : cur.length % 64 = 0) (hr : rest.length < 64) : wordsOf (cur ++ rest) = wordsOf cur ∧ partOf (cur ++ rest) = rest := by
  have h1 := put_few cur rest (by omega)
  have h2 : partOf cur = [] := List.eq_nil_of_length_eq_zero (by rw [partOf_length]; exact h)
  refine ⟨h1.1, by rw [h1.2, h2]; rfl⟩
def nilV : Value := .slice none 0 0
set_option maxRecDepth 100000 in
set_option maxHeartbeats 4000000 in
theorem kPut_any (base P : Nat) (bs x : List UInt8) (v : Value) (w : World) (h : StAt w base P bs) (hv : VS w P v x) (hl : bs.length + x.length ≤ 1152921504606846976) (hk : KTab w 1) (hb1 : 1 < base) (hbase : base ≤ w.heap.size) :
    Calls Tryd.prog 44 #[.pointer (some ⟨P, 0, none⟩), v] w fun e w' => e = .returned (.tuple #[]) ∧ StAt w' base P (bs ++ x) ∧ Off w w' P ∧ (rowP w' P = rowP w P ∨ ∀ g, rowP w' P = some g → w.heap.size ≤ g) ∧ Below base w w' := by
  obtain ⟨pv, hP, hown, hne, hbP⟩ := h
  have hPl : P < w.heap.size := (Array.getElem?_eq_some_iff.1 hP).1
  obtain ⟨Av, cv, rfl, hlv, hcv, hrv⟩ := hv w (Off.refl w P)
  have hcv2 : cv ≤ 9223372036854775807 := by unfold maxLen at hcv; omega
  obtain ⟨Ap, cp, hpv, hlp, hcp, hrp⟩ := hown.sb
  have hcp2 : cp ≤ 9223372036854775807 := by unfold maxLen at hcp; omega
  have hpl : (partOf bs).length = bs.length % 64 := partOf_length bs
  obtain ⟨_, _, _, _, _, _, _, _, p8, p9⟩ := stCells hP
  have f9 : w.frozen? ⟨P, 9, none⟩ = false := by simp [World.frozen?, hP]
  go_enter Tryd.func44, Tryd.ntmps44
  go_upto_region 1 with fail
  have HM : Hid (MidAt w (w.setCell ⟨P, 9, none⟩ (.int .i64 ((bs.length : Int) + (x.length : Int)))) base P (wordsOf bs) (partOf bs) pv ((bs.length : Int) + (x.length : Int))) := Lib.hid
    ⟨st_set9 hP, hown.setCell hne _, hne, (Off.refl w P).set rfl _, .inl (rowP_of hP).symm, (Below.refl base w).setCell hbP _⟩
  obtain ⟨N, hN⟩ : ∃ N : Int, N = (bs.length : Int) + (x.length : Int) := ⟨_, rfl⟩
  rw [← hN] at HM ⊢
  have HN := Lib.hid hN
  clear hN
  generalize w.setCell ⟨P, 9, none⟩ (.int .i64 N) = W1 at HM ⊢
  clear p8 p9 f9 hown hne
  by_cases hr0 : 0 < bs.length % 64
  · obtain ⟨m1, m2, m3, m4, m5, m6⟩ := HM.out
    obtain ⟨_, _, _, _, _, _, _, _, p8, p9⟩ := stCells m1
    have f8 : W1.frozen? ⟨P, 8, none⟩ = false := by simp [World.frozen?, m1]
    obtain ⟨r, hr⟩ : ∃ r, r = bs.length % 64 := ⟨_, rfl⟩
    have HPL : Hid ((partOf bs).length = r) := Lib.hid (by rw [hpl, hr])
    rw [HPL.out] at hpv hlp
    rw [← hr] at hr0
    have hr64 : r < 64 := by omega
    clear hpl
    subst hpv
    by_cases hfew : r + x.length < 64
    · have HR := Lib.hid hr
      clear hr
      obtain ⟨L2, hL2⟩ : ∃ L2, L2 = partOf bs ++ x := ⟨_, rfl⟩
      have hL2n : L2.length < 64 := by rw [hL2, List.length_append, HPL.out]; omega
      have HL2 := Lib.hid hL2
      have m2d : OB W1.drew base (.slice Ap r cp) (partOf bs) := m2
      have hsrc : SB W1.drew w.heap.size (.slice Av x.length cv) x := hv W1.drew m4
      have hz1 := m6.size
      have HMd : MidAt w W1.drew base P (wordsOf bs) (partOf bs) (.slice Ap r cp) N := ⟨m1, m2, m3, m4, m5, m6.drew⟩
      have HA : Hid (∀ v2 w4, OB w4 base v2 (partOf bs ++ x) → W1.drew.grownBy w4 (Value.slice Ap r cp).ownBlock → (v2.ownBlock = (Value.slice Ap r cp).ownBlock ∨ v2.ownBlock = some W1.drew.heap.size) → Below base W1.drew w4 → (∃ A c, v2 = .slice A L2.length c) ∧ w4.cell? ⟨P, 8, none⟩ = some (.slice Ap r cp) ∧ w4.frozen? ⟨P, 8, none⟩ = false ∧ MidAt w (w4.setCell ⟨P, 8, none⟩ v2) base P (wordsOf bs) L2 v2 N) := Lib.hid (fun v2 w4 h1 h2 h3 h4 => MidAt.app HMd hPl hbase hbP (by rw [HL2.out]; exact h1) h2 h3 h4)
      clear hL2
      have hpn : (partOf bs).length + x.length ≤ 140737488355328 := by rw [HPL.out]; omega
      have hbz : base ≤ W1.drew.heap.size := Nat.le_trans hbase hz1
      go_upto_region 3 with fail
      go_region_law (first | (go_loud (refine st_appB rfl (.tmp 33) (.tmp 36) rfl base _ (partOf bs) rfl m2d w.heap.size _ x rfl hsrc hpn hbz ?_); intro v2 w4 hown4 hg4 ho4 hb4; obtain ⟨⟨A2, c2, hv2⟩, k8, kf8, hmid⟩ := HA.out v2 w4 hown4 hg4 ho4 hb4; subst hv2))
      all_goals
        have hfin := MidAt.fin (cur := bs ++ x) hmid (put_few bs x (by rw [← HR.out]; exact hfew)).1.symm (by rw [HL2.out, (put_few bs x (by rw [← HR.out]; exact hfew)).2]) (by rw [HN.out, List.length_append]; omega) hbP
        have HFIN := Lib.hid hfin
        obtain ⟨k1, _, _, _, _, _⟩ := hmid
        clear hfin k8 kf8 p8 p9 f8
        generalize w4.setCell _ _ = W4 at k1 HFIN ⊢
        obtain ⟨_, _, _, _, _, _, _, _, p8, p9⟩ := stCells k1
        go_wp2_with fail
        all_goals exact bodyPost_ret (v := .tuple #[]) (by simp [results, Tryd.results44, go_sem]) rfl ⟨rfl, HFIN.out⟩
    · have HR := Lib.hid hr
      clear hr
      obtain ⟨K, hK⟩ : ∃ K : Nat, K = 64 - r := ⟨_, rfl⟩
      have hKi : (64 : Int) - (r : Int) = (K : Int) := by omega
      have hKx : K ≤ x.length := by omega
      have hK0 : 0 < K := by omega
      have hK1 : K ≤ 64 := by omega
      have hKc : K ≤ cv := by omega
      have hKc2 : (K : Int) ≤ (cv : Int) := by omega
      have HPF := Lib.hid (put_fill2 bs x K (by rw [← HR.out]; omega) hKx hK0)
      obtain ⟨L2, hL2⟩ : ∃ L2, L2 = partOf bs ++ x.take K := ⟨_, rfl⟩
      have hxt : (x.take K).length = K := by rw [List.length_take]; omega
      have hL2n : L2.length = 64 := by rw [hL2, List.length_append, HPL.out, hxt]; omega
      have HL2 := Lib.hid (And.intro hL2 hL2n)
      have hz1 := m6.size
      have m2d : OB W1.drew base (.slice Ap r cp) (partOf bs) := m2
      have hsrc : SB W1.drew w.heap.size (.slice Av K cv) (x.take K) := VS.take hv rfl hKx W1.drew m4
      have HMd : MidAt w W1.drew base P (wordsOf bs) (partOf bs) (.slice Ap r cp) N := ⟨m1, m2, m3, m4, m5, m6.drew⟩
      have HA : Hid (∀ v2 w4, OB w4 base v2 (partOf bs ++ x.take K) → W1.drew.grownBy w4 (Value.slice Ap r cp).ownBlock → (v2.ownBlock = (Value.slice Ap r cp).ownBlock ∨ v2.ownBlock = some W1.drew.heap.size) → Below base W1.drew w4 → (∃ A c, v2 = .slice A 64 c) ∧ w4.cell? ⟨P, 8, none⟩ = some (.slice Ap r cp) ∧ w4.frozen? ⟨P, 8, none⟩ = false ∧ MidAt w (w4.setCell ⟨P, 8, none⟩ v2) base P (wordsOf bs) L2 v2 N) := Lib.hid (fun v2 w4 h1 h2 h3 h4 => by
        have := MidAt.app (L2 := L2) HMd hPl hbase hbP (by rw [HL2.out.1]; exact h1) h2 h3 h4
        rw [HL2.out.2] at this
        exact this)
      have HVC := Lib.hid (VS.cut hv rfl hKx)
      have hpn : (partOf bs).length + (x.take K).length ≤ 140737488355328 := by rw [HPL.out, hxt]; omega
      have hbz : base ≤ W1.drew.heap.size := Nat.le_trans hbase hz1
      clear hL2 hL2n hxt hK
      go_upto_region 3 with fail
      go_region_law (first | (go_loud (refine st_appB rfl (.tmp 33) (.tmp 36) rfl base _ (partOf bs) rfl m2d w.heap.size _ (x.take K) rfl hsrc hpn hbz ?_); intro v2 w4 hown4 hg4 ho4 hb4; obtain ⟨⟨A2, c2, hv2⟩, k8, kf8, hmid⟩ := HA.out v2 w4 hown4 hg4 ho4 hb4; subst hv2))
      all_goals
        clear k8 kf8 p8 p9 f8
        have HMID := Lib.hid hmid
        obtain ⟨k1, k2, _, _, _, k6⟩ := hmid
        generalize w4.setCell _ _ = W4 at k1 k2 k6 HMID ⊢
        obtain ⟨_, _, _, _, _, _, _, _, p8, p9⟩ := stCells k1
        have hL2s : SB W4 W4.heap.size (.slice A2 64 c2) L2 := k2.sb
        have hk4 := hk.on k6 hb1
        have hz4 := k6.size
        have hP1 : P ≠ 1 := by omega
        have h1W : 1 < W4.heap.size := by omega
        have hL64 : 64 ≤ L2.length := by rw [HL2.out.2]; exact Nat.le_refl _
        have hL63 : L2.length ≤ 9223372036854775807 := by rw [HL2.out.2]; decide
        have HBLK := Lib.hid (kBlock_any P (wordsOf bs) (.slice A2 64 c2) N _ L2 W4 k1 hL2s hL64 hL63 hk4 hP1 h1W)
        have HNEW : Hid (∀ w5, w5.heap[P]? = some (stObj (blockS (wordsOf bs) (L2.take 64)) (.slice A2 64 c2) N) → W4.grownBy w5 (some P) → w5.cell? ⟨P, 8, none⟩ = some (.slice A2 64 c2) ∧ w5.frozen? ⟨P, 8, none⟩ = false ∧ MidAt w (w5.setCell ⟨P, 8, none⟩ (.slice none 0 0)) base P (wordsOf (bs ++ x.take K)) [] (.slice none 0 0) N) := Lib.hid (fun w5 hP5 hg5 => by
          have h5 := (HMID.out.block hPl hbase hbP hP5 hg5).nil hbP
          rw [HPF.out.1, ← HL2.out.1]
          exact ⟨(stCells hP5).2.2.2.2.2.2.2.2.1, by simp [World.frozen?, hP5], h5⟩)
        clear hL64 hL63 hL2s
        by_cases hcK : cv = K
        · have hVS := HVC.out
          rw [if_pos hcK, hcK, Nat.sub_self] at hVS
          go_wp2_with fail
          refine HBLK.out.mono ?_
          rintro en w5 ⟨rfl, hP5, hg5⟩
          obtain ⟨q8, qf8, hm7⟩ := HNEW.out w5 hP5 hg5
          go_wp2_with fail
          clear q8 qf8 p8 p9 k1 k2 hP5 hg5
          go_loopw [1] (fun bv wy => ∃ (cur rest : List UInt8) (pz : Value) (A : Option Addr) (n c : Nat), bv = .slice A n c ∧ Hid (cur ++ rest = bs ++ x ∧ cur.length % 64 = 0 ∧ n = rest.length) ∧ VS w P (.slice A n c) rest ∧ MidAt w wy base P (wordsOf cur) [] pz N) (fun bv _ => sliceLen bv)
          case atStart => exact ⟨bs ++ x.take K, x.drop K, _, _, _, _, rfl, Lib.hid ⟨by rw [List.append_assoc, List.take_append_drop], HPF.out.2, by rw [List.length_drop]⟩, hVS, hm7⟩
          case round =>
            obtain ⟨cur, rest, pz, A, n, c, rfl, HC, hvs, hm⟩ := hrel
            clear hm7 hVS
            have HMM := Lib.hid hm
            obtain ⟨k1, k2, k3, k4, k5, k6⟩ := hm
            have hzr := k6.size
            have hsb : SB wr w.heap.size (.slice A n c) rest := hvs wr k4
            obtain ⟨A1, c1, he, hl1, hm1, hr1⟩ := id hsb
            injection he with he1 he2 he3
            subst he1; subst he3
            have hm2 : c ≤ 9223372036854775807 := by unfold maxLen at hm1; omega
            have hnc : n ≤ c := by omega
            clear hm1 hl1 he2
            have HVS := Lib.hid hvs
            by_cases h64 : 64 ≤ n
            · have hP1 : P ≠ 1 := by omega
              have h1r : 1 < wr.heap.size := by omega
              have HBLK := Lib.hid (kBlock_any P (wordsOf cur) pz N _ rest wr k1 (SB.more hsb hzr) (by have := HC.out.2.2; omega) (by have := HC.out.2.2; omega) (hk.on k6 hb1) hP1 h1r)
              have hcut := VS.cut hvs HC.out.2.2 (k := 64) (by have := HC.out.2.2; omega)
              have HNEXT : Hid ((cur ++ rest.take 64) ++ rest.drop 64 = bs ++ x ∧ (cur ++ rest.take 64).length % 64 = 0 ∧ n - 64 = (rest.drop 64).length) := Lib.hid (by
                have h1 := HC.out
                refine ⟨by rw [List.append_assoc, List.take_append_drop]; exact h1.1, by rw [List.length_append, List.length_take]; omega, by rw [List.length_drop]; omega⟩)
              have HW : Hid (blockS (wordsOf cur) (rest.take 64) = wordsOf (cur ++ rest.take 64)) := Lib.hid (by
                have h1 := HC.out
                rw [put_block cur (rest.take 64) h1.2.1 (by rw [List.length_take]; omega)])
              rw [← HC.out.2.2] at hcut
              clear hsb hvs hr1
              by_cases hc64 : c = 64
              · subst hc64
                rw [if_pos rfl, show 64 - 64 = 0 from rfl, show n - 64 = 0 from by omega] at hcut
                rw [show n - 64 = 0 from by omega] at HNEXT
                go_wp2_with fail
                refine HBLK.out.mono ?_
                rintro en w5 ⟨rfl, hP5, hg5⟩
                have hm5 := HMM.out.block hPl hbase hbP hP5 hg5
                rw [HW.out] at hm5
                go_wp2_with fail
                go_roundw
                case rel => exact ⟨cur ++ rest.take 64, rest.drop 64, pz, _, _, _, rfl, HNEXT, hcut, hm5⟩
                case measure => simp only [sliceLen]; omega
              · rw [if_neg hc64] at hcut
                go_wp2_with fail
                refine HBLK.out.mono ?_
                rintro en w5 ⟨rfl, hP5, hg5⟩
                have hm5 := HMM.out.block hPl hbase hbP hP5 hg5
                rw [HW.out] at hm5
                go_wp2_with fail
                go_roundw
                case rel => exact ⟨cur ++ rest.take 64, rest.drop 64, pz, _, _, _, rfl, HNEXT, hcut, hm5⟩
                case measure => simp only [sliceLen]; omega
            · have hrl : rest.length < 64 := by have := HC.out.2.2; omega
              have own0 : OB (wr.alloc (.cells #[] 5)) base (.slice (some ⟨wr.heap.size, 0, none⟩) 0 0) [] := OB.lit0 wr (by omega)
              have hsrc : SB (wr.alloc (.cells #[] 5)) w.heap.size (.slice A n c) rest := SB.alloc hsb hzr _
              have HA : Hid (∀ v2 w4, OB w4 base v2 ([] ++ rest) → (wr.alloc (.cells #[] 5)).grownBy w4 (Value.slice (some ⟨wr.heap.size, 0, none⟩) 0 0).ownBlock → (v2.ownBlock = (Value.slice (some ⟨wr.heap.size, 0, none⟩) 0 0).ownBlock ∨ v2.ownBlock = some (wr.alloc (.cells #[] 5)).heap.size) → (∃ A c m, v2 = .slice A m c) ∧ w4.cell? ⟨P, 8, none⟩ = some pz ∧ w4.frozen? ⟨P, 8, none⟩ = false ∧ StAt (w4.setCell ⟨P, 8, none⟩ v2) base P (bs ++ x) ∧ Off w (w4.setCell ⟨P, 8, none⟩ v2) P ∧ (rowP (w4.setCell ⟨P, 8, none⟩ v2) P = rowP w P ∨ ∀ g, rowP (w4.setCell ⟨P, 8, none⟩ v2) P = some g → w.heap.size ≤ g) ∧ Below base w (w4.setCell ⟨P, 8, none⟩ v2)) := Lib.hid (fun v2 w4 h1 h2 h3 => by
                rw [List.nil_append] at h1
                have hbl : Below wr.heap.size wr w4 := (balloc (bself wr) (.cells #[] 5)).grown h2 (by simp) (fun k hk => by have hk' : some wr.heap.size = some k := hk; injection hk' with hk'; omega)
                have hf := HMM.out.fresh (L2 := rest) hPl hbase hbP h1 (fun g hg => by
                  rcases h3 with h | h
                  · rw [h] at hg; have hg' : some wr.heap.size = some g := hg
                    injection hg' with hg'
                    omega
                  · rw [h] at hg; injection hg with hg; simp at hg; omega) hbl
                obtain ⟨A4, c4, e4, _, _, _⟩ := h1.sb
                have hlst := put_last cur rest HC.out.2.1 hrl
                refine ⟨⟨A4, c4, _, e4⟩, hf.1, hf.2.1, MidAt.fin hf.2.2 ?_ ?_ ?_ hbP⟩
                · rw [← HC.out.1, hlst.1]
                · rw [← HC.out.1, hlst.2]
                · rw [HN.out, List.length_append]; omega)
              have hlen : ([] : List UInt8).length + rest.length ≤ 140737488355328 := by simp only [List.length_nil]; omega
              have hbz : base ≤ (wr.alloc (.cells #[] 5)).heap.size := by simp; omega
              clear hsb hvs hr1
              go_wp2_with (at_builtin; go_loud (refine wl_appB rfl (.tmp 67) (.tmp 68) rfl base _ [] rfl own0 w.heap.size _ rest rfl hsrc hlen hbz ?_); intro v4 w4 hown4 hg4 ho4 hb4; obtain ⟨⟨A4, c4, m4, hv4⟩, k8, kf8, hfin⟩ := HA.out v4 w4 hown4 hg4 ho4; subst hv4)
              exact bodyPost_end (v := .tuple #[]) (by simp [results, Tryd.results44, go_sem]) rfl ⟨rfl, hfin⟩
        · have hVS := HVC.out
          rw [if_neg hcK] at hVS
          go_wp2_with fail
          refine HBLK.out.mono ?_
          rintro en w5 ⟨rfl, hP5, hg5⟩
          obtain ⟨q8, qf8, hm7⟩ := HNEW.out w5 hP5 hg5
          go_wp2_with fail
          clear q8 qf8 p8 p9 k1 k2 hP5 hg5
          go_loopw [1] (fun bv wy => ∃ (cur rest : List UInt8) (pz : Value) (A : Option Addr) (n c : Nat), bv = .slice A n c ∧ Hid (cur ++ rest = bs ++ x ∧ cur.length % 64 = 0 ∧ n = rest.length) ∧ VS w P (.slice A n c) rest ∧ MidAt w wy base P (wordsOf cur) [] pz N) (fun bv _ => sliceLen bv)
          case atStart => exact ⟨bs ++ x.take K, x.drop K, _, _, _, _, rfl, Lib.hid ⟨by rw [List.append_assoc, List.take_append_drop], HPF.out.2, by rw [List.length_drop]⟩, hVS, hm7⟩
          case round =>
            obtain ⟨cur, rest, pz, A, n, c, rfl, HC, hvs, hm⟩ := hrel
            clear hm7 hVS
            have HMM := Lib.hid hm
            obtain ⟨k1, k2, k3, k4, k5, k6⟩ := hm
            have hzr := k6.size
            have hsb : SB wr w.heap.size (.slice A n c) rest := hvs wr k4
            obtain ⟨A1, c1, he, hl1, hm1, hr1⟩ := id hsb
            injection he with he1 he2 he3
            subst he1; subst he3
            have hm2 : c ≤ 9223372036854775807 := by unfold maxLen at hm1; omega
            have hnc : n ≤ c := by omega
            clear hm1 hl1 he2
            have HVS := Lib.hid hvs
            by_cases h64 : 64 ≤ n
            · have hP1 : P ≠ 1 := by omega
              have h1r : 1 < wr.heap.size := by omega
              have HBLK := Lib.hid (kBlock_any P (wordsOf cur) pz N _ rest wr k1 (SB.more hsb hzr) (by have := HC.out.2.2; omega) (by have := HC.out.2.2; omega) (hk.on k6 hb1) hP1 h1r)
              have hcut := VS.cut hvs HC.out.2.2 (k := 64) (by have := HC.out.2.2; omega)
              have HNEXT : Hid ((cur ++ rest.take 64) ++ rest.drop 64 = bs ++ x ∧ (cur ++ rest.take 64).length % 64 = 0 ∧ n - 64 = (rest.drop 64).length) := Lib.hid (by
                have h1 := HC.out
                refine ⟨by rw [List.append_assoc, List.take_append_drop]; exact h1.1, by rw [List.length_append, List.length_take]; omega, by rw [List.length_drop]; omega⟩)
              have HW : Hid (blockS (wordsOf cur) (rest.take 64) = wordsOf (cur ++ rest.take 64)) := Lib.hid (by
                have h1 := HC.out
                rw [put_block cur (rest.take 64) h1.2.1 (by rw [List.length_take]; omega)])
              rw [← HC.out.2.2] at hcut
              clear hsb hvs hr1
              by_cases hc64 : c = 64
              · subst hc64
                rw [if_pos rfl, show 64 - 64 = 0 from rfl, show n - 64 = 0 from by omega] at hcut
                rw [show n - 64 = 0 from by omega] at HNEXT
                go_wp2_with fail
                refine HBLK.out.mono ?_
                rintro en w5 ⟨rfl, hP5, hg5⟩
                have hm5 := HMM.out.block hPl hbase hbP hP5 hg5
                rw [HW.out] at hm5
                go_wp2_with fail
                go_roundw
                case rel => exact ⟨cur ++ rest.take 64, rest.drop 64, pz, _, _, _, rfl, HNEXT, hcut, hm5⟩
                case measure => simp only [sliceLen]; omega
              · rw [if_neg hc64] at hcut
                go_wp2_with fail
                refine HBLK.out.mono ?_
                rintro en w5 ⟨rfl, hP5, hg5⟩
                have hm5 := HMM.out.block hPl hbase hbP hP5 hg5
                rw [HW.out] at hm5
                go_wp2_with fail
                go_roundw
                case rel => exact ⟨cur ++ rest.take 64, rest.drop 64, pz, _, _, _, rfl, HNEXT, hcut, hm5⟩
                case measure => simp only [sliceLen]; omega
            · have hrl : rest.length < 64 := by have := HC.out.2.2; omega
              have own0 : OB (wr.alloc (.cells #[] 5)) base (.slice (some ⟨wr.heap.size, 0, none⟩) 0 0) [] := OB.lit0 wr (by omega)
              have hsrc : SB (wr.alloc (.cells #[] 5)) w.heap.size (.slice A n c) rest := SB.alloc hsb hzr _
              have HA : Hid (∀ v2 w4, OB w4 base v2 ([] ++ rest) → (wr.alloc (.cells #[] 5)).grownBy w4 (Value.slice (some ⟨wr.heap.size, 0, none⟩) 0 0).ownBlock → (v2.ownBlock = (Value.slice (some ⟨wr.heap.size, 0, none⟩) 0 0).ownBlock ∨ v2.ownBlock = some (wr.alloc (.cells #[] 5)).heap.size) → (∃ A c m, v2 = .slice A m c) ∧ w4.cell? ⟨P, 8, none⟩ = some pz ∧ w4.frozen? ⟨P, 8, none⟩ = false ∧ StAt (w4.setCell ⟨P, 8, none⟩ v2) base P (bs ++ x) ∧ Off w (w4.setCell ⟨P, 8, none⟩ v2) P ∧ (rowP (w4.setCell ⟨P, 8, none⟩ v2) P = rowP w P ∨ ∀ g, rowP (w4.setCell ⟨P, 8, none⟩ v2) P = some g → w.heap.size ≤ g) ∧ Below base w (w4.setCell ⟨P, 8, none⟩ v2)) := Lib.hid (fun v2 w4 h1 h2 h3 => by
                rw [List.nil_append] at h1
                have hbl : Below wr.heap.size wr w4 := (balloc (bself wr) (.cells #[] 5)).grown h2 (by simp) (fun k hk => by have hk' : some wr.heap.size = some k := hk; injection hk' with hk'; omega)
                have hf := HMM.out.fresh (L2 := rest) hPl hbase hbP h1 (fun g hg => by
                  rcases h3 with h | h
                  · rw [h] at hg; have hg' : some wr.heap.size = some g := hg
                    injection hg' with hg'
                    omega
                  · rw [h] at hg; injection hg with hg; simp at hg; omega) hbl
                obtain ⟨A4, c4, e4, _, _, _⟩ := h1.sb
                have hlst := put_last cur rest HC.out.2.1 hrl
                refine ⟨⟨A4, c4, _, e4⟩, hf.1, hf.2.1, MidAt.fin hf.2.2 ?_ ?_ ?_ hbP⟩
                · rw [← HC.out.1, hlst.1]
                · rw [← HC.out.1, hlst.2]
                · rw [HN.out, List.length_append]; omega)
              have hlen : ([] : List UInt8).length + rest.length ≤ 140737488355328 := by simp only [List.length_nil]; omega
              have hbz : base ≤ (wr.alloc (.cells #[] 5)).heap.size := by simp; omega
              clear hsb hvs hr1
              go_wp2_with (at_builtin; go_loud (refine wl_appB rfl (.tmp 67) (.tmp 68) rfl base _ [] rfl own0 w.heap.size _ rest rfl hsrc hlen hbz ?_); intro v4 w4 hown4 hg4 ho4 hb4; obtain ⟨⟨A4, c4, m4, hv4⟩, k8, kf8, hfin⟩ := HA.out v4 w4 hown4 hg4 ho4; subst hv4)
              exact bodyPost_end (v := .tuple #[]) (by simp [results, Tryd.results44, go_sem]) rfl ⟨rfl, hfin⟩
  · have hr00 : bs.length % 64 = 0 := by omega
    have hpn : partOf bs = [] := List.eq_nil_of_length_eq_zero (by omega)
    have hm7 := HM.out
    rw [hpn] at hm7 hpv hlp hpl
    have hVS := hv
    obtain ⟨m1, _, _, _, _, _⟩ := id hm7
    obtain ⟨_, _, _, _, _, _, _, _, p8, p9⟩ := stCells m1
    subst hpv
    have HR0 := Lib.hid hr00
    clear hr00 hr0 hpl hP m1
    go_wp2_with fail
    clear p8 p9
    go_loopw [1] (fun bv wy => ∃ (cur rest : List UInt8) (pz : Value) (A : Option Addr) (n c : Nat), bv = .slice A n c ∧ Hid (cur ++ rest = bs ++ x ∧ cur.length % 64 = 0 ∧ n = rest.length) ∧ VS w P (.slice A n c) rest ∧ MidAt w wy base P (wordsOf cur) [] pz N) (fun bv _ => sliceLen bv)
    case atStart => exact ⟨bs, x, _, _, _, _, rfl, Lib.hid ⟨rfl, HR0.out, rfl⟩, hVS, hm7⟩
    case round =>
      obtain ⟨cur, rest, pz, A, n, c, rfl, HC, hvs, hm⟩ := hrel
      clear hm7 hVS
      have HMM := Lib.hid hm
      obtain ⟨k1, k2, k3, k4, k5, k6⟩ := hm
      have hzr := k6.size
      have hsb : SB wr w.heap.size (.slice A n c) rest := hvs wr k4
      obtain ⟨A1, c1, he, hl1, hm1, hr1⟩ := id hsb
      injection he with he1 he2 he3
      subst he1; subst he3
      have hm2 : c ≤ 9223372036854775807 := by unfold maxLen at hm1; omega
      have hnc : n ≤ c := by omega
      clear hm1 hl1 he2
      have HVS := Lib.hid hvs
      by_cases h64 : 64 ≤ n
      · have hP1 : P ≠ 1 := by omega
        have h1r : 1 < wr.heap.size := by omega
        have HBLK := Lib.hid (kBlock_any P (wordsOf cur) pz N _ rest wr k1 (SB.more hsb hzr) (by have := HC.out.2.2; omega) (by have := HC.out.2.2; omega) (hk.on k6 hb1) hP1 h1r)
        have hcut := VS.cut hvs HC.out.2.2 (k := 64) (by have := HC.out.2.2; omega)
        have HNEXT : Hid ((cur ++ rest.take 64) ++ rest.drop 64 = bs ++ x ∧ (cur ++ rest.take 64).length % 64 = 0 ∧ n - 64 = (rest.drop 64).length) := Lib.hid (by
          have h1 := HC.out
          refine ⟨by rw [List.append_assoc, List.take_append_drop]; exact h1.1, by rw [List.length_append, List.length_take]; omega, by rw [List.length_drop]; omega⟩)
        have HW : Hid (blockS (wordsOf cur) (rest.take 64) = wordsOf (cur ++ rest.take 64)) := Lib.hid (by
          have h1 := HC.out
          rw [put_block cur (rest.take 64) h1.2.1 (by rw [List.length_take]; omega)])
        rw [← HC.out.2.2] at hcut
        clear hsb hvs hr1
        by_cases hc64 : c = 64
        · subst hc64
          rw [if_pos rfl, show 64 - 64 = 0 from rfl, show n - 64 = 0 from by omega] at hcut
          rw [show n - 64 = 0 from by omega] at HNEXT
          go_wp2_with fail
          refine HBLK.out.mono ?_
          rintro en w5 ⟨rfl, hP5, hg5⟩
          have hm5 := HMM.out.block hPl hbase hbP hP5 hg5
          rw [HW.out] at hm5
          go_wp2_with fail
          go_roundw
          case rel => exact ⟨cur ++ rest.take 64, rest.drop 64, pz, _, _, _, rfl, HNEXT, hcut, hm5⟩
          case measure => simp only [sliceLen]; omega
        · rw [if_neg hc64] at hcut
          go_wp2_with fail
          refine HBLK.out.mono ?_
          rintro en w5 ⟨rfl, hP5, hg5⟩
          have hm5 := HMM.out.block hPl hbase hbP hP5 hg5
          rw [HW.out] at hm5
          go_wp2_with fail
          go_roundw
          case rel => exact ⟨cur ++ rest.take 64, rest.drop 64, pz, _, _, _, rfl, HNEXT, hcut, hm5⟩
          case measure => simp only [sliceLen]; omega
      · have hrl : rest.length < 64 := by have := HC.out.2.2; omega
        have own0 : OB (wr.alloc (.cells #[] 5)) base (.slice (some ⟨wr.heap.size, 0, none⟩) 0 0) [] := OB.lit0 wr (by omega)
        have hsrc : SB (wr.alloc (.cells #[] 5)) w.heap.size (.slice A n c) rest := SB.alloc hsb hzr _
        have HA : Hid (∀ v2 w4, OB w4 base v2 ([] ++ rest) → (wr.alloc (.cells #[] 5)).grownBy w4 (Value.slice (some ⟨wr.heap.size, 0, none⟩) 0 0).ownBlock → (v2.ownBlock = (Value.slice (some ⟨wr.heap.size, 0, none⟩) 0 0).ownBlock ∨ v2.ownBlock = some (wr.alloc (.cells #[] 5)).heap.size) → (∃ A c m, v2 = .slice A m c) ∧ w4.cell? ⟨P, 8, none⟩ = some pz ∧ w4.frozen? ⟨P, 8, none⟩ = false ∧ StAt (w4.setCell ⟨P, 8, none⟩ v2) base P (bs ++ x) ∧ Off w (w4.setCell ⟨P, 8, none⟩ v2) P ∧ (rowP (w4.setCell ⟨P, 8, none⟩ v2) P = rowP w P ∨ ∀ g, rowP (w4.setCell ⟨P, 8, none⟩ v2) P = some g → w.heap.size ≤ g) ∧ Below base w (w4.setCell ⟨P, 8, none⟩ v2)) := Lib.hid (fun v2 w4 h1 h2 h3 => by
          rw [List.nil_append] at h1
          have hbl : Below wr.heap.size wr w4 := (balloc (bself wr) (.cells #[] 5)).grown h2 (by simp) (fun k hk => by have hk' : some wr.heap.size = some k := hk; injection hk' with hk'; omega)
          have hf := HMM.out.fresh (L2 := rest) hPl hbase hbP h1 (fun g hg => by
            rcases h3 with h | h
            · rw [h] at hg; have hg' : some wr.heap.size = some g := hg
              injection hg' with hg'
              omega
            · rw [h] at hg; injection hg with hg; simp at hg; omega) hbl
          obtain ⟨A4, c4, e4, _, _, _⟩ := h1.sb
          have hlst := put_last cur rest HC.out.2.1 hrl
          refine ⟨⟨A4, c4, _, e4⟩, hf.1, hf.2.1, MidAt.fin hf.2.2 ?_ ?_ ?_ hbP⟩
          · rw [← HC.out.1, hlst.1]
          · rw [← HC.out.1, hlst.2]
          · rw [HN.out, List.length_append]; omega)
        have hlen : ([] : List UInt8).length + rest.length ≤ 140737488355328 := by simp only [List.length_nil]; omega
        have hbz : base ≤ (wr.alloc (.cells #[] 5)).heap.size := by simp; omega
        clear hsb hvs hr1
        go_wp2_with (at_builtin; go_loud (refine wl_appB rfl (.tmp 67) (.tmp 68) rfl base _ [] rfl own0 w.heap.size _ rest rfl hsrc hlen hbz ?_); intro v4 w4 hown4 hg4 ho4 hb4; obtain ⟨⟨A4, c4, m4, hv4⟩, k8, kf8, hfin⟩ := HA.out v4 w4 hown4 hg4 ho4; subst hv4)
        exact bodyPost_end (v := .tuple #[]) (by simp [results, Tryd.results44, go_sem]) rfl ⟨rfl, hfin⟩
end Go.Proofs.YtjkcdnangmjoeaaDoor
