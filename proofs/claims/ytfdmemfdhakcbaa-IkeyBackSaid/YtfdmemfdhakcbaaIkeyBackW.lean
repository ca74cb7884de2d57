/-
  What is proved here: the call of the statement IkeyBack of layer 8 returns true and turns nothing that was there. Conditions: the texts' lengths.
-/
import Derived.Test.YtfdmemfdhakcbaaIkeyLawsW2
namespace Go.Proofs.Ytfdmemfdhakcbaa
open Go.RowKit

theorem lay_size (e : Ent) (h : e.user.size ≤ 140737488351232) : (⟨(layE e).toArray⟩ : ByteArray).size ≤ 140737488355328 := by
  have h1 := layE_length e
  show (layE e).toArray.size ≤ _
  rw [List.size_toArray]
  omega
theorem takeV_ways (s : List UInt8) : (isKey s = true ∧ takeV s = .tuple #[entV (takeE s), .int .i64 0]) ∨ (isKey s = false ∧ takeV s = .tuple #[.agg #[.string ⟨#[]⟩, .int .u64 0, .int .u8 0, .string ⟨#[]⟩], .int .i64 80]) := by
  unfold takeV
  cases h : isKey s with
  | true => left; exact ⟨rfl, rfl⟩
  | false => right; exact ⟨rfl, rfl⟩

set_option maxRecDepth 100000 in
set_option maxHeartbeats 4000000 in
theorem ikeyBack_no (a b : Ent) (w : World) (ha : a.user.size ≤ 140737488351232 ∧ a.value.size ≤ 140737488351232) (hb0 : b.user.size ≤ 140737488351232 ∧ b.value.size ≤ 140737488351232) (hr : (rightE a && rightE b) = false) :
    Calls Try.prog 7 #[entV a, entV b] w fun e w' => e = .returned (.bool true) ∧ Below w.heap.size w w' := by
  have hw := takeV_ways (layE a)
  have hlay := fun W => iLay_any a W ha.1
  have htak := fun W => iTake_any ⟨(layE a).toArray⟩ W (lay_size a ha.1)
  have e0 : (⟨(layE a).toArray⟩ : ByteArray).data.toList = layE a := rfl
  rw [e0] at htak
  obtain ⟨sv, hsv⟩ : ∃ sv : ByteArray, sv = ⟨(layE a).toArray⟩ := ⟨_, rfl⟩
  rw [← hsv] at hlay htak
  obtain ⟨x0, x1, x2, x3, n, htv, hn⟩ : ∃ x0 x1 x2 x3 n, takeV (layE a) = .tuple #[.agg #[.string x0, .int .u64 x1, .int .u8 x2, .string x3], .int .i64 n] ∧ (n = 0 ∨ (n = 80 ∧ x0 = ⟨#[]⟩ ∧ x1 = 0 ∧ x2 = 0 ∧ x3 = ⟨#[]⟩)) := by
    rcases hw with ⟨_, h⟩ | ⟨_, h⟩
    · exact ⟨_, _, _, _, _, h, .inl rfl⟩
    · exact ⟨_, _, _, _, _, h, .inr ⟨rfl, rfl, rfl, rfl, rfl⟩⟩
  rw [htv] at htak
  have HL := Lib.hid hlay
  have HT := Lib.hid htak
  have HN := Lib.hid hn
  clear hw hlay htak e0 hsv htv hn
  go_enter Try.func7, Try.ntmps7
  go_wp2_with fail
  refine (shown_any _).mono ?_
  rintro e w1 ⟨rfl, hb1⟩
  have hB1 := bstep (balloc (balloc (bself w) _) _) hb1
  have r1 := keep_new (bstep (balloc (bself (w.alloc _)) _) hb1)
  have r2 := keep_new hb1
  rw [show (w.alloc _).heap.size = w.heap.size + 1 from by simp] at r2
  have hz1 : w.heap.size + 1 < w1.heap.size := by have := hb1.size; simp at this; omega
  have keepS : ∀ w', Below w1.heap.size w1 w' → (w'.cell? ⟨w.heap.size, 0, none⟩ = some (.string a.user) ∧ w'.cell? ⟨w.heap.size, 1, none⟩ = some (.int .u64 (a.seq.toNat : Int)) ∧ w'.cell? ⟨w.heap.size, 2, none⟩ = some (.int .u8 (a.kind.toNat : Int)) ∧ w'.cell? ⟨w.heap.size, 3, none⟩ = some (.string a.value) ∧ w'.cell? ⟨w.heap.size + 1, 0, none⟩ = some (.string b.user) ∧ w'.cell? ⟨w.heap.size + 1, 1, none⟩ = some (.int .u64 (b.seq.toNat : Int)) ∧ w'.cell? ⟨w.heap.size + 1, 2, none⟩ = some (.int .u8 (b.kind.toNat : Int)) ∧ w'.cell? ⟨w.heap.size + 1, 3, none⟩ = some (.string b.value)) := fun w' h' => by
    obtain ⟨p0, _⟩ := cells4 ((h'.block w.heap.size (by omega)).trans r1)
    obtain ⟨p1, _⟩ := cells4 ((h'.block (w.heap.size + 1) (by omega)).trans r2)
    exact ⟨p0.1, p0.2.1, p0.2.2.1, p0.2.2.2, p1.1, p1.2.1, p1.2.2.1, p1.2.2.2⟩
  have KS := Lib.hid keepS
  clear keepS r1 r2
  obtain ⟨s1, s2, s3, s4, s5, s6, s7, s8⟩ := KS.out _ (bself w1)
  go_wp2_with fail
  refine (HL.out _).mono ?_
  rintro e w2 ⟨rfl, hb2⟩
  clear s1 s2 s3 s4 s5 s6 s7 s8
  go_wp2_with fail
  refine (HT.out _).mono ?_
  rintro e w3 ⟨rfl, hb3⟩
  have hb13 := bstep hb2 hb3
  obtain ⟨s1, s2, s3, s4, s5, s6, s7, s8⟩ := KS.out _ hb13
  have hz3 : w.heap.size + 1 < w3.heap.size := by have := hb13.size; omega
  have hz3' : w.heap.size < w3.heap.size := by omega
  go_wp2_with fail
  refine (iRight_any a _ (by omega) (by omega)).mono ?_
  rintro e w4 ⟨rfl, hb4⟩
  have r6 := keep_new hb4
  have hb14 := bstep (balloc hb13 _) hb4
  clear s1 s2 s3 s4 s5 s6 s7 s8
  obtain ⟨s1, s2, s3, s4, s5, s6, s7, s8⟩ := KS.out _ hb14
  obtain ⟨⟨t0, t1, t2, t3⟩, _⟩ := cells4 r6
  have hres := hB1.trans (hb14.mono hB1.size)
  cases hra : rightE a with
  | false =>
    rcases HN.out with rfl | ⟨rfl, rfl, rfl, rfl, rfl⟩
    · go_wp2
      go_ret
      exact ⟨rfl, hres⟩
    · go_wp2
      go_ret
      exact ⟨rfl, hres⟩
  | true =>
    have hrb : rightE b = false := by rw [hra] at hr; simpa using hr
    have hcb := fun W => iRight_any b W (by omega) (by omega)
    rw [hrb] at hcb
    have HCB := Lib.hid hcb
    clear hr hra hrb hcb
    go_wp2_with fail
    refine (HCB.out _).mono ?_
    rintro e w5 ⟨rfl, hb5⟩
    have r6' := (hb5.block w3.heap.size (by have := hb4.size; simp at this; omega)).trans r6
    clear t0 t1 t2 t3
    obtain ⟨⟨t0, t1, t2, t3⟩, _⟩ := cells4 r6'
    have hres5 := bstep hres hb5
    rcases HN.out with rfl | ⟨rfl, rfl, rfl, rfl, rfl⟩
    · go_wp2
      go_ret
      exact ⟨rfl, hres5⟩
    · go_wp2
      go_ret
      exact ⟨rfl, hres5⟩

theorem set43 {w : World} {R : Nat} {a b c d u : Value} {T : TypeId} (h : w.heap[R]? = some (.cells #[a, b, c, d] T (0, 0))) : (w.setCell ⟨R, 3, none⟩ u).heap[R]? = some (.cells #[a, b, c, u] T (0, 0)) := by
  simp [World.setCell, Array.getElem?_modify, h]
theorem set_other {w : World} {g R : Nat} {p : Addr} (hp : p.block = g) (hne : R ≠ g) (u : Value) : (w.setCell p u).heap[R]? = w.heap[R]? := Below.heap_setCell _ _ _ _ (fun e => hne (e.trans hp))

set_option maxRecDepth 100000 in
set_option maxHeartbeats 4000000 in
theorem ikeyBack_yes (a b : Ent) (w : World) (hra : rightE a = true) (hrb : rightE b = true) :
    Calls Try.prog 7 #[entV a, entV b] w fun e w' => e = .returned (.bool true) ∧ Below w.heap.size w w' := by
  have ha := rightE_le hra
  have hb0 := rightE_le hrb
  have hlay := fun W => iLay_any a W (by omega)
  have hlay2 := fun W => iLay_any (bare a) W (by show a.user.size ≤ _; omega)
  have hlay3 := fun W => iLay_any b W (by omega)
  have hcm := fun W => iCompare_any (bare a) b W
  rw [layE_bare] at hlay2
  have htak := fun W => iTake_any ⟨(layE a).toArray⟩ W (lay_size a (by omega))
  have e0 : (⟨(layE a).toArray⟩ : ByteArray).data.toList = layE a := rfl
  have htv : takeV (layE a) = .tuple #[entV (bare a), .int .i64 0] := by
    unfold takeV
    rw [(takeE_lay hra).2, (takeE_lay hra).1]
    rfl
  rw [e0, htv] at htak
  have hri := fun W => iRight_any a W (by omega) (by omega)
  have hri2 := fun W => iRight_any b W (by omega) (by omega)
  rw [hra] at hri
  rw [hrb] at hri2
  have hsame := lay_same (right_bare hra) hrb
  rw [layE_bare] at hsame
  obtain ⟨la, hla⟩ : ∃ la, la = layE a := ⟨_, rfl⟩
  obtain ⟨lb, hlb⟩ : ∃ lb, lb = layE b := ⟨_, rfl⟩
  obtain ⟨z, hz⟩ : ∃ z, z = cmpE (bare a) b := ⟨_, rfl⟩
  rw [← hla] at hlay hlay2 htak hsame
  rw [← hlb] at hlay3 hsame
  rw [← hz] at hcm hsame
  have htst : ((la == lb) = true ∧ (z == 0) = true) ∨ ((la == lb) = false ∧ (z == 0) = false) := by
    by_cases h : la = lb
    · left; exact ⟨by rw [beq_iff_eq]; exact h, by rw [beq_iff_eq]; exact hsame.1 h⟩
    · right; exact ⟨by rw [beq_eq_false_iff_ne]; exact h, by rw [beq_eq_false_iff_ne]; exact fun e => h (hsame.2 e)⟩
  have HL := Lib.hid (And.intro hlay (And.intro hlay2 (And.intro hlay3 hcm)))
  have HT := Lib.hid htak
  have HR := Lib.hid (And.intro hri hri2)
  have HTS := Lib.hid htst
  clear hlay hlay2 hlay3 hcm htak hri hri2 htst hsame hla hlb hz e0 htv hra hrb
  go_enter Try.func7, Try.ntmps7
  go_wp2_with fail
  refine (shown_any _).mono ?_
  rintro e w1 ⟨rfl, hb1⟩
  have hB1 := bstep (balloc (balloc (bself w) _) _) hb1
  have r1 := keep_new (bstep (balloc (bself (w.alloc _)) _) hb1)
  have r2 := keep_new hb1
  rw [show (w.alloc _).heap.size = w.heap.size + 1 from by simp] at r2
  have hz1 : w.heap.size + 1 < w1.heap.size := by have := hb1.size; simp at this; omega
  obtain ⟨⟨s1, s2, s3, s4⟩, _⟩ := cells4 r1
  obtain ⟨⟨s5, s6, s7, s8⟩, _⟩ := cells4 r2
  go_wp2_with fail
  refine (HL.out.1 _).mono ?_
  rintro e w2 ⟨rfl, hb2⟩
  clear s1 s2 s3 s4 s5 s6 s7 s8
  go_wp2_with fail
  refine (HT.out _).mono ?_
  rintro e w3 ⟨rfl, hb3⟩
  have hb13 := bstep hb2 hb3
  have r1' := (hb13.block w.heap.size (by omega)).trans r1
  have r2' := (hb13.block (w.heap.size + 1) (by omega)).trans r2
  clear r1 r2
  obtain ⟨⟨s1, s2, s3, s4⟩, _⟩ := cells4 r1'
  obtain ⟨⟨s5, s6, s7, s8⟩, _⟩ := cells4 r2'
  have hz3 : w.heap.size + 1 < w3.heap.size := by have := hb13.size; omega
  have hz3' : w.heap.size < w3.heap.size := by omega
  go_wp2_with fail
  refine (HR.out.1 _).mono ?_
  rintro e w4 ⟨rfl, hb4⟩
  have r6 := keep_new hb4
  have hb34 := bstep (balloc (bself w3) _) hb4
  have r1'' := (hb34.block w.heap.size (by omega)).trans r1'
  have r2'' := (hb34.block (w.heap.size + 1) (by omega)).trans r2'
  have hz4 : w3.heap.size < w4.heap.size := by have := hb4.size; simp at this; omega
  clear s1 s2 s3 s4 s5 s6 s7 s8 r1' r2'
  obtain ⟨⟨s5, s6, s7, s8⟩, _⟩ := cells4 r2''
  go_wp2_with fail
  refine (HR.out.2 _).mono ?_
  rintro e w5 ⟨rfl, hb5⟩
  have r1 := (hb5.block w.heap.size (by omega)).trans r1''
  have r2 := (hb5.block (w.heap.size + 1) (by omega)).trans r2''
  have r6' := (hb5.block w3.heap.size (by omega)).trans r6
  clear s5 s6 s7 s8 r1'' r2'' r6
  have hz5 : w3.heap.size < w5.heap.size := by have := hb5.size; omega
  have hB5 : Below w.heap.size w w5 := hB1.trans ((bstep hb13 (bstep hb34 hb5)).mono hB1.size)
  obtain ⟨⟨s1, s2, s3, s4⟩, g1, g2, g3, g4⟩ := cells4 r1
  obtain ⟨W, hW⟩ : ∃ W, W = w5.setCell ⟨w.heap.size, 3, none⟩ (.string ⟨#[]⟩) := ⟨_, rfl⟩
  have hBW : Below w.heap.size w W := by rw [hW]; exact hB5.setCell (Nat.le_refl _) _
  have k1 := set43 (u := .string ⟨#[]⟩) r1
  have k2 := (set_other (w := w5) (g := w.heap.size) (R := w.heap.size + 1) (p := ⟨w.heap.size, 3, none⟩) rfl (by omega) (.string ⟨#[]⟩)).trans r2
  have k6 := (set_other (w := w5) (g := w.heap.size) (R := w3.heap.size) (p := ⟨w.heap.size, 3, none⟩) rfl (by omega) (.string ⟨#[]⟩)).trans r6'
  have hWs : w5.heap.size = W.heap.size := by rw [hW]; simp
  rw [← hW] at k1 k2 k6
  have keepS : ∀ w', Below W.heap.size W w' → (w'.cell? ⟨w.heap.size, 0, none⟩ = some (.string a.user) ∧ w'.cell? ⟨w.heap.size, 1, none⟩ = some (.int .u64 (a.seq.toNat : Int)) ∧ w'.cell? ⟨w.heap.size, 2, none⟩ = some (.int .u8 (a.kind.toNat : Int)) ∧ w'.cell? ⟨w.heap.size, 3, none⟩ = some (.string ⟨#[]⟩) ∧ w'.cell? ⟨w.heap.size + 1, 0, none⟩ = some (.string b.user) ∧ w'.cell? ⟨w.heap.size + 1, 1, none⟩ = some (.int .u64 (b.seq.toNat : Int)) ∧ w'.cell? ⟨w.heap.size + 1, 2, none⟩ = some (.int .u8 (b.kind.toNat : Int)) ∧ w'.cell? ⟨w.heap.size + 1, 3, none⟩ = some (.string b.value) ∧ w'.cell? ⟨w3.heap.size, 0, none⟩ = some (.string a.user) ∧ w'.cell? ⟨w3.heap.size, 1, none⟩ = some (.int .u64 (a.seq.toNat : Int)) ∧ w'.cell? ⟨w3.heap.size, 2, none⟩ = some (.int .u8 (a.kind.toNat : Int)) ∧ w'.cell? ⟨w3.heap.size, 3, none⟩ = some (.string ⟨#[]⟩)) := fun w' h' => by
    obtain ⟨p0, _⟩ := cells4 ((h'.block w.heap.size (by omega)).trans k1)
    obtain ⟨p1, _⟩ := cells4 ((h'.block (w.heap.size + 1) (by omega)).trans k2)
    obtain ⟨p2, _⟩ := cells4 ((h'.block w3.heap.size (by omega)).trans k6)
    exact ⟨p0.1, p0.2.1, p0.2.2.1, p0.2.2.2, p1.1, p1.2.1, p1.2.2.1, p1.2.2.2, p2.1, p2.2.1, p2.2.2.1, p2.2.2.2⟩
  have KS := Lib.hid keepS
  clear keepS k1 k2 k6 r1 r2 r6'
  go_wp2_with fail
  rw [← hW]
  clear hW hWs s1 s2 s3 s4 g1 g2 g3 g4
  refine wp_region_noPanic ?_
  refine wp_region_held_drew (S := fun w' => w'.cell? ⟨w.heap.size, 0, none⟩ = some (.string a.user) ∧ w'.cell? ⟨w.heap.size, 1, none⟩ = some (.int .u64 (a.seq.toNat : Int)) ∧ w'.cell? ⟨w.heap.size, 2, none⟩ = some (.int .u8 (a.kind.toNat : Int)) ∧ w'.cell? ⟨w.heap.size, 3, none⟩ = some (.string ⟨#[]⟩) ∧ w'.cell? ⟨w.heap.size + 1, 0, none⟩ = some (.string b.user) ∧ w'.cell? ⟨w.heap.size + 1, 1, none⟩ = some (.int .u64 (b.seq.toNat : Int)) ∧ w'.cell? ⟨w.heap.size + 1, 2, none⟩ = some (.int .u8 (b.kind.toNat : Int)) ∧ w'.cell? ⟨w.heap.size + 1, 3, none⟩ = some (.string b.value) ∧ w'.cell? ⟨w3.heap.size, 0, none⟩ = some (.string a.user) ∧ w'.cell? ⟨w3.heap.size, 1, none⟩ = some (.int .u64 (a.seq.toNat : Int)) ∧ w'.cell? ⟨w3.heap.size, 2, none⟩ = some (.int .u8 (a.kind.toNat : Int)) ∧ w'.cell? ⟨w3.heap.size, 3, none⟩ = some (.string ⟨#[]⟩)) (by kernel_rfl) (KS.out _ (bdrew (bself W))) (fun hHeld => ?_)
  rcases HTS.out with ⟨t1, t2⟩ | ⟨t1, t2⟩
  all_goals
    refine reg_take 0 (v := ?_) (by rfl) (by kernel_rfl) (by kernel_rfl) (by kernel_rfl) (fun _ _ _ h => h) (by rfl) ?_ (by assumption) ?_
    rotate_left
    · (intro wq hSq; (try dsimp only at hSq); go_split_ands; go_simp; (try with_reducible rfl))
    try simp only [Act.put, List.setIfInBounds_toArray, List.set_cons_zero, List.set_cons_succ]
    refine reg_take 1 (v := ?_) (by rfl) (by kernel_rfl) (by kernel_rfl) (by kernel_rfl) (fun _ _ _ h => h) (by rfl) ?_ (by assumption) ?_
    rotate_left
    · (intro wq hSq; (try dsimp only at hSq); go_split_ands; go_simp; (try with_reducible rfl))
    try simp only [Act.put, List.setIfInBounds_toArray, List.set_cons_zero, List.set_cons_succ]
    refine reg_take 2 (v := ?_) (by rfl) (by kernel_rfl) (by kernel_rfl) (by kernel_rfl) (fun _ _ _ h => h) (by rfl) ?_ (by assumption) ?_
    rotate_left
    · (intro wq hSq; (try dsimp only at hSq); go_split_ands; go_simp; (try with_reducible rfl))
    try simp only [Act.put, List.setIfInBounds_toArray, List.set_cons_zero, List.set_cons_succ]
    refine reg_take 3 (v := ?_) (by rfl) (by kernel_rfl) (by kernel_rfl) (by kernel_rfl) (fun _ _ _ h => h) (by rfl) ?_ (by assumption) ?_
    rotate_left
    · (intro wq hSq; (try dsimp only at hSq); go_split_ands; go_simp; (try with_reducible rfl))
    try simp only [Act.put, List.setIfInBounds_toArray, List.set_cons_zero, List.set_cons_succ]
    refine reg_take 4 (v := ?_) (by rfl) (by kernel_rfl) (by kernel_rfl) (by kernel_rfl) (fun _ _ _ h => h) (by rfl) ?_ (by assumption) ?_
    rotate_left
    · (intro wq hSq; (try dsimp only at hSq); go_split_ands; go_simp; (try with_reducible rfl))
    try simp only [Act.put, List.setIfInBounds_toArray, List.set_cons_zero, List.set_cons_succ]
    refine reg_take 5 (v := ?_) (by rfl) (by kernel_rfl) (by kernel_rfl) (by kernel_rfl) (fun _ _ _ h => h) (by rfl) ?_ (by assumption) ?_
    rotate_left
    · (intro wq hSq; (try dsimp only at hSq); go_split_ands; go_simp; (try with_reducible rfl))
    try simp only [Act.put, List.setIfInBounds_toArray, List.set_cons_zero, List.set_cons_succ]
    refine reg_take 6 (v := ?_) (by rfl) (by kernel_rfl) (by kernel_rfl) (by kernel_rfl) (fun _ _ _ h => h) (by rfl) ?_ (by assumption) ?_
    rotate_left
    · (intro wq hSq; (try dsimp only at hSq); go_split_ands; go_simp; (try with_reducible rfl))
    try simp only [Act.put, List.setIfInBounds_toArray, List.set_cons_zero, List.set_cons_succ]
    refine reg_take 7 (v := ?_) (by rfl) (by kernel_rfl) (by kernel_rfl) (by kernel_rfl) (fun _ _ _ h => h) (by rfl) ?_ (by assumption) ?_
    rotate_left
    · (intro wq hSq; (try dsimp only at hSq); go_split_ands; go_simp; (try with_reducible rfl))
    try simp only [Act.put, List.setIfInBounds_toArray, List.set_cons_zero, List.set_cons_succ]
    refine reg_take 8 (v := ?_) (by rfl) (by kernel_rfl) (by kernel_rfl) (by kernel_rfl) (fun _ _ _ h => h) (by rfl) ?_ (by assumption) ?_
    rotate_left
    · (intro wq hSq; (try dsimp only at hSq); go_split_ands; go_simp; (try with_reducible rfl))
    try simp only [Act.put, List.setIfInBounds_toArray, List.set_cons_zero, List.set_cons_succ]
    refine reg_take 9 (v := ?_) (by rfl) (by kernel_rfl) (by kernel_rfl) (by kernel_rfl) (fun _ _ _ h => h) (by rfl) ?_ (by assumption) ?_
    rotate_left
    · (intro wq hSq; (try dsimp only at hSq); go_split_ands; go_simp; (try with_reducible rfl))
    try simp only [Act.put, List.setIfInBounds_toArray, List.set_cons_zero, List.set_cons_succ]
    refine reg_take 10 (v := ?_) (by rfl) (by kernel_rfl) (by kernel_rfl) (by kernel_rfl) (fun _ _ _ h => h) (by rfl) ?_ (by assumption) ?_
    rotate_left
    · (intro wq hSq; (try dsimp only at hSq); go_split_ands; go_simp; (try with_reducible rfl))
    try simp only [Act.put, List.setIfInBounds_toArray, List.set_cons_zero, List.set_cons_succ]
    refine reg_take 11 (v := ?_) (by rfl) (by kernel_rfl) (by kernel_rfl) (by kernel_rfl) (fun _ _ _ h => h) (by rfl) ?_ (by assumption) ?_
    rotate_left
    · (intro wq hSq; (try dsimp only at hSq); go_split_ands; go_simp; (try with_reducible rfl))
    try simp only [Act.put, List.setIfInBounds_toArray, List.set_cons_zero, List.set_cons_succ]
    refine reg_take 13 (v := ?_) (by rfl) (by kernel_rfl) (by kernel_rfl) (by kernel_rfl) (fun _ _ _ h => h) (by rfl) ?_ (by assumption) ?_
    rotate_left
    · (intro wq hSq; (try dsimp only at hSq); go_split_ands; go_simp; (try with_reducible rfl))
    try simp only [Act.put, List.setIfInBounds_toArray, List.set_cons_zero, List.set_cons_succ]
    refine reg_take 16 (v := ?_) (by rfl) (by kernel_rfl) (by kernel_rfl) (by kernel_rfl) (fun _ _ _ h => h) (by rfl) ?_ (by assumption) ?_
    rotate_left
    · (intro wq hSq; (try dsimp only at hSq); go_split_ands; go_simp; (try with_reducible rfl))
    try simp only [Act.put, List.setIfInBounds_toArray, List.set_cons_zero, List.set_cons_succ]
    refine reg_take 17 (v := ?_) (by rfl) (by kernel_rfl) (by kernel_rfl) (by kernel_rfl) (fun _ _ _ h => h) (by rfl) ?_ (by assumption) ?_
    rotate_left
    · (intro wq hSq; (try dsimp only at hSq); go_split_ands; go_simp; (try with_reducible rfl))
    try simp only [Act.put, List.setIfInBounds_toArray, List.set_cons_zero, List.set_cons_succ]
    refine reg_one 12 (by rfl) (by kernel_rfl) (by rfl) (fun K hK => ?_)
    (go_simp; go_at_call 15; refine (HL.out.2.1 _).mono ?_; rintro e w6 ⟨rfl, hb6⟩; have hB6 := bstep (bdrew (bself W)) hb6; go_wp2_with fail)
    refine hK.out _ _ ?_ (fun hHeld => ?_)
    · exact KS.out _ hB6
    clear hK K
    try simp only [Act.put, List.setIfInBounds_toArray, List.set_cons_zero, List.set_cons_succ]
    refine reg_one 14 (by rfl) (by kernel_rfl) (by rfl) (fun K hK => ?_)
    (go_simp; go_at_call 15; refine (HL.out.2.2.1 _).mono ?_; rintro e w7 ⟨rfl, hb7⟩; have hB7 := bstep hB6 hb7; go_wp2_with fail)
    refine hK.out _ _ ?_ (fun hHeld => ?_)
    · exact KS.out _ hB7
    clear hK K
    try simp only [Act.put, List.setIfInBounds_toArray, List.set_cons_zero, List.set_cons_succ]
    refine reg_take 15 (v := ?_) (by rfl) (by kernel_rfl) (by kernel_rfl) (by kernel_rfl) (fun _ _ _ h => h) (by rfl) ?_ (by assumption) ?_
    rotate_left
    · (intro wq hSq; (try dsimp only at hSq); go_split_ands; go_simp; (try with_reducible rfl))
    try simp only [Act.put, List.setIfInBounds_toArray, List.set_cons_zero, List.set_cons_succ]
    refine reg_one 18 (by rfl) (by kernel_rfl) (by rfl) (fun K hK => ?_)
    (go_simp; go_at_call 11; refine (HL.out.2.2.2 _).mono ?_; rintro e w8 ⟨rfl, hb8⟩; have hB8 := bstep hB7 hb8; go_wp2_with fail)
    refine hK.out _ _ ?_ (fun hHeld => ?_)
    · exact KS.out _ hB8
    clear hK K
    try simp only [Act.put, List.setIfInBounds_toArray, List.set_cons_zero, List.set_cons_succ]
    refine reg_take 19 (v := ?_) (by rfl) (by kernel_rfl) (by kernel_rfl) (by kernel_rfl) (fun _ _ _ h => h) (by rfl) ?_ (by assumption) ?_
    rotate_left
    · (intro wq hSq; (try dsimp only at hSq); go_split_ands; go_simp; (try with_reducible rfl))
    try simp only [Act.put, List.setIfInBounds_toArray, List.set_cons_zero, List.set_cons_succ]
    refine reg_take 20 (v := ?_) (by rfl) (by kernel_rfl) (by kernel_rfl) (by kernel_rfl) (fun _ _ _ h => h) (by rfl) ?_ (by assumption) ?_
    rotate_left
    · (intro wq hSq; (try dsimp only at hSq); go_split_ands; go_simp; (try with_reducible rfl))
    try simp only [Act.put, List.setIfInBounds_toArray, List.set_cons_zero, List.set_cons_succ]
    refine reg_take 21 (v := ?_) (by rfl) (by kernel_rfl) (by kernel_rfl) (by kernel_rfl) (fun _ _ _ h => h) (by rfl) ?_ (by assumption) ?_
    rotate_left
    · (intro wq hSq; (try dsimp only at hSq); go_split_ands; go_simp; (try with_reducible rfl))
    try simp only [Act.put, List.setIfInBounds_toArray, List.set_cons_zero, List.set_cons_succ]
    refine reg_take 22 (v := ?_) (by rfl) (by kernel_rfl) (by kernel_rfl) (by kernel_rfl) (fun _ _ _ h => h) (by rfl) ?_ (by assumption) ?_
    rotate_left
    · (intro wq hSq; (try dsimp only at hSq); go_split_ands; go_simp; (try with_reducible rfl))
    try simp only [Act.put, List.setIfInBounds_toArray, List.set_cons_zero, List.set_cons_succ]
    refine wpAnyH_done (by kernel_rfl) (noPanic_mk ?_) _
    go_wp2
    go_ret
    exact ⟨rfl, hBW.trans (hB8.mono hBW.size)⟩
theorem ikeyBack_any (a b : Ent) (w : World) (ha : a.user.size ≤ 140737488351232 ∧ a.value.size ≤ 140737488351232) (hb0 : b.user.size ≤ 140737488351232 ∧ b.value.size ≤ 140737488351232) :
    Calls Try.prog 7 #[entV a, entV b] w fun e w' => e = .returned (.bool true) ∧ Below w.heap.size w w' := by
  cases h1 : rightE a with
  | false => exact ikeyBack_no a b w ha hb0 (by rw [h1]; rfl)
  | true =>
    cases h2 : rightE b with
    | false => exact ikeyBack_no a b w ha hb0 (by rw [h1, h2]; rfl)
    | true => exact ikeyBack_yes a b w h1 h2
end Go.Proofs.Ytfdmemfdhakcbaa
