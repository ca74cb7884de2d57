/-
  What is proved here: a table's reader in memory; what open, whole and entries of it come to, at this seat's numbers. Conditions: the parts are sealed so; the lengths; the table of constants.
  a table's index on the way: the reader, its rows, their digests, the row that is filled; what stands after each step. No condition.
-/
import Derived.Test.YtchjknbideoieaaGreatDoorK14
import Derived.Test.YtchjknbideoieaaGreatDoorK43
import Derived.Test.YtchjknbideoieaaGreatDoorK25
import Derived.Test.YtchjknbideoieaaGreatDoorK05
namespace Go.Proofs.YtchjknbideoieaaGreatDoor
open Go.RowKit Go.Great
structure Rw where
  bound : List UInt8
  bytes : List UInt8
  v : Value
  leaf : Dg
def rwC (x : Rw) : List Value := [.string ⟨x.bound.toArray⟩, x.v] ++ bv x.leaf.1
theorem rwC_length (x : Rw) : (rwC x).length = 34 := by simp [rwC, dbv_len]
set_option maxRecDepth 100000 in
theorem infoRw : (Tryz.prog.info? 101).map (fun i => (i.zero, i.size, i.bytes)) = some (some (.agg ([Value.string .empty, Value.slice none 0 0] ++ bv (List.replicate 32 0)).toArray), 34, 72) := by kernel_rfl
abbrev rowRd (K : List UInt8) (va vr vi : Value) : Obj := .cells (bv K ++ [va, vr, vi]).toArray 96 (0, 0)
theorem rd_cells {w : World} {P : Nat} {K : List UInt8} {va vo vl : Value} (h : w.heap[P]? = some (rowRd K va vo vl)) (hK : K.length = 64) :
    w.rangeAt P 0 (bv K) ∧ (w.cell? ⟨P, 64, none⟩ = some va ∧ w.cell? ⟨P, 65, none⟩ = some vo ∧ w.cell? ⟨P, 66, none⟩ = some vl) ∧ (∀ k, w.frozen? ⟨P, k, none⟩ = false) ∧
    (∀ v, (w.setCell ⟨P, 65, none⟩ v).heap[P]? = some (rowRd K va v vl)) := by
  have hb : (bv K).length = 64 := by rw [bv_length, hK]
  have hc : ∀ k, w.cell? ⟨P, k, none⟩ = (bv K ++ [va, vo, vl])[k]? := fun k => by rw [cell_of_row _ _ k _ _ _ h, List.getElem?_toArray]
  refine ⟨fun j v hv => ?_, ⟨?_, ?_, ?_⟩, fun k => by simp [World.frozen?, h], fun v => ?_⟩
  · have hj := (List.getElem?_eq_some_iff.1 hv).1
    rw [hc, Nat.zero_add, List.getElem?_append_left hj, hv]
  · rw [hc, List.getElem?_append_right (by omega), hb]; rfl
  · rw [hc, List.getElem?_append_right (by omega), hb]; rfl
  · rw [hc, List.getElem?_append_right (by omega), hb]; rfl
  · simp only [World.setCell, Array.getElem?_modify, h]
    simp [List.set_append_right, hb]
set_option maxRecDepth 100000 in
set_option maxHeartbeats 2000000 in
theorem kOpenP_any (R part : Nat) (K ad x y : List UInt8) (va vr vi vy : Value) (w : World) (h : w.heap[R]? = some (rowRd K va vr vi)) (hK : K.length = 64) (hva : SB w w.heap.size va ad) (hvy : SB w w.heap.size vy y) (hy : y = sealP K ad part x)
    (hla : ad.length ≤ 1000) (hlx : x.length ≤ 1073741824) (hp : part ≤ 1000000000) (hk : KTab w 0) (h1 : 0 < w.heap.size) :
    Calls Tryz.prog 75 #[.pointer (some ⟨R, 0, none⟩), .int .i64 (part : Int), vy] w fun e w' => ∃ r, e = .returned r ∧ OB w' w.heap.size r x ∧ Below w.heap.size w w' := by
  obtain ⟨cn, hcn⟩ : ∃ cn, nonA (nonceOf part) = cn := ⟨_, rfl⟩
  obtain ⟨kk, hkk⟩ : ∃ kk, (bv K).toArray = kk := ⟨_, rfl⟩
  have hK1 : (K.take 32).length = 32 := by rw [List.length_take]; omega
  have hK2 : (K.drop 32).length = 32 := by rw [List.length_drop]; omega
  obtain ⟨Ay, cy, rfl, _, _, _⟩ := id hvy
  obtain ⟨Aa, ca, rfl, _, _, _⟩ := id hva
  have hlt : R < w.heap.size := (Array.getElem?_eq_some_iff.1 h).1
  have gp : IntKind.u64.wrap (part : Int) = (part : Int) := by rw [IntKind.wrap_u64]; omega
  have HN : Hid (∀ W, Calls Tryz.prog 94 #[.int .u64 (part : Int)] W fun e w' => e = .returned (.agg cn) ∧ Below W.heap.size W w') := Lib.hid (fun W => kNonceC part (by omega) cn hcn W)
  have HS : Hid (∀ W, Below w.heap.size w W → Calls Tryz.prog 100 #[.agg kk, .agg cn, .slice Aa ad.length ca, .slice Ay y.length cy] W fun e w' => ∃ r, e = .returned (.tuple #[r, .int .i64 0]) ∧ OB w' W.heap.size r x ∧ Below W.heap.size W w') := Lib.hid (fun W hW => by
    have zW := hW.size
    exact kOpen_any (K.take 32) (K.drop 32) (nonceOf part) ad x y hK1 hK2 (nonce_len part) kk cn (by rw [List.take_append_drop]; exact hkk) hcn hy _ _ W (hva.on hW) (hvy.on hW) (by omega) (by omega) (hk.on hW (by omega)) (by omega))
  have KS : Hid (∀ W, Below w.heap.size w W → W.rangeAt R 0 (bv K) ∧ W.cell? ⟨R, 64, none⟩ = some (.slice Aa ad.length ca)) := Lib.hid (fun W hW => by
    have hr := rd_cells ((hW.block R hlt).trans h) hK
    exact ⟨hr.1, hr.2.1.1⟩)
  have HNd := Lib.hid kNeed_true
  clear h hy
  go_enter Tryz.func75, Tryz.ntmps75
  go_upto_region 1 with fail
  refine wp_region_noPanic ?_
  refine wp_region_held_drew (S := fun w' => True ∧ (w'.rangeAt R 0 (bv K) ∧ w'.cell? ⟨R, 64, none⟩ = some (.slice Aa ad.length ca))) (by kernel_rfl) ⟨trivial, KS.out _ (bdrew (bself w))⟩ (fun hHeld => ?_)
  refine rtk 0 ?_ ?_ ?_
  rotate_left
  · (intro wq hSq; (try dsimp only at hSq); go_split_ands; go_simp; (try with_reducible rfl))
  try simp only [Act.put, q1, q2, q3]
  refine rtk 1 ?_ ?_ ?_
  rotate_left
  · (intro wq hSq; (try dsimp only at hSq); go_split_ands; go_simp; (try with_reducible rfl))
  try simp only [Act.put, q1, q2, q3]
  refine rtk 2 ?_ ?_ ?_
  rotate_left
  · (intro wq hSq; (try dsimp only at hSq); go_split_ands; go_simp; (try with_reducible rfl))
  try simp only [Act.put, q1, q2, q3]
  refine reg_take 3 (v := .agg (bv K).toArray) (by rfl) (by kernel_rfl) (by kernel_rfl) (by kernel_rfl) (fun _ _ _ h => h) (by rfl) ?_ (by assumption) ?_
  · (intro wq hSq; exact exec_loadKeyM (.tmp 12) rfl R 0 rfl K hK hSq.2.1)
  try simp only [Act.put, q1, q2, q3]
  rw [hkk]
  refine rtk 4 ?_ ?_ ?_
  rotate_left
  · (intro wq hSq; (try dsimp only at hSq); go_split_ands; go_simp; (try with_reducible rfl))
  try simp only [Act.put, q1, q2, q3]
  refine rtk 5 ?_ ?_ ?_
  rotate_left
  · (intro wq hSq; (try dsimp only at hSq); go_split_ands; go_simp; (try with_reducible rfl))
  try simp only [Act.put, q1, q2, q3]
  refine rtk 7 ?_ ?_ ?_
  rotate_left
  · (intro wq hSq; (try dsimp only at hSq); go_split_ands; go_simp; (try with_reducible rfl))
  try simp only [Act.put, q1, q2, q3]
  refine rtk 8 ?_ ?_ ?_
  rotate_left
  · (intro wq hSq; (try dsimp only at hSq); go_split_ands; go_simp; (try with_reducible rfl))
  try simp only [Act.put, q1, q2, q3]
  refine rtk 9 ?_ ?_ ?_
  rotate_left
  · (intro wq hSq; (try dsimp only at hSq); go_split_ands; go_simp; (try with_reducible rfl))
  try simp only [Act.put, q1, q2, q3]
  refine rtk 10 ?_ ?_ ?_
  rotate_left
  · (intro wq hSq; (try dsimp only at hSq); go_split_ands; go_simp; (try with_reducible rfl))
  try simp only [Act.put, q1, q2, q3]
  refine rtk 11 ?_ ?_ ?_
  rotate_left
  · (intro wq hSq; (try dsimp only at hSq); go_split_ands; go_simp; (try with_reducible rfl))
  try simp only [Act.put, q1, q2, q3]
  refine reg_one 6 (by rfl) (by kernel_rfl) (by rfl) (fun K hK => ?_)
  (go_simp; go_at_call 94; refine (HN.out _).mono ?_; rintro _ w1 ⟨rfl, hb1⟩; have b1 := bstep (bdrew (bself w)) hb1; go_wp2_with fail)
  refine hK.out _ _ ?_ (fun hHeld => ?_)
  · exact ⟨trivial, KS.out _ b1⟩
  clear hK K
  try simp only [Act.put, q1, q2, q3]
  refine reg_one 12 (by rfl) (by kernel_rfl) (by rfl) (fun K hK => ?_)
  (go_simp; go_at_call 100; refine (HS.out _ b1).mono ?_; rintro _ w2 ⟨r7, rfl, ho7, hb2⟩; have b2 := bstep b1 hb2; go_wp2_with fail)
  refine hK.out _ _ ?_ (fun hHeld => ?_)
  · exact ⟨trivial, KS.out _ b2⟩
  clear hK K
  try simp only [Act.put, q1, q2, q3]
  refine rtk 13 ?_ ?_ ?_
  rotate_left
  · (intro wq hSq; (try dsimp only at hSq); go_split_ands; go_simp; (try with_reducible rfl))
  try simp only [Act.put, q1, q2, q3]
  refine rtk 14 ?_ ?_ ?_
  rotate_left
  · (intro wq hSq; (try dsimp only at hSq); go_split_ands; go_simp; (try with_reducible rfl))
  try simp only [Act.put, q1, q2, q3]
  refine rtk 15 ?_ ?_ ?_
  rotate_left
  · (intro wq hSq; (try dsimp only at hSq); go_split_ands; go_simp; (try with_reducible rfl))
  try simp only [Act.put, q1, q2, q3]
  refine rtk 16 ?_ ?_ ?_
  rotate_left
  · (intro wq hSq; (try dsimp only at hSq); go_split_ands; go_simp; (try with_reducible rfl))
  try simp only [Act.put, q1, q2, q3]
  refine rtk 17 ?_ ?_ ?_
  rotate_left
  · (intro wq hSq; (try dsimp only at hSq); go_split_ands; go_simp; (try with_reducible rfl))
  try simp only [Act.put, q1, q2, q3]
  refine wpAnyH_done (by kernel_rfl) (noPanic_mk ?_) _
  have hw1 := b1.size
  clear HN HS KS hHeld
  go_wp2_with (go_at_call 62; refine (HNd.out _).mono ?_; rintro _ w3 ⟨rfl, rfl⟩)
  go_ret
  exact ⟨_, rfl, ho7.rebase hw1, b2⟩
def RdT (w : World) (R : Nat) (K ad : List UInt8) (rows : List Rw) : Prop :=
  ∃ va vr vi, w.heap[R]? = some (rowRd K va vr vi) ∧ SB w w.heap.size va ad ∧ SG rwC 34 w w.heap.size vr rows ∧ ∀ x ∈ rows, SB w w.heap.size x.v x.bytes ∧ x.leaf = leafD x.bytes
theorem RdT.on {w w' : World} {R : Nat} {K ad : List UInt8} {rows : List Rw} (h : RdT w R K ad rows) (hb : Below w.heap.size w w') : RdT w' R K ad rows := by
  obtain ⟨va, vr, vi, h1, h2, h3, h4⟩ := h
  exact ⟨va, vr, vi, (hb.block R (Array.getElem?_eq_some_iff.1 h1).1).trans h1, h2.on hb, h3.on hb, fun x hx => ⟨(h4 x hx).1.on hb, (h4 x hx).2⟩⟩
theorem rw_cells {w : World} {g : Nat} {x : Rw} {xc : Array Value} (h : w.heap[g]? = some (.cells xc 101 (0, 0))) (hx : (rwC x).toArray = xc) : w.cell? ⟨g, 0, none⟩ = some (.string ⟨x.bound.toArray⟩) ∧ w.cell? ⟨g, 1, none⟩ = some x.v ∧ w.rangeAt g 2 (bv x.leaf.1) := by
  subst hx
  refine ⟨cell_of_row _ _ 0 _ _ _ h, cell_of_row _ _ 1 _ _ _ h, fun j v hv => ?_⟩
  rw [cell_of_row _ _ (2 + j) _ _ _ h, List.getElem?_toArray]
  unfold rwC
  rw [List.getElem?_append_right (by simp), ← hv]
  congr 1
  simp
theorem SB.oneCell {w : World} {B : Nat} {v : Value} {l : List UInt8} (h : SB w B v l) : v.oneCell' = true := by
  obtain ⟨A, c, rfl, _⟩ := h
  rfl
set_option maxRecDepth 100000 in
set_option maxHeartbeats 2000000 in
theorem kWhole_any (R at_ part : Nat) (K ad x : List UInt8) (rows : List Rw) (w : World) (h : RdT w R K ad rows) (hK : K.length = 64) (hat : at_ < rows.length) (hy : rows[at_].bytes = sealP K ad part x)
    (hla : ad.length ≤ 1000) (hlx : x.length ≤ 1073741824) (hp : part ≤ 1000000000) (hk : KTab w 0) (h1 : 0 < w.heap.size) :
    Calls Tryz.prog 37 #[.pointer (some ⟨R, 0, none⟩), .int .i64 (at_ : Int), .int .i64 (part : Int)] w fun e w' => ∃ r, e = .returned r ∧ OB w' w.heap.size r x ∧ Below w.heap.size w w' := by
  obtain ⟨va, vr, vi, hrow, hva, hsr, hall⟩ := h
  obtain ⟨y, hyx⟩ : ∃ y, y = rows[at_] := ⟨_, rfl⟩
  obtain ⟨hyv, hyl⟩ := hall rows[at_] (List.getElem_mem hat)
  obtain ⟨b, o, cr, rfl, hbB, hrg⟩ := hsr.at_ rwC_length (by omega)
  have hr := hrg at_ hat
  rw [← hyx] at hr hyv hyl hy
  obtain ⟨n, hn⟩ : ∃ n, n = rows.length := ⟨_, rfl⟩
  rw [← hn] at hsr hrow
  have hatn : (at_ : Int) < (n : Int) := by omega
  have hylen : y.bytes.length = x.length + 16 := by rw [hy]; exact sealP_length _ _ _ _
  obtain ⟨xc, hxc⟩ : ∃ xc, (rwC y).toArray = xc := ⟨_, rfl⟩
  obtain ⟨c, hc⟩ : ∃ c, dgA (leafD y.bytes).1 = c := ⟨_, rfl⟩
  have HX : Hid (xc.size = 34 ∧ ∀ v ∈ xc.toList, v.oneCell' = true) := Lib.hid (by
    rw [← hxc]
    refine ⟨by simp [rwC_length], fun v hv => ?_⟩
    rcases List.mem_append.1 hv with h | h
    · simp only [List.mem_cons, List.not_mem_nil, or_false] at h
      rcases h with h | h
      · rw [h]; rfl
      · rw [h]; exact hyv.oneCell
    · exact bv_one _ v h)
  have hR := (rd_cells hrow hK).2.1.2.1
  have hlt : R < w.heap.size := (Array.getElem?_eq_some_iff.1 hrow).1
  have HRow := Lib.hid hrow
  have HEq : Hid (∀ w', (Op.equalIn 10000 53 (.agg c) (.agg c)).run Tryz.prog w' = .ok true w') := Lib.hid (fun w' => run_eqC w' c _ (leafD y.bytes).2 hc)
  have HLf : Hid (∀ W, Below w.heap.size w W → Calls Tryz.prog 80 #[y.v] W fun e w' => e = .returned (.agg c) ∧ Below W.heap.size W w') := Lib.hid (fun W hW => kLeaf_any y.bytes c hc _ W (hyv.on hW) (by omega) (hk.on hW h1) (by have := hW.size; omega))
  have HOp : Hid (∀ W, Below w.heap.size w W → Calls Tryz.prog 75 #[.pointer (some ⟨R, 0, none⟩), .int .i64 (part : Int), y.v] W fun e w' => ∃ r, e = .returned r ∧ OB w' W.heap.size r x ∧ Below W.heap.size W w') := Lib.hid (fun W hW =>
    kOpenP_any R part K ad x _ _ _ _ _ W ((hW.block R hlt).trans HRow.out) hK (hva.on hW) (hyv.on hW) hy hla hlx hp (hk.on hW h1) (by have := hW.size; omega))
  obtain ⟨Av, cv, hyvf, _, _, _⟩ := id hyv
  have HLc : Hid ((bv y.leaf.1).toArray = c) := Lib.hid (by rw [hyl]; exact hc)
  have HXC := Lib.hid hxc
  have hr2 : w.rangeAt b (o + at_ * 34) (rwC y) := hr
  have HNd := Lib.hid kNeed_true
  obtain ⟨yb, hyb⟩ : ∃ yb, yb = y.bytes.length := ⟨_, rfl⟩
  have HYF : Hid (y.v = .slice Av yb cv) := Lib.hid (by rw [hyb]; exact hyvf)
  clear hrow hva hsr hall hyx hyv hyl hy hn hxc hc hrg hr hylen hyvf hyb
  go_enter Tryz.func37, Tryz.ntmps37
  go_upto_region 2 with (first | (refine wpList_load_mid rfl 101 (.tmp 13) rfl b (o + at_ * 34) rfl (rwC y) _ hr2 Tryz.underlying101 rfl (by rw [rwC_length]; kernel_rfl) ?_; rw [HXC.out]) | (refine wl_storeT 101 (n := 34) (by kernel_rfl) rfl (.tmp 7) (.tmp 14) rfl _ rfl _ xc rfl (heap_alloc_new _ (.cells ([Value.string .empty, Value.slice none 0 0] ++ bv (List.replicate 32 0)).toArray 101)) (by rfl) HX.out.1 HX.out.2 ?_))
  simp only [Act.put]
  generalize hW1 : World.setRow _ _ _ = w1
  have hX1 : w1.heap[w.heap.size]? = some (.cells xc 101 (0, 0)) := by rw [← hW1]; exact setRow_heap _ _ _ _ _ _ (heap_alloc_new _ _)
  have b1 : Below w.heap.size w w1 := by rw [← hW1]; exact below_setRow (balloc (bself w) _) (Nat.le_refl _) _
  have z1 : w.heap.size < w1.heap.size := (Array.getElem?_eq_some_iff.1 hX1).1
  have KS : Hid (∀ W, Below w1.heap.size w1 W → W.cell? ⟨w.heap.size, 1, none⟩ = some (.slice Av yb cv) ∧ W.rangeAt w.heap.size 2 (bv y.leaf.1)) := Lib.hid (fun W hW => by
    obtain ⟨_, k1, k2⟩ := rw_cells ((hW.block _ z1).trans hX1) HXC.out
    exact ⟨by rw [k1, HYF.out], k2⟩)
  have HLc2 := HLc.out
  rw [HYF.out] at HLf HOp
  clear hW1 hX1 hr2 hR
  refine wp_region_noPanic ?_
  refine wp_region_held_drew (S := fun w' => True ∧ w'.cell? ⟨w.heap.size, 1, none⟩ = some (.slice Av yb cv) ∧ w'.rangeAt w.heap.size 2 (bv y.leaf.1)) (by kernel_rfl) ⟨trivial, KS.out _ (bdrew (bself w1))⟩ (fun hHeld => ?_)
  refine rtk 0 ?_ ?_ ?_
  rotate_left
  · (intro wq hSq; (try dsimp only at hSq); go_split_ands; go_simp; (try with_reducible rfl))
  try simp only [Act.put, q1, q2, q3]
  refine rtk 1 ?_ ?_ ?_
  rotate_left
  · (intro wq hSq; (try dsimp only at hSq); go_split_ands; go_simp; (try with_reducible rfl))
  try simp only [Act.put, q1, q2, q3]
  refine rtk 3 ?_ ?_ ?_
  rotate_left
  · (intro wq hSq; (try dsimp only at hSq); go_split_ands; go_simp; (try with_reducible rfl))
  try simp only [Act.put, q1, q2, q3]
  refine reg_take 4 (v := .agg (dgA y.leaf.1)) (by rfl) (by kernel_rfl) (by kernel_rfl) (by kernel_rfl) (fun _ _ _ h => h) (by rfl) ?_ (by assumption) ?_
  · (intro wq hSq; exact exec_loadM (.tmp 18) rfl _ 2 rfl y.leaf hSq.2.2)
  try simp only [Act.put, q1, q2, q3]
  rw [show dgA y.leaf.1 = c from HLc2]
  refine reg_one 2 (by rfl) (by kernel_rfl) (by rfl) (fun K hK => ?_)
  (go_simp; go_at_call 80; refine (HLf.out _ (b1.trans ((bdrew (bself w1)).mono (by omega)))).mono ?_; rintro _ w2 ⟨rfl, hb2⟩; have b2 := bstep (bdrew (bself w1)) hb2; go_wp2_with fail)
  refine hK.out _ _ ?_ (fun hHeld => ?_)
  · exact ⟨trivial, KS.out _ b2⟩
  clear hK K
  try simp only [Act.put, q1, q2, q3]
  have hEq := HEq.out
  refine rtk 5 ?_ ?_ ?_
  rotate_left
  · (intro wq hSq; (try dsimp only at hSq); go_split_ands; go_simp; (try with_reducible rfl))
  try simp only [Act.put, q1, q2, q3]
  refine reg_one 6 (by rfl) (by kernel_rfl) (by rfl) (fun K hK => ?_)
  (go_simp; go_at_call 62; refine (HNd.out _).mono ?_; rintro _ w3 ⟨rfl, rfl⟩; go_wp2_with fail)
  refine hK.out _ _ ?_ (fun hHeld => ?_)
  · exact ⟨trivial, KS.out _ b2⟩
  clear hK K
  try simp only [Act.put, q1, q2, q3]
  refine wpAnyH_done (by kernel_rfl) (noPanic_mk ?_) _
  have c1 := (KS.out _ b2).1
  have bb2 : Below w.heap.size w _ := b1.trans (b2.mono (by omega))
  clear hEq hHeld KS HLf HLc2
  go_wp2_with (go_at_call 75; refine (HOp.out _ bb2).mono ?_; rintro _ w4 ⟨r4, rfl, ho4, hb4⟩)
  go_ret
  exact ⟨_, rfl, ho4.rebase bb2.size, bstep bb2 hb4⟩
set_option maxRecDepth 100000 in
set_option maxHeartbeats 2000000 in
theorem kEntries_any (R at_ ev : Nat) (K ad : List UInt8) (l : List Ent) (rows : List Rw) (w : World) (h : RdT w R K ad rows) (hK : K.length = 64) (hat : at_ < rows.length) (hy : rows[at_].bytes = sealP K ad (2 + at_) (blockB ev l)) (hr : readB (blockB ev l) = (l, 0))
    (hla : ad.length ≤ 1000) (hlx : (blockB ev l).length ≤ 1073741824) (hp : at_ ≤ 900000000) (hk : KTab w 0) (h1 : 0 < w.heap.size) :
    Calls Tryz.prog 40 #[.pointer (some ⟨R, 0, none⟩), .int .i64 (at_ : Int)] w fun e w' => ∃ r, e = .returned r ∧ OE w' w.heap.size r l ∧ Below w.heap.size w w' := by
  have HW : Hid (Calls Tryz.prog 37 #[.pointer (some ⟨R, 0, none⟩), .int .i64 (at_ : Int), .int .i64 (2 + (at_ : Int))] w fun e w' => ∃ r, e = .returned r ∧ OB w' w.heap.size r (blockB ev l) ∧ Below w.heap.size w w') := Lib.hid (by
    have := kWhole_any R at_ (2 + at_) K ad (blockB ev l) rows w h hK hat hy hla hlx (by omega) hk h1
    rw [show ((2 + at_ : Nat) : Int) = 2 + (at_ : Int) by omega] at this
    exact this)
  have HR : Hid (∀ (v : Value) W, SB W W.heap.size v (blockB ev l) → Calls Tryz.prog 83 #[v] W fun e w' => ∃ r, e = .returned (.tuple #[r, .int .i64 0]) ∧ OE w' W.heap.size r l ∧ Below W.heap.size W w') := Lib.hid (fun v W hv => by
    refine (kRead_any v _ W hv hlx).mono ?_
    intro e w' he
    rw [hr] at he
    exact he)
  have g1 : IntKind.i64.wrap (2 + (at_ : Int)) = 2 + (at_ : Int) := IntWalk.i64_in _ (by omega)
  have HNd := Lib.hid kNeed_true
  clear h hy hr hat
  go_enter Tryz.func40, Tryz.ntmps40
  go_wp2_with (first | (go_at_call 37; refine HW.out.mono ?_; rintro _ w1 ⟨r1, rfl, ho1, hb1⟩) | (go_at_call 83; refine (HR.out _ _ ho1.sb).mono ?_; rintro _ w2 ⟨r2, rfl, ho2, hb2⟩) | (go_at_call 62; refine (HNd.out _).mono ?_; rintro _ w3 ⟨rfl, rfl⟩))
  go_ret
  exact ⟨_, rfl, own_base ho2 hb1.size, bstep hb1 hb2⟩
end Go.Proofs.YtchjknbideoieaaGreatDoor
namespace Go.Proofs.YtchjknbideoieaaGreatDoor
open Go.RowKit Go.Great
structure BgAt (wr : World) (base R RI : Nat) (K : List UInt8) (va vi vr vl : Value) (rows : List Rw) (txt : List UInt8) : Prop where
  row : wr.heap[R]? = some (rowRd K va vr vi)
  orow : OG 101 rwC 34 wr base vr rows
  olv : OD wr base vl (rows.map (·.leaf))
  rdr : RdrAt wr RI txt 0
  lo : R < RI
  hi : RI < base
  ap : Ap vr vl
section
variable {wr w' : World} {base R RI : Nat} {K : List UInt8} {va vi vr vl : Value} {rows : List Rw} {txt txt' : List UInt8}
theorem BgAt.on (h : BgAt wr base R RI K va vi vr vl rows txt) (hb : Below wr.heap.size wr w') : BgAt w' base R RI K va vi vr vl rows txt :=
  ⟨(hb.block R (Array.getElem?_eq_some_iff.1 h.row).1).trans h.row, h.orow.below hb (Nat.le_refl _), h.olv.below hb (Nat.le_refl _), h.rdr.on hb (Nat.le_refl _), h.lo, h.hi, h.ap⟩
theorem BgAt.step (h : BgAt wr base R RI K va vi vr vl rows txt) (hg : wr.grownBy w' (some RI)) (hr : RdrAt w' RI txt' 0) : BgAt w' base R RI K va vi vr vl rows txt' :=
  ⟨(hg.block R (Array.getElem?_eq_some_iff.1 h.row).1 (fun e => by injection e with e; have := h.lo; omega)).trans h.row,
   h.orow.grown hg (by rcases hv : vr.ownBlock with _ | g; exact .inl rfl; exact .inr (fun e => by injection e with e; have := (h.orow.lt g hv).1; have := h.hi; omega)),
   h.olv.grown hg (by rcases hv : vl.ownBlock with _ | g; exact .inl rfl; exact .inr (fun e => by injection e with e; have := (h.olv.lt g hv).1; have := h.hi; omega)), hr, h.lo, h.hi, h.ap⟩
theorem BgAt.far (h : BgAt wr base R RI K va vi vr vl rows txt) {X : Nat} (hg : wr.grownBy w' (some X)) (hX : base ≤ X) (h1 : vr.ownBlock ≠ some X) (h2 : vl.ownBlock ≠ some X) : BgAt w' base R RI K va vi vr vl rows txt :=
  ⟨(hg.block R (Array.getElem?_eq_some_iff.1 h.row).1 (fun e => by injection e with e; have := h.lo; have := h.hi; omega)).trans h.row,
   h.orow.grown hg (.inr h1), h.olv.grown hg (.inr h2), h.rdr.far hg (fun g e => by injection e with e; rw [← e]; have := h.hi; omega), h.lo, h.hi, h.ap⟩
end
theorem RdrAt.setOther {w : World} {R bad : Nat} {rest : List UInt8} (h : RdrAt w R rest bad) {p : Addr} (hp : p.block ≠ R) (hn : ∀ b : UInt8, w.cell? p ≠ some (u8v b)) (v : Value) : RdrAt (w.setCell p v) R rest bad := by
  obtain ⟨A, c, h1, h2, h3, h4, h5, h6⟩ := h
  refine ⟨A, c, (Below.heap_setCell _ _ _ _ (fun e => hp e.symm)).trans h1, h2, h3, h4, h5, fun ad e hn0 => ?_⟩
  obtain ⟨hs, hb, hc⟩ := h6 ad e hn0
  refine ⟨hs, hb, fun j u hu => ?_⟩
  have hcj := hc j u hu
  rw [World.cell?_setCell_other w p ⟨ad.block, ad.off + j, none⟩ v (fun e2 => ?_)]
  · exact hcj
  · rw [← e2] at hcj
    obtain ⟨b, _, rfl⟩ := List.mem_map.1 (List.mem_of_getElem? hu)
    exact hn b hcj
theorem BgAt.push {wr w7 : World} {base R RI : Nat} {K : List UInt8} {va vi vr vl vr' : Value} {rows : List Rw} {txt : List UInt8} {x : Rw} (h : BgAt wr base R RI K va vi vr vl rows txt) (hK : K.length = 64)
    (ho : OG 101 rwC 34 w7 base vr' (rows ++ [x])) (hg : wr.grownBy w7 vr.ownBlock) (hfs : FS wr.heap.size vr vr') :
    (w7.setCell ⟨R, 65, none⟩ vr').heap[R]? = some (rowRd K va vr' vi) ∧ OG 101 rwC 34 (w7.setCell ⟨R, 65, none⟩ vr') base vr' (rows ++ [x]) ∧ OD (w7.setCell ⟨R, 65, none⟩ vr') base vl (rows.map (·.leaf)) ∧ RdrAt (w7.setCell ⟨R, 65, none⟩ vr') RI txt 0 ∧ Ap vr' vl := by
  have hlt := (Array.getElem?_eq_some_iff.1 h.row).1
  have hlo := h.lo
  have hhi := h.hi
  have hnR : vr.ownBlock ≠ some R := fun e => by have := (h.orow.lt R e).1; omega
  have hnL : vl.ownBlock ≠ some R := fun e => by have := (h.olv.lt R e).1; omega
  have hr7 : w7.heap[R]? = some (rowRd K va vr vi) := (hg.block R hlt (fun e => hnR e.symm)).trans h.row
  have gs := grown_set (p := ⟨R, 65, none⟩) w7 (g := R) rfl vr'
  have hrd7 : RdrAt w7 RI txt 0 := h.rdr.far hg (fun g e => by have := (h.orow.lt g e).1; omega)
  refine ⟨(rd_cells hr7 hK).2.2.2 vr', ho.grown gs (.inr (hfs.ne hnR hlt)), (h.olv.grown hg h.ap.symm).grown gs (.inr hnL), hrd7.setOther (by show R ≠ RI; omega) (fun b e => ?_) _, h.ap.left (fun k hk => (h.olv.lt k hk).2) hfs⟩
  have hc := (rd_cells hr7 hK).2.1.2.1
  rw [hc] at e
  have hv := Sl.of_own h.orow
  obtain ⟨A, c, rfl, _⟩ := hv
  cases e
theorem BgAt.leaf {w w' : World} {base R RI : Nat} {K : List UInt8} {va vi vr vl vl' : Value} {rows : List Rw} {txt : List UInt8} {lvs lvs' : List Dg} (hrow : w.heap[R]? = some (rowRd K va vr vi)) (ho : OG 101 rwC 34 w base vr rows) (hl : OD w base vl lvs) (hr : RdrAt w RI txt 0) (ap : Ap vr vl)
    (lo : R < RI) (hi : RI < base) (ho2 : OD w' base vl' lvs') (hg : w.grownBy w' vl.ownBlock) (hfs : FS w.heap.size vl vl') (hm : lvs' = rows.map (·.leaf)) : BgAt w' base R RI K va vi vr vl' rows txt :=
  ⟨(hg.block R (Array.getElem?_eq_some_iff.1 hrow).1 (fun e => by have := (hl.lt R e.symm).1; omega)).trans hrow, ho.grown hg ap, by rw [← hm]; exact ho2, hr.far hg (fun g e => by have := (hl.lt g e).1; omega), lo, hi, ap.right (fun k hk => (ho.lt k hk).2) hfs⟩
theorem rw_one {x : Rw} (h : x.v.oneCell' = true) : ∀ u ∈ rwC x, u.oneCell' = true := by
  intro u hu
  rcases List.mem_append.1 hu with h1 | h1
  · simp only [List.mem_cons, List.not_mem_nil, or_false] at h1
    rcases h1 with h1 | h1
    · rw [h1]; rfl
    · rw [h1]; exact h
  · exact bv_one _ u h1
theorem BgAt.rowKeep {w w' : World} {base R RI : Nat} {K : List UInt8} {va vi vr vl : Value} {rows : List Rw} {txt : List UInt8} (h : BgAt w base R RI K va vi vr vl rows txt) (hg : w.grownBy w' vr.ownBlock) : w'.heap[R]? = some (rowRd K va vr vi) :=
  (hg.block R (Array.getElem?_eq_some_iff.1 h.row).1 (fun e => by have := (h.orow.lt R e.symm).1; have := h.lo; have := h.hi; omega)).trans h.row
theorem BgAt.belowPush {w0 w w' : World} {B base R RI : Nat} {K : List UInt8} {va vi vr vl v : Value} {rows : List Rw} {txt : List UInt8} (h : BgAt w base R RI K va vi vr vl rows txt) (hb : Below B w0 w) (hg : w.grownBy w' vr.ownBlock) (hB : B ≤ R) (hz : B ≤ w.heap.size) : Below B w0 (w'.setCell ⟨R, 65, none⟩ v) :=
  (below_grown hb hg hz (fun g e => by have := (h.orow.lt g e).1; have := h.lo; have := h.hi; omega)).setCell (by exact hB) _
abbrev rowRw (s : ByteArray) (u : Value) (l : List UInt8) : Obj := .cells ([.string s, u] ++ bv l).toArray 101 (0, 0)
theorem rx_cells {w : World} {X : Nat} {s : ByteArray} {u : Value} {l : List UInt8} (h : w.heap[X]? = some (rowRw s u l)) :
    (w.cell? ⟨X, 0, none⟩ = some (.string s) ∧ w.cell? ⟨X, 1, none⟩ = some u) ∧ w.rangeAt X 2 (bv l) ∧ (∀ k, w.frozen? ⟨X, k, none⟩ = false) := by
  refine ⟨⟨cell_of_row _ _ 0 _ _ _ h, cell_of_row _ _ 1 _ _ _ h⟩, fun j v hv => ?_, fun k => by simp [World.frozen?, h]⟩
  rw [cell_of_row _ _ (2 + j) _ _ _ h, List.getElem?_toArray, List.getElem?_append_right (by simp), ← hv]
  congr 1
  simp
theorem rx_set {w : World} {X : Nat} {s : ByteArray} {u : Value} {l : List UInt8} (h : w.heap[X]? = some (rowRw s u l)) :
    (∀ s', (w.setCell ⟨X, 0, none⟩ (.string s')).heap[X]? = some (rowRw s' u l)) ∧ (∀ u', (w.setCell ⟨X, 1, none⟩ u').heap[X]? = some (rowRw s u' l)) ∧ (∀ j b, (w.setCell ⟨X, 2 + j, none⟩ (u8v b)).heap[X]? = some (rowRw s u (l.set j b))) := by
  refine ⟨fun s' => ?_, fun u' => ?_, fun j b => ?_⟩
  · simp [World.setCell, Array.getElem?_modify, h]
  · simp [World.setCell, Array.getElem?_modify, h]
  · simp only [World.setCell, Array.getElem?_modify, h]
    simp [bv, List.map_set]
    rw [show 2 + j = j + 1 + 1 by omega, List.set_cons_succ, List.set_cons_succ]
structure BxAt (w : World) (base R RI X : Nat) (K : List UInt8) (va vi vr vl : Value) (rows : List Rw) (txt : List UInt8) (s : ByteArray) (u : Value) (l : List UInt8) : Prop where
  bg : BgAt w base R RI K va vi vr vl rows txt
  rX : w.heap[X]? = some (rowRw s u l)
  hX : base ≤ X
  nr : vr.ownBlock ≠ some X
  nl : vl.ownBlock ≠ some X
section
variable {w w' : World} {base R RI X : Nat} {K : List UInt8} {va vi vr vl : Value} {rows : List Rw} {txt txt' : List UInt8} {s : ByteArray} {u : Value} {l : List UInt8}
theorem BgAt.box (h : BgAt w base R RI K va vi vr vl rows txt) (hb : base ≤ w.heap.size) (s : ByteArray) (u : Value) (l : List UInt8) : BxAt (w.alloc (rowRw s u l)) base R RI w.heap.size K va vi vr vl rows txt s u l :=
  ⟨h.on (balloc (bself w) _), heap_alloc_new w _, hb, fun e => by have := (h.orow.lt _ e).2; omega, fun e => by have := (h.olv.lt _ e).2; omega⟩
theorem BxAt.step (h : BxAt w base R RI X K va vi vr vl rows txt s u l) (hg : w.grownBy w' (some RI)) (hr : RdrAt w' RI txt' 0) : BxAt w' base R RI X K va vi vr vl rows txt' s u l :=
  ⟨h.bg.step hg hr, (hg.block X (Array.getElem?_eq_some_iff.1 h.rX).1 (fun e => by injection e with e; have := h.hX; have := h.bg.hi; omega)).trans h.rX, h.hX, h.nr, h.nl⟩
theorem BxAt.set0 (h : BxAt w base R RI X K va vi vr vl rows txt s u l) (s' : ByteArray) : BxAt (w.setCell ⟨X, 0, none⟩ (.string s')) base R RI X K va vi vr vl rows txt s' u l :=
  ⟨h.bg.far (grown_set w (p := ⟨X, 0, none⟩) rfl _) h.hX h.nr h.nl, (rx_set h.rX).1 s', h.hX, h.nr, h.nl⟩
theorem BxAt.set1 (h : BxAt w base R RI X K va vi vr vl rows txt s u l) (u' : Value) : BxAt (w.setCell ⟨X, 1, none⟩ u') base R RI X K va vi vr vl rows txt s u' l :=
  ⟨h.bg.far (grown_set w (p := ⟨X, 1, none⟩) rfl _) h.hX h.nr h.nl, (rx_set h.rX).2.1 u', h.hX, h.nr, h.nl⟩
theorem BxAt.set2 (h : BxAt w base R RI X K va vi vr vl rows txt s u l) (j : Nat) (b : UInt8) : BxAt (w.setCell ⟨X, 2 + j, none⟩ (u8v b)) base R RI X K va vi vr vl rows txt s u (l.set j b) :=
  ⟨h.bg.far (grown_set w (p := ⟨X, 2 + j, none⟩) rfl _) h.hX h.nr h.nl, (rx_set h.rX).2.2 j b, h.hX, h.nr, h.nl⟩
theorem BxAt.drew (h : BxAt w base R RI X K va vi vr vl rows txt s u l) : BxAt w.drew base R RI X K va vi vr vl rows txt s u l := ⟨h.bg.on (bdrew (bself w)), h.rX, h.hX, h.nr, h.nl⟩
end
end Go.Proofs.YtchjknbideoieaaGreatDoor
