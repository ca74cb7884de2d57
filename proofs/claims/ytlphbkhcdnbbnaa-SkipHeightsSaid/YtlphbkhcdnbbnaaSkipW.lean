/-
  What is proved here: words for a list of nodes in memory; what New, ahead and seek of package skip come to, at this seat's numbers.
-/
import Derived.Test.YtlphbkhcdnbbnaaIkeyW
import Derived.Test.YtlphbkhcdnbbnaaSkipLaw
import Derived.Test.YtlphbkhcdnbbnaaRowEnt
import Derived.Test.YtlphbkhcdnbbnaaRegion
import Derived.BigQuiet
import Derived.WalkLawsBesides
namespace Go.Proofs.Ytlphbkhcdnbbnaa
open Go.RowKit

def ndC (d : Nd) : List Value := entC d.e ++ (List.range 12).map (fun k => .int .i64 (d.nx k : Int))
theorem ndC_length (d : Nd) : (ndC d).length = 16 := by simp [ndC, entC]
theorem ndC_nx (d : Nd) (k : Nat) (hk : k < 12) : (ndC d)[4 + k]? = some (.int .i64 (d.nx k : Int)) := by
  unfold ndC
  rw [List.getElem?_append_right (by simp [entC])]
  simp [entC, hk]
theorem ndC_ent (d : Nd) : (ndC d)[0]? = some (.string d.e.user) ∧ (ndC d)[1]? = some (.int .u64 (d.e.seq.toNat : Int)) ∧ (ndC d)[2]? = some (.int .u8 (d.e.kind.toNat : Int)) ∧ (ndC d)[3]? = some (.string d.e.value) := by
  simp [ndC, entC]
theorem infoN : (Try.prog.info? 60).map (fun i => (i.zero, i.size, i.bytes)) = some (some (.agg #[.string .empty, .int .u64 0, .int .u8 0, .string .empty, .int .i64 0, .int .i64 0, .int .i64 0, .int .i64 0, .int .i64 0, .int .i64 0, .int .i64 0, .int .i64 0, .int .i64 0, .int .i64 0, .int .i64 0, .int .i64 0]), 16, 144) := by kernel_rfl
/-- THE SLICE VALUE v OWNS THE NODES ns -/
def ON (w : World) (base : Nat) (v : Value) (ns : List Nd) : Prop := w.ownsRow base 60 16 v ns.length (ns.flatMap ndC)
/-- block L is a list: its nodes, how much they count -/
def LiAt (w : World) (base L : Nat) (ns : List Nd) (sz : Nat) : Prop :=
  ∃ g n cap, w.heap[L]? = some (.cells #[.slice (some ⟨g, 0, none⟩) n cap, .int .i64 (sz : Int)] 56 (0, 0)) ∧ n = ns.length ∧ ON w base (.slice (some ⟨g, 0, none⟩) n cap) ns ∧ g ≠ L ∧ base ≤ L ∧ base ≤ g ∧ g < w.heap.size
section
variable {w w' : World} {base L g n cap sz : Nat} {ns : List Nd}
theorem ON.cell (h : ON w base (.slice (some ⟨g, 0, none⟩) n cap) ns) (hn : n = ns.length) {i j : Nat} (hi : i < ns.length) (hj : j < 16) : w.cell? ⟨g, i * 16 + j, none⟩ = (ndC ns[i])[j]? := by
  subst hn
  have h1 := World.ownsRow.cellAt h (i * 16 + j) (by omega)
  rw [h1, flat_get ndC 16 ndC_length ns i j hi hj]
theorem ON.nx (h : ON w base (.slice (some ⟨g, 0, none⟩) n cap) ns) (hn : n = ns.length) {i k : Nat} (hi : i < ns.length) (hk : k < 12) : w.cell? ⟨g, i * 16 + 4 + k, none⟩ = some (.int .i64 (nxt ns i k : Int)) := by
  have h1 := h.cell hn hi (j := 4 + k) (by omega)
  rw [ndC_nx _ _ hk] at h1
  rw [Nat.add_assoc, h1]
  unfold nxt
  rw [List.getElem?_eq_getElem hi]
  rfl
theorem ON.ent (h : ON w base (.slice (some ⟨g, 0, none⟩) n cap) ns) (hn : n = ns.length) {i : Nat} (hi : i < ns.length) :
    w.cell? ⟨g, i * 16, none⟩ = some (.string (entOf ns i).user) ∧ w.cell? ⟨g, i * 16 + 1, none⟩ = some (.int .u64 ((entOf ns i).seq.toNat : Int)) ∧ w.cell? ⟨g, i * 16 + 2, none⟩ = some (.int .u8 ((entOf ns i).kind.toNat : Int)) ∧ w.cell? ⟨g, i * 16 + 3, none⟩ = some (.string (entOf ns i).value) := by
  have e : entOf ns i = ns[i].e := by unfold entOf; rw [List.getElem?_eq_getElem hi]; rfl
  obtain ⟨a0, a1, a2, a3⟩ := ndC_ent ns[i]
  rw [e]
  exact ⟨(h.cell hn hi (j := 0) (by omega)).trans a0, (h.cell hn hi (j := 1) (by omega)).trans a1, (h.cell hn hi (j := 2) (by omega)).trans a2, (h.cell hn hi (j := 3) (by omega)).trans a3⟩
theorem LiAt.on {B : Nat} (h : LiAt w base L ns sz) (hb : Below B w w') (hB : w.heap.size ≤ B) : LiAt w' base L ns sz := by
  obtain ⟨g, n, cap, h1, h2, h3, h4, h5, h6, h7⟩ := h
  have hL : L < w.heap.size := (Array.getElem?_eq_some_iff.1 h1).1
  exact ⟨g, n, cap, (hb.block L (by omega)).trans h1, h2, own_below h3 hb hB, h4, h5, h6, by have := hb.size; omega⟩
theorem LiAt.lt (h : LiAt w base L ns sz) : L < w.heap.size := by
  obtain ⟨g, n, cap, h1, _⟩ := h
  exact (Array.getElem?_eq_some_iff.1 h1).1
end

theorem zero_cells : (madeCells (Value.agg #[.string .empty, .int .u64 0, .int .u8 0, .string .empty, .int .i64 0, .int .i64 0, .int .i64 0, .int .i64 0, .int .i64 0, .int .i64 0, .int .i64 0, .int .i64 0, .int .i64 0, .int .i64 0, .int .i64 0, .int .i64 0]).cells (1 * 16)).toList = [(⟨zeroE, fun _ => 0⟩ : Nd)].flatMap ndC := by kernel_rfl
theorem kNew_any (w : World) : Calls Try.prog 9 #[] w fun e w' => ∃ L, e = .returned (.pointer (some ⟨L, 0, none⟩)) ∧ LiAt w' w.heap.size L [⟨zeroE, fun _ => 0⟩] 0 ∧ Below w.heap.size w w' := by
  go_enter Try.func9, Try.ntmps9
  obtain ⟨i0, hi0, hz0, hz1, hz2⟩ := info_parts infoN
  go_wp2_with (first
    | (at_make; refine wpList_make_full w rfl (.const (.int .i64 1)) (.const (.int .i64 1)) 54 rfl w.heap.size 60 i0 _ 16 Try.underlying54 hi0 hz0 hz1 .i64 .i64 1 1 1 rfl rfl rfl rfl (by rw [hz2]; omega) (by simp [maxLen]) (Nat.le_refl _) ?_; intro w1 hown hg))
  rw [zero_cells] at hown
  have hb1 : Below w.heap.size w w1 := (Below.refl _ _).grown hg (Nat.le_refl _) (fun g h => by cases h)
  have hlt := (World.ownsRow.lt hown w.heap.size rfl).2
  go_ret
  exact ⟨_, rfl, ⟨w.heap.size, 1, 1, heap_alloc_new w1 _, rfl, World.ownsRow.alloc hown _, by omega, by omega, Nat.le_refl _, by simp; omega⟩, hb1.alloc (by omega) _⟩
set_option maxHeartbeats 1000000 in
theorem kAhead_any (a q : Ent) (w : World) :
    Calls Try.prog 28 #[entV a, .string q.user, .int .u64 (q.seq.toNat : Int)] w fun e w' => e = .returned (.bool (aheadE a q)) ∧ Below w.heap.size w w' := by
  go_enter Try.func28, Try.ntmps28
  go_wp2
  all_goals go_ret
  all_goals refine ⟨ret_bool ?_, ((Below.refl _ _).alloc (Nat.le_refl _) _)⟩
  all_goals unfold aheadE ltB
  all_goals first | (simp [*]; done) | (have e := ltB_irr q.user.toList; simp only [ltB] at e; simp [*])

theorem idx_part (p r : List Nat) (h : (p ++ r).Nodup) (h0 : 0 ∉ p ++ r) : (p ++ r).idxOf (r.head?.getD 0) = p.length := by
  cases r with
  | nil =>
    simp only [List.append_nil] at *
    exact List.idxOf_eq_length h0
  | cons m r =>
    have hm : m ∉ p := fun hm => by
      rw [List.nodup_append] at h
      exact h.2.2 m hm m (by simp) rfl
    rw [List.idxOf_append]
    simp [hm]
theorem Good.lastLt {ns : List Nd} {cs : Nat → List Nat} (h : Good ns cs) {k : Nat} (hk : k < 12) {p r : List Nat} (e : cs k = p ++ r) : lastOf 0 p < ns.length := by
  unfold lastOf
  cases hp : p.getLast? with
  | none => exact h.pos
  | some x => exact (chain_mem (h.chain k hk) x (by rw [e]; exact List.mem_append_left _ (List.mem_of_getLast? hp))).2
theorem Good.headNx {ns : List Nd} {cs : Nat → List Nat} (h : Good ns cs) {k : Nat} (hk : k < 12) {p r : List Nat} (e : cs k = p ++ r) : nxt ns (lastOf 0 p) k = r.head?.getD 0 := by
  have := h.chain k hk
  rw [e] at this
  exact chain_head (chain_split ns k p r 0 this)
theorem Good.idx {ns : List Nd} {cs : Nat → List Nat} (h : Good ns cs) {k : Nat} (hk : k < 12) {p r : List Nat} (e : cs k = p ++ r) : (cs k).idxOf (r.head?.getD 0) = p.length := by
  have h1 := nodup_of_sorted (h.sortedk k hk)
  have h2 : 0 ∉ cs k := fun h0 => by have := (chain_mem (h.chain k hk) 0 h0).1; omega
  rw [e] at h1 h2 ⊢
  exact idx_part p r h1 h2
/-- twelve numbers in a block -/
def Tw (w : World) (B : Nat) (f : Nat → Nat) : Prop := ∀ j, j < 12 → w.cell? ⟨B, j, none⟩ = some (.int .i64 (f j : Int)) ∧ w.frozen? ⟨B, j, none⟩ = false
theorem Tw.below {w w' : World} {B : Nat} {f : Nat → Nat} (h : Tw w B f) (hb : Below w.heap.size w w') (hB : B < w.heap.size) : Tw w' B f := fun j hj => ⟨(hb.cell hB).trans (h j hj).1, (World.frozen?_of_block (hb.block B hB)).trans (h j hj).2⟩
theorem Tw.set {w : World} {B : Nat} {f : Nat → Nat} (h : Tw w B f) (k v : Nat) : Tw (w.setCell ⟨B, k, none⟩ (.int .i64 (v : Int))) B (fun j => if j = k then v else f j) := by
  intro j hj
  refine ⟨?_, by rw [World.frozen?_setCell]; exact (h j hj).2⟩
  by_cases e : j = k
  · subst e
    rw [World.cell?_setCell_same' _ _ _ (by rw [(h j hj).1]; rfl)]
    simp
  · rw [World.cell?_setCell_other w _ _ _ (fun e2 => e (by injection e2 with _ e3; exact e3.symm)), (h j hj).1]
    simp [e]
theorem Tw.other {w : World} {B : Nat} {f : Nat → Nat} (h : Tw w B f) {p : Addr} (hp : p.block ≠ B) (v : Value) : Tw (w.setCell p v) B f := by
  intro j hj
  refine ⟨?_, by rw [World.frozen?_setCell]; exact (h j hj).2⟩
  rw [World.cell?_setCell_other w _ _ _ (fun e2 => hp (by rw [e2])), (h j hj).1]
theorem Tw.row {w : World} {R : Nat} {T : TypeId} (h : w.heap[R]? = some (.cells #[.int .i64 0, .int .i64 0, .int .i64 0, .int .i64 0, .int .i64 0, .int .i64 0, .int .i64 0, .int .i64 0, .int .i64 0, .int .i64 0, .int .i64 0, .int .i64 0] T (0, 0))) : Tw w R (fun _ => 0) := by
  intro j hj
  refine ⟨?_, by simp [World.frozen?, h]⟩
  rw [cell_of_row _ _ j _ _ _ h]
  rcases j with _ | _ | _ | _ | _ | _ | _ | _ | _ | _ | _ | _ | j
  all_goals first | rfl | omega
theorem Tw.new (w : World) (T : TypeId) : Tw (w.alloc (.cells #[.int .i64 0, .int .i64 0, .int .i64 0, .int .i64 0, .int .i64 0, .int .i64 0, .int .i64 0, .int .i64 0, .int .i64 0, .int .i64 0, .int .i64 0, .int .i64 0] T)) w.heap.size (fun _ => 0) := Tw.row (heap_alloc_new w _)
theorem seek_round {ns : List Nd} {cs : Nat → List Nat} {q : Ent} {k v : Nat} {f : Nat → Nat} (hv : v = posn ns cs q k) (hf : ∀ j : Nat, (k : Int) < (j : Int) → j < 12 → f j = posn ns cs q j) : ∀ j : Nat, (k : Int) - 1 < (j : Int) → j < 12 → (fun j => if j = k then v else f j) j = posn ns cs q j := by
  intro j h1 h2
  by_cases e : j = k
  · subst e; simp [hv]
  · simp only [e, if_false]; exact hf j (by omega) h2
theorem seek_store {w wo wx : World} {f : Nat → Nat} (hT1 : Tw wo (w.heap.size + 1) f) (hT0 : Tw wo w.heap.size (fun _ => 0)) (hbr : Below w.heap.size w wo) (hbx : Below wo.heap.size wo wx) (hsz : w.heap.size + 2 ≤ wo.heap.size) (k v : Nat) :
    Tw (wx.setCell ⟨w.heap.size + 1, k, none⟩ (.int .i64 (v : Int))) (w.heap.size + 1) (fun j => if j = k then v else f j) ∧ Tw (wx.setCell ⟨w.heap.size + 1, k, none⟩ (.int .i64 (v : Int))) w.heap.size (fun _ => 0) ∧ Below w.heap.size w (wx.setCell ⟨w.heap.size + 1, k, none⟩ (.int .i64 (v : Int))) ∧ w.heap.size + 2 ≤ (wx.setCell ⟨w.heap.size + 1, k, none⟩ (.int .i64 (v : Int))).heap.size := by
  have hxsz := hbx.size
  refine ⟨(hT1.below hbx (by omega)).set k v, (hT0.below hbx (by omega)).other (by simp) _, (hbr.trans (hbx.mono (by omega))).setCell (by simp) _, ?_⟩
  rw [World.size_setCell]; omega
set_option maxRecDepth 100000 in
set_option maxHeartbeats 4000000 in
theorem kSeek_any (base L : Nat) (ns : List Nd) (cs : Nat → List Nat) (sz : Nat) (q : Ent) (w : World) (h : LiAt w base L ns sz) (hg : Good ns cs) (hn : ns.length ≤ 1000000) :
    Calls Try.prog 24 #[.pointer (some ⟨L, 0, none⟩), .string q.user, .int .u64 (q.seq.toNat : Int)] w fun e w' =>
      e = .returned (.agg #[.int .i64 (posn ns cs q 0 : Int), .int .i64 (posn ns cs q 1 : Int), .int .i64 (posn ns cs q 2 : Int), .int .i64 (posn ns cs q 3 : Int), .int .i64 (posn ns cs q 4 : Int), .int .i64 (posn ns cs q 5 : Int), .int .i64 (posn ns cs q 6 : Int), .int .i64 (posn ns cs q 7 : Int), .int .i64 (posn ns cs q 8 : Int), .int .i64 (posn ns cs q 9 : Int), .int .i64 (posn ns cs q 10 : Int), .int .i64 (posn ns cs q 11 : Int)]) ∧ Below w.heap.size w w' := by
  obtain ⟨g, n, cap, hL, hnn, hON, hgL, hbL, hbg, hglt⟩ := h
  have hLlt : L < w.heap.size := (Array.getElem?_eq_some_iff.1 hL).1
  have hL0 : w.cell? ⟨L, 0, none⟩ = some (.slice (some ⟨g, 0, none⟩) n cap) := cell_of_row w L 0 _ _ _ hL
  go_enter Try.func24, Try.ntmps24
  go_wp2_with fail
  go_loopw [8, 9] (fun av kv wr => ∃ (a : Nat) (z : Int) (f : Nat → Nat), av = .int .i64 (a : Int) ∧ kv = .int .i64 z ∧ -1 ≤ z ∧ z ≤ 11 ∧ Hid ((z = 11 ∧ a = 0) ∨ (z < 11 ∧ a = posn ns cs q (z + 1).toNat)) ∧ Tw wr (w.heap.size + 1) f ∧ Tw wr w.heap.size (fun _ => 0) ∧ Hid (∀ j : Nat, z < (j : Int) → j < 12 → f j = posn ns cs q j) ∧ Below w.heap.size w wr ∧ w.heap.size + 2 ≤ wr.heap.size) (fun _ kv _ => (intOf kv + 1).toNat)
  case atStart =>
    refine ⟨0, 11, fun _ => 0, rfl, rfl, by omega, by omega, Lib.hid (.inl ⟨rfl, rfl⟩), ?_, ?_, Lib.hid (fun j h1 h2 => by omega), balloc (balloc (bself w) _) _, by simp⟩
    · have h := Tw.new (w.alloc (.cells #[.int .i64 0, .int .i64 0, .int .i64 0, .int .i64 0, .int .i64 0, .int .i64 0, .int .i64 0, .int .i64 0, .int .i64 0, .int .i64 0, .int .i64 0, .int .i64 0] 57)) 57
      rw [World.size_alloc] at h
      exact h
    · exact (Tw.new w 57).below (balloc (bself _) _) (by simp)
  case round =>
    obtain ⟨a, z, f, rfl, rfl, hz0, hz1, ha, hT1, hT0, hf, hbr, hsz⟩ := hrel
    by_cases hz : 0 ≤ z
    · obtain ⟨k, rfl⟩ := Int.eq_ofNat_of_zero_le hz
      have hk : k < 12 := by omega
      obtain ⟨p0, r0, hcs, hap, hpa⟩ := seek_start hg q k hk a (by
        rcases ha.out with ⟨h1, h2⟩ | ⟨h1, h2⟩
        · exact .inl ⟨by omega, h2⟩
        · exact .inr ⟨by omega, by rw [h2]; congr 1⟩)
      have hal : a < n := by rw [hnn, hap]; exact hg.lastLt hk hcs
      have d0 := (hbr.cell (p := ⟨L, 0, none⟩) hLlt).trans hL0
      have d1 := (hbr.cell (p := ⟨g, a * 16 + 4 + k, none⟩) hglt).trans (hON.nx hnn (by omega) hk)
      rw [hap, hg.headNx hk hcs, ← hap] at d1
      have HC := Lib.hid (And.intro hcs (And.intro hap hpa))
      clear hcs hap hpa
      go_wp2_with fail
      obtain ⟨wo, hwo⟩ : ∃ x, x = wr := ⟨_, rfl⟩
      subst hwo
      go_loopw [8, 10] (fun av nv wx => ∃ (p r : List Nat), av = .int .i64 (lastOf 0 p : Nat) ∧ nv = .int .i64 ((r.head?.getD 0 : Nat) : Int) ∧ Hid (cs k = p ++ r ∧ ∀ i ∈ p, ahd ns q i = true) ∧ Below wo.heap.size wo wx) (fun _ nv _ => (cs k).length - (cs k).idxOf (intOf nv).toNat)
      case atStart => exact ⟨p0, r0, by rw [HC.out.2.1], rfl, Lib.hid ⟨HC.out.1, HC.out.2.2⟩, Below.refl _ _⟩
      case round =>
        clear d1 HC
        obtain ⟨wx, hwx⟩ : ∃ x, x = wr := ⟨_, rfl⟩
        subst hwx
        obtain ⟨p, r, rfl, rfl, HC, hbx⟩ := hrel
        have hbx' := hbr.trans (hbx.mono (by omega))
        have hxsz := hbx.size
        cases r with
        | nil =>
          simp only [List.head?_nil, Option.getD_none] at *
          have HP : Hid (lastOf 0 p = posn ns cs q k) := Lib.hid (by unfold posn; rw [HC.out.1, take_stop p [] HC.out.2 (fun m r' e => by cases e)])
          obtain ⟨t1, t2⟩ := (hT1.below hbx (by omega)) k hk
          have HO := Lib.hid (seek_store hT1 hT0 hbr hbx hsz k (lastOf 0 p))
          clear hT1 hT0
          go_wp2_with fail
          go_roundw
          case rel => exact ⟨lastOf 0 p, (k : Int) - 1, _, rfl, by go_num, by omega, by omega, Lib.hid (.inr ⟨by omega, by rw [HP.out]; exact congrArg (posn ns cs q) (by omega)⟩), HO.out.1, HO.out.2.1, Lib.hid (seek_round HP.out hf.out), HO.out.2.2.1, HO.out.2.2.2⟩
          case measure => simp [intOf]
        | cons m r =>
          simp only [List.head?_cons, Option.getD_some] at *
          have hm := chain_mem (hg.chain k hk) m (by rw [HC.out.1]; simp)
          have hmn : m < ns.length := hm.2
          have hm0 : 0 < m := hm.1
          have e0 := (hbx'.cell (p := ⟨L, 0, none⟩) hLlt).trans hL0
          obtain ⟨c0, c1, c2, c3⟩ := hON.ent hnn hmn
          have e1 := (hbx'.cell (p := ⟨g, m * 16, none⟩) hglt).trans c0
          have e2 := (hbx'.cell (p := ⟨g, m * 16 + 1, none⟩) hglt).trans c1
          have e3 := (hbx'.cell (p := ⟨g, m * 16 + 2, none⟩) hglt).trans c2
          have e4 := (hbx'.cell (p := ⟨g, m * 16 + 3, none⟩) hglt).trans c3
          clear c0 c1 c2 c3
          go_wp2_with fail
          refine (kAhead_any (entOf ns m) q _).mono ?_
          rintro e w2 ⟨rfl, hb2⟩
          clear e0 e1 e2 e3 e4
          have hb2x := hbx.trans (hb2.mono (by omega))
          have hb2' := hbr.trans (hb2x.mono (by omega))
          have hz2 := hb2.size
          cases hah : aheadE (entOf ns m) q with
          | true =>
            have hcs2 : cs k = (p ++ [m]) ++ r := by rw [HC.out.1]; simp
            have d0 := (hb2'.cell (p := ⟨L, 0, none⟩) hLlt).trans hL0
            have d1 := (hb2'.cell (p := ⟨g, m * 16 + 4 + k, none⟩) hglt).trans (hON.nx hnn hmn hk)
            have hnx := hg.headNx hk hcs2
            rw [lastOf_snoc] at hnx
            rw [hnx] at d1
            have HI := Lib.hid (And.intro hcs2 (And.intro (hg.idx hk hcs2) (hg.idx hk HC.out.1)))
            clear hcs2 hnx
            go_wp2_with fail
            go_roundw
            case rel => exact ⟨p ++ [m], r, by rw [lastOf_snoc], rfl, Lib.hid ⟨HI.out.1, fun i hi => by
              rcases List.mem_append.1 hi with hi | hi
              · exact HC.out.2 i hi
              · rw [List.mem_singleton.1 hi]; exact hah⟩, hb2x⟩
            case measure =>
              have h1 := HI.out.2.1
              have h2 := HI.out.2.2
              have h3 : (cs k).length = (p ++ [m]).length + r.length := by rw [HI.out.1]; simp; omega
              simp only [List.head?_cons, Option.getD_some] at h2
              simp only [intOf, Int.toNat_natCast, h1, h2, List.length_append, List.length_singleton] at *
              omega
          | false =>
            have HP : Hid (lastOf 0 p = posn ns cs q k) := Lib.hid (by unfold posn; rw [HC.out.1, take_stop p (m :: r) HC.out.2 (fun m' r' e => by injection e with e1 _; rw [← e1]; exact hah)])
            obtain ⟨t1, t2⟩ := (hT1.below hb2x (by omega)) k hk
            have HO := Lib.hid (seek_store hT1 hT0 hbr hb2x hsz k (lastOf 0 p))
            clear hT1 hT0
            go_wp2_with fail
            go_roundw
            case rel => exact ⟨lastOf 0 p, (k : Int) - 1, _, rfl, by go_num, by omega, by omega, Lib.hid (.inr ⟨by omega, by rw [HP.out]; exact congrArg (posn ns cs q) (by omega)⟩), HO.out.1, HO.out.2.1, Lib.hid (seek_round HP.out hf.out), HO.out.2.2.1, HO.out.2.2.2⟩
            case measure => simp [intOf]
    · have hz' : z = -1 := by omega
      subst hz'
      obtain ⟨c0, f0⟩ := hT1 0 (by omega)
      obtain ⟨c1, f1⟩ := hT1 1 (by omega)
      obtain ⟨c2, f2⟩ := hT1 2 (by omega)
      obtain ⟨c3, f3⟩ := hT1 3 (by omega)
      obtain ⟨c4, f4⟩ := hT1 4 (by omega)
      obtain ⟨c5, f5⟩ := hT1 5 (by omega)
      obtain ⟨c6, f6⟩ := hT1 6 (by omega)
      obtain ⟨c7, f7⟩ := hT1 7 (by omega)
      obtain ⟨c8, f8⟩ := hT1 8 (by omega)
      obtain ⟨c9, f9⟩ := hT1 9 (by omega)
      obtain ⟨c10, f10⟩ := hT1 10 (by omega)
      obtain ⟨c11, f11⟩ := hT1 11 (by omega)
      clear f0 f1 f2 f3 f4 f5 f6 f7 f8 f9 f10 f11
      obtain ⟨x0, f0⟩ := hT0 0 (by omega)
      obtain ⟨x1, f1⟩ := hT0 1 (by omega)
      obtain ⟨x2, f2⟩ := hT0 2 (by omega)
      obtain ⟨x3, f3⟩ := hT0 3 (by omega)
      obtain ⟨x4, f4⟩ := hT0 4 (by omega)
      obtain ⟨x5, f5⟩ := hT0 5 (by omega)
      obtain ⟨x6, f6⟩ := hT0 6 (by omega)
      obtain ⟨x7, f7⟩ := hT0 7 (by omega)
      obtain ⟨x8, f8⟩ := hT0 8 (by omega)
      obtain ⟨x9, f9⟩ := hT0 9 (by omega)
      obtain ⟨x10, f10⟩ := hT0 10 (by omega)
      obtain ⟨x11, f11⟩ := hT0 11 (by omega)
      clear hT0 hT1
      rw [hf.out 0 (by omega) (by omega)] at c0
      rw [hf.out 1 (by omega) (by omega)] at c1
      rw [hf.out 2 (by omega) (by omega)] at c2
      rw [hf.out 3 (by omega) (by omega)] at c3
      rw [hf.out 4 (by omega) (by omega)] at c4
      rw [hf.out 5 (by omega) (by omega)] at c5
      rw [hf.out 6 (by omega) (by omega)] at c6
      rw [hf.out 7 (by omega) (by omega)] at c7
      rw [hf.out 8 (by omega) (by omega)] at c8
      rw [hf.out 9 (by omega) (by omega)] at c9
      rw [hf.out 10 (by omega) (by omega)] at c10
      rw [hf.out 11 (by omega) (by omega)] at c11
      go_wp2_with fail
      exact bodyPost_ret (v := .agg #[.int .i64 (posn ns cs q 0 : Int), .int .i64 (posn ns cs q 1 : Int), .int .i64 (posn ns cs q 2 : Int), .int .i64 (posn ns cs q 3 : Int), .int .i64 (posn ns cs q 4 : Int), .int .i64 (posn ns cs q 5 : Int), .int .i64 (posn ns cs q 6 : Int), .int .i64 (posn ns cs q 7 : Int), .int .i64 (posn ns cs q 8 : Int), .int .i64 (posn ns cs q 9 : Int), .int .i64 (posn ns cs q 10 : Int), .int .i64 (posn ns cs q 11 : Int)]) (by simp [results, Try.results24, go_sem, x0, x1, x2, x3, x4, x5, x6, x7, x8, x9, x10, x11]) rfl ⟨rfl, ((((((((((((hbr.setCell (Nat.le_refl _) _).setCell (Nat.le_refl _) _).setCell (Nat.le_refl _) _).setCell (Nat.le_refl _) _).setCell (Nat.le_refl _) _).setCell (Nat.le_refl _) _).setCell (Nat.le_refl _) _).setCell (Nat.le_refl _) _).setCell (Nat.le_refl _) _).setCell (Nat.le_refl _) _).setCell (Nat.le_refl _) _).setCell (Nat.le_refl _) _)⟩
end Go.Proofs.Ytlphbkhcdnbbnaa
