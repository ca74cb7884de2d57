/-
  What is proved here: what the reference's words come to, at this seat's numbers.
-/
import Derived.Test.YtjkcdnangmjoeaaDoorShaW2
namespace Go.Proofs.YtjkcdnangmjoeaaDoor
open Go.RowKit

theorem infoW : (Tryd.prog.info? 76).map (fun i => (i.zero, i.size, i.bytes)) = some (some (.int .u32 0), 1, 4) := by kernel_rfl
def w32 (x : UInt32) : Value := .int .u32 (x.toNat : Int)
/-- the value v owns the words l -/
def OW (w : World) (base : Nat) (v : Value) (l : List UInt32) : Prop := w.ownsRow base 76 1 v l.length (l.map w32)
theorem OW.nil_ (w : World) (base : Nat) : OW w base (.slice none 0 0) [] := World.ownsRow_nil w base 76 1
theorem OW.below {w w' : World} {base B : Nat} {v : Value} {l : List UInt32} (h : OW w base v l) (hb : Below B w w') (hB : w.heap.size ≤ B) : OW w' base v l := own_below h hb hB
theorem OW.sl {w : World} {base : Nat} {v : Value} {l : List UInt32} (h : OW w base v l) : Sl w w.heap.size 1 v l.length (l.map w32) := Sl.of_own h
theorem w32_one (l : List UInt32) : ∀ u ∈ l.map w32, u.oneCell' = true := by
  intro u hu
  obtain ⟨x, _, rfl⟩ := List.mem_map.1 hu
  rfl
section
variable {o : Oper} {a : Act} {K : Act → World → Prop} {Q : Exit → Act → World → Prop} {w : World}
/-- append(dst, x) of words -/
theorem wp_appW1 (s x : Operand)
    (ho : o.op = .call { callee := .builtin .append, args := #[s, x], argTypes := #[82, 82] })
    (base : Nat) (v : Value) (l : List UInt32) (hs : a.eval s = v) (hown : OW w base v l)
    (p : UInt32) {g : Nat} (hg : g = w.heap.size) (hx : a.eval x = .slice (some ⟨g, 0, none⟩) 1 1) (hlen : l.length + 1 ≤ maxLen) (hfits : Fits l.length 1 4) (hbase : base ≤ w.heap.size)
    (h : ∀ v' w', OW w' base v' (l ++ [p]) → Below base w w' → K (a.put o.dst v') w') : o.wp Tryd.prog a (w.alloc (.cells #[.int .u32 (p.toNat : Int)] 76)) K Q := by
  obtain ⟨i0, hi0, hz0, hz1, hz2⟩ := info_parts infoW
  have hsrc : Sl (w.alloc (.cells #[.int .u32 (p.toNat : Int)] 76)) (w.heap.size + 1) 1 (.slice (some ⟨g, 0, none⟩) 1 1) 1 ([p].map w32) :=
    ⟨_, _, rfl, Nat.le_refl _, by simp [maxLen], Rd.newBlock w _ _ hg (by omega) rfl⟩
  refine wp_app _ s x 82 ho base 76 i0 _ 1 4 Tryd.underlying82 hi0 hz0 hz1 hz2 rfl (by omega) v l.length _ hs (World.ownsRow.alloc hown _) (w.heap.size + 1) 1 _ _ hx hsrc (w32_one [p]) hlen hfits (by simp; omega) ?_
  intro v' w' h1 h2 h3 h4
  refine h v' w' ?_ (((Below.refl _ _).alloc hbase _).trans h4)
  unfold OW
  rw [List.length_append, List.map_append]
  exact h1
end
set_option maxRecDepth 100000 in
set_option maxHeartbeats 4000000 in
theorem rWords_any (v : Value) (bs : List UInt8) (w : World) (hv : SB w w.heap.size v bs) (h64 : 64 ≤ bs.length) (hbl : bs.length ≤ 9223372036854775807) :
    Calls Tryd.prog 45 #[v] w fun e w' => ∃ u, e = .returned u ∧ OW w' w.heap.size u ((List.range 64).map (wordAt (bs.take 64))) ∧ Below w.heap.size w w' := by
  obtain ⟨A, c, rfl, hlc, hcm, hr⟩ := hv
  have hcm2 : c ≤ 9223372036854775807 := by unfold maxLen at hcm; omega
  clear hcm
  obtain ⟨b, o, rfl, hb, hc⟩ := hr.at_ (by omega)
  have HCB : Hid (∀ w', Below w.heap.size w w' → ∀ j (hj : j < bs.length), w'.cell? ⟨b, o + j, none⟩ = some (.int .u8 ((bs[j].toNat : Nat) : Int))) := Lib.hid (fun w' h j hj => (h.cell (p := ⟨b, o + j, none⟩) (by simp; omega)).trans (hc j _ (bv_get bs j hj)))
  clear hc
  have HF0 : Hid (∀ i, i < 16 → wordAt (bs.take 64) i = word0 bs i) := Lib.hid (fun i hi => by rw [wordAt_first _ _ hi, word0_take _ _ hi])
  have HFN : Hid (∀ n, n < 48 → wordAt (bs.take 64) (16 + n) = wordAt (bs.take 64) n + wordAt (bs.take 64) (n + 9) + sg0 (wordAt (bs.take 64) (n + 1)) + sg1 (wordAt (bs.take 64) (n + 14))) := Lib.hid (fun n hn => wordAt_next _ n hn)
  generalize wordAt (bs.take 64) = F at HF0 HFN ⊢
  go_enter Tryd.func45, Tryd.ntmps45
  go_wp2_with fail
  go_loopw [3, 4] (fun ov iv wr => ∃ i : Nat, iv = .int .i64 i ∧ i ≤ 16 ∧ OW wr w.heap.size ov ((List.range i).map F) ∧ Below w.heap.size w wr) (fun _ iv _ => 16 - (intOf iv).toNat)
  case atStart => exact ⟨0, rfl, Nat.zero_le _, OW.nil_ _ _, bself w⟩
  case round =>
    obtain ⟨i, rfl, hi, hown, hbr⟩ := hrel
    have hzr := hbr.size
    obtain ⟨A3, c3, hv3, hl3, hm3, hr3⟩ := id hown.sl
    rw [List.length_map, List.length_range] at hv3
    subst hv3
    by_cases hlt : i < 16
    · have d0 := HCB.out wr.drew (bdrew hbr) (4 * i) (by omega)
      have d1 := HCB.out wr.drew (bdrew hbr) (4 * i + 1) (by omega)
      have d2 := HCB.out wr.drew (bdrew hbr) (4 * i + 2) (by omega)
      have d3 := HCB.out wr.drew (bdrew hbr) (4 * i + 3) (by omega)
      have HW : Hid (F i = be4 bs[4 * i] bs[4 * i + 1] bs[4 * i + 2] bs[4 * i + 3]) := Lib.hid (by
        rw [HF0.out i hlt]
        unfold word0
        rw [List.getElem?_eq_getElem (by omega), List.getElem?_eq_getElem (by omega), List.getElem?_eq_getElem (by omega), List.getElem?_eq_getElem (by omega)]
        rfl)
      generalize bs[4 * i] = q0 at d0 HW
      generalize bs[4 * i + 1] = q1 at d1 HW
      generalize bs[4 * i + 2] = q2 at d2 HW
      generalize bs[4 * i + 3] = q3 at d3 HW
      go_upto_region 5 with fail
      have xb : ∀ b : UInt8, IntKind.u32.wrap (b.toNat : Int) = ((ofB b).toNat : Int) := fun b => by
        have := u8_lt256 b
        rw [IntKind.wrap_u32', Int.emod_eq_of_lt (by omega) (by omega)]; rfl
      have s24 : ∀ x : UInt32, IntKind.u32.wrap ((x.toNat : Int) * (16777216 : Int)) = ((shlW x 24).toNat : Int) := fun x => by rw [IntKind.wrap_u32']; exact W_shl x 24 (by omega) 16777216 rfl
      have s16 : ∀ x : UInt32, IntKind.u32.wrap ((x.toNat : Int) * (65536 : Int)) = ((shlW x 16).toNat : Int) := fun x => by rw [IntKind.wrap_u32']; exact W_shl x 16 (by omega) 65536 rfl
      have s8 : ∀ x : UInt32, IntKind.u32.wrap ((x.toNat : Int) * (256 : Int)) = ((shlW x 8).toNat : Int) := fun x => by rw [IntKind.wrap_u32']; exact W_shl x 8 (by omega) 256 rfl
      have x1 := W_or
      have y0 : IntKind.i64.wrap (4 * (i : Int)) = 4 * (i : Int) := IntWalk.i64_in _ (by omega)
      have y1 : IntKind.i64.wrap (4 * (i : Int) + 1) = 4 * (i : Int) + 1 := IntWalk.i64_in _ (by omega)
      have y2 : IntKind.i64.wrap (4 * (i : Int) + 2) = 4 * (i : Int) + 2 := IntWalk.i64_in _ (by omega)
      have y3 : IntKind.i64.wrap (4 * (i : Int) + 3) = 4 * (i : Int) + 3 := IntWalk.i64_in _ (by omega)
      have t0 : (4 * (i : Int)).toNat = 4 * i := by omega
      have t1 : (4 * (i : Int) + 1).toNat = 4 * i + 1 := by omega
      have t2 : (4 * (i : Int) + 2).toNat = 4 * i + 2 := by omega
      have t3 : (4 * (i : Int) + 3).toNat = 4 * i + 3 := by omega
      have l0 : 4 * (i : Int) < (bs.length : Int) := by omega
      have l1 : 4 * (i : Int) + 1 < (bs.length : Int) := by omega
      have l2 : 4 * (i : Int) + 2 < (bs.length : Int) := by omega
      have l3 : 4 * (i : Int) + 3 < (bs.length : Int) := by omega
      have p0 : (0 : Int) ≤ 4 * (i : Int) := by omega
      have p1 : (0 : Int) ≤ 4 * (i : Int) + 1 := by omega
      have p2 : (0 : Int) ≤ 4 * (i : Int) + 2 := by omega
      have p3 : (0 : Int) ≤ 4 * (i : Int) + 3 := by omega
      have HS := Lib.hid (And.intro d0 (And.intro d1 (And.intro d2 d3)))
      clear d0 d1 d2 d3
      refine wp_region_noPanic ?_
      refine wp_region_held_drew (S := fun w' => w'.cell? ⟨b, o + 4 * i, none⟩ = some (.int .u8 (q0.toNat : Int)) ∧ w'.cell? ⟨b, o + (4 * i + 1), none⟩ = some (.int .u8 (q1.toNat : Int)) ∧ w'.cell? ⟨b, o + (4 * i + 2), none⟩ = some (.int .u8 (q2.toNat : Int)) ∧ w'.cell? ⟨b, o + (4 * i + 3), none⟩ = some (.int .u8 (q3.toNat : Int))) (by kernel_rfl) HS.out (fun hHeld => ?_)
      refine reg_take 0 (v := ?_) (by rfl) (by kernel_rfl) (by kernel_rfl) (by kernel_rfl) (fun _ _ _ h => h) (by rfl) ?_ (by assumption) ?_
      rotate_left
      · (intro wq hSq; (try dsimp only at hSq); go_split_ands; go_simp; (try with_reducible rfl))
      try simp only [Act.put, List.setIfInBounds_toArray, List.set_cons_zero, List.set_cons_succ]
      refine reg_take 1 (v := ?_) (by rfl) (by kernel_rfl) (by kernel_rfl) (by kernel_rfl) (fun _ _ _ h => h) (by rfl) ?_ (by assumption) ?_
      rotate_left
      · (intro wq hSq; (try dsimp only at hSq); go_split_ands; go_simp; (try with_reducible rfl))
      try simp only [Act.put, List.setIfInBounds_toArray, List.set_cons_zero, List.set_cons_succ]
      refine reg_take 2 (v := ?_) (by rfl) (by kernel_rfl) (by kernel_rfl) (by kernel_rfl) (fun _ _ _ h => h) (by rfl) ?_ (by assumption) ?_
      rotate_left
      · (intro wq hSq; (try dsimp only at hSq); go_split_ands; go_simp; (try with_reducible rfl))
      try simp only [Act.put, List.setIfInBounds_toArray, List.set_cons_zero, List.set_cons_succ]
      refine reg_take 3 (v := ?_) (by rfl) (by kernel_rfl) (by kernel_rfl) (by kernel_rfl) (fun _ _ _ h => h) (by rfl) ?_ (by assumption) ?_
      rotate_left
      · (intro wq hSq; (try dsimp only at hSq); go_split_ands; go_simp; (try with_reducible rfl))
      try simp only [Act.put, List.setIfInBounds_toArray, List.set_cons_zero, List.set_cons_succ]
      refine reg_take 4 (v := ?_) (by rfl) (by kernel_rfl) (by kernel_rfl) (by kernel_rfl) (fun _ _ _ h => h) (by rfl) ?_ (by assumption) ?_
      rotate_left
      · (intro wq hSq; (try dsimp only at hSq); go_split_ands; go_simp; (try with_reducible rfl))
      try simp only [Act.put, List.setIfInBounds_toArray, List.set_cons_zero, List.set_cons_succ]
      refine reg_take 5 (v := ?_) (by rfl) (by kernel_rfl) (by kernel_rfl) (by kernel_rfl) (fun _ _ _ h => h) (by rfl) ?_ (by assumption) ?_
      rotate_left
      · (intro wq hSq; (try dsimp only at hSq); go_split_ands; go_simp; (try with_reducible rfl))
      try simp only [Act.put, List.setIfInBounds_toArray, List.set_cons_zero, List.set_cons_succ]
      refine reg_take 6 (v := ?_) (by rfl) (by kernel_rfl) (by kernel_rfl) (by kernel_rfl) (fun _ _ _ h => h) (by rfl) ?_ (by assumption) ?_
      rotate_left
      · (intro wq hSq; (try dsimp only at hSq); go_split_ands; go_simp; (try with_reducible rfl))
      try simp only [Act.put, List.setIfInBounds_toArray, List.set_cons_zero, List.set_cons_succ]
      refine reg_take 7 (v := ?_) (by rfl) (by kernel_rfl) (by kernel_rfl) (by kernel_rfl) (fun _ _ _ h => h) (by rfl) ?_ (by assumption) ?_
      rotate_left
      · (intro wq hSq; (try dsimp only at hSq); go_split_ands; go_simp; (try with_reducible rfl))
      try simp only [Act.put, List.setIfInBounds_toArray, List.set_cons_zero, List.set_cons_succ]
      refine reg_take 8 (v := ?_) (by rfl) (by kernel_rfl) (by kernel_rfl) (by kernel_rfl) (fun _ _ _ h => h) (by rfl) ?_ (by assumption) ?_
      rotate_left
      · (intro wq hSq; (try dsimp only at hSq); go_split_ands; go_simp; (try with_reducible rfl))
      try simp only [Act.put, List.setIfInBounds_toArray, List.set_cons_zero, List.set_cons_succ]
      refine reg_take 9 (v := ?_) (by rfl) (by kernel_rfl) (by kernel_rfl) (by kernel_rfl) (fun _ _ _ h => h) (by rfl) ?_ (by assumption) ?_
      rotate_left
      · (intro wq hSq; (try dsimp only at hSq); go_split_ands; go_simp; (try with_reducible rfl))
      try simp only [Act.put, List.setIfInBounds_toArray, List.set_cons_zero, List.set_cons_succ]
      refine reg_take 10 (v := ?_) (by rfl) (by kernel_rfl) (by kernel_rfl) (by kernel_rfl) (fun _ _ _ h => h) (by rfl) ?_ (by assumption) ?_
      rotate_left
      · (intro wq hSq; (try dsimp only at hSq); go_split_ands; go_simp; (try with_reducible rfl))
      try simp only [Act.put, List.setIfInBounds_toArray, List.set_cons_zero, List.set_cons_succ]
      refine reg_take 11 (v := ?_) (by rfl) (by kernel_rfl) (by kernel_rfl) (by kernel_rfl) (fun _ _ _ h => h) (by rfl) ?_ (by assumption) ?_
      rotate_left
      · (intro wq hSq; (try dsimp only at hSq); go_split_ands; go_simp; (try with_reducible rfl))
      try simp only [Act.put, List.setIfInBounds_toArray, List.set_cons_zero, List.set_cons_succ]
      refine reg_take 12 (v := ?_) (by rfl) (by kernel_rfl) (by kernel_rfl) (by kernel_rfl) (fun _ _ _ h => h) (by rfl) ?_ (by assumption) ?_
      rotate_left
      · (intro wq hSq; (try dsimp only at hSq); go_split_ands; go_simp; (try with_reducible rfl))
      try simp only [Act.put, List.setIfInBounds_toArray, List.set_cons_zero, List.set_cons_succ]
      refine reg_take 13 (v := ?_) (by rfl) (by kernel_rfl) (by kernel_rfl) (by kernel_rfl) (fun _ _ _ h => h) (by rfl) ?_ (by assumption) ?_
      rotate_left
      · (intro wq hSq; (try dsimp only at hSq); go_split_ands; go_simp; (try with_reducible rfl))
      try simp only [Act.put, List.setIfInBounds_toArray, List.set_cons_zero, List.set_cons_succ]
      refine reg_take 14 (v := ?_) (by rfl) (by kernel_rfl) (by kernel_rfl) (by kernel_rfl) (fun _ _ _ h => h) (by rfl) ?_ (by assumption) ?_
      rotate_left
      · (intro wq hSq; (try dsimp only at hSq); go_split_ands; go_simp; (try with_reducible rfl))
      try simp only [Act.put, List.setIfInBounds_toArray, List.set_cons_zero, List.set_cons_succ]
      refine reg_take 15 (v := ?_) (by rfl) (by kernel_rfl) (by kernel_rfl) (by kernel_rfl) (fun _ _ _ h => h) (by rfl) ?_ (by assumption) ?_
      rotate_left
      · (intro wq hSq; (try dsimp only at hSq); go_split_ands; go_simp; (try with_reducible rfl))
      try simp only [Act.put, List.setIfInBounds_toArray, List.set_cons_zero, List.set_cons_succ]
      refine reg_take 16 (v := ?_) (by rfl) (by kernel_rfl) (by kernel_rfl) (by kernel_rfl) (fun _ _ _ h => h) (by rfl) ?_ (by assumption) ?_
      rotate_left
      · (intro wq hSq; (try dsimp only at hSq); go_split_ands; go_simp; (try with_reducible rfl))
      try simp only [Act.put, List.setIfInBounds_toArray, List.set_cons_zero, List.set_cons_succ]
      refine reg_take 17 (v := ?_) (by rfl) (by kernel_rfl) (by kernel_rfl) (by kernel_rfl) (fun _ _ _ h => h) (by rfl) ?_ (by assumption) ?_
      rotate_left
      · (intro wq hSq; (try dsimp only at hSq); go_split_ands; go_simp; (try with_reducible rfl))
      try simp only [Act.put, List.setIfInBounds_toArray, List.set_cons_zero, List.set_cons_succ]
      refine reg_take 18 (v := ?_) (by rfl) (by kernel_rfl) (by kernel_rfl) (by kernel_rfl) (fun _ _ _ h => h) (by rfl) ?_ (by assumption) ?_
      rotate_left
      · (intro wq hSq; (try dsimp only at hSq); go_split_ands; go_simp; (try with_reducible rfl))
      try simp only [Act.put, List.setIfInBounds_toArray, List.set_cons_zero, List.set_cons_succ]
      refine reg_take 19 (v := ?_) (by rfl) (by kernel_rfl) (by kernel_rfl) (by kernel_rfl) (fun _ _ _ h => h) (by rfl) ?_ (by assumption) ?_
      rotate_left
      · (intro wq hSq; (try dsimp only at hSq); go_split_ands; go_simp; (try with_reducible rfl))
      try simp only [Act.put, List.setIfInBounds_toArray, List.set_cons_zero, List.set_cons_succ]
      refine reg_take 20 (v := ?_) (by rfl) (by kernel_rfl) (by kernel_rfl) (by kernel_rfl) (fun _ _ _ h => h) (by rfl) ?_ (by assumption) ?_
      rotate_left
      · (intro wq hSq; (try dsimp only at hSq); go_split_ands; go_simp; (try with_reducible rfl))
      try simp only [Act.put, List.setIfInBounds_toArray, List.set_cons_zero, List.set_cons_succ]
      refine reg_take 21 (v := ?_) (by rfl) (by kernel_rfl) (by kernel_rfl) (by kernel_rfl) (fun _ _ _ h => h) (by rfl) ?_ (by assumption) ?_
      rotate_left
      · (intro wq hSq; (try dsimp only at hSq); go_split_ands; go_simp; (try with_reducible rfl))
      try simp only [Act.put, List.setIfInBounds_toArray, List.set_cons_zero, List.set_cons_succ]
      refine reg_take 22 (v := ?_) (by rfl) (by kernel_rfl) (by kernel_rfl) (by kernel_rfl) (fun _ _ _ h => h) (by rfl) ?_ (by assumption) ?_
      rotate_left
      · (intro wq hSq; (try dsimp only at hSq); go_split_ands; go_simp; (try with_reducible rfl))
      try simp only [Act.put, List.setIfInBounds_toArray, List.set_cons_zero, List.set_cons_succ]
      refine reg_take 23 (v := ?_) (by rfl) (by kernel_rfl) (by kernel_rfl) (by kernel_rfl) (fun _ _ _ h => h) (by rfl) ?_ (by assumption) ?_
      rotate_left
      · (intro wq hSq; (try dsimp only at hSq); go_split_ands; go_simp; (try with_reducible rfl))
      try simp only [Act.put, List.setIfInBounds_toArray, List.set_cons_zero, List.set_cons_succ]
      refine reg_take 24 (v := ?_) (by rfl) (by kernel_rfl) (by kernel_rfl) (by kernel_rfl) (fun _ _ _ h => h) (by rfl) ?_ (by assumption) ?_
      rotate_left
      · (intro wq hSq; (try dsimp only at hSq); go_split_ands; go_simp; (try with_reducible rfl))
      try simp only [Act.put, List.setIfInBounds_toArray, List.set_cons_zero, List.set_cons_succ]
      refine reg_take 25 (v := ?_) (by rfl) (by kernel_rfl) (by kernel_rfl) (by kernel_rfl) (fun _ _ _ h => h) (by rfl) ?_ (by assumption) ?_
      rotate_left
      · (intro wq hSq; (try dsimp only at hSq); go_split_ands; go_simp; (try with_reducible rfl))
      try simp only [Act.put, List.setIfInBounds_toArray, List.set_cons_zero, List.set_cons_succ]
      refine reg_take 26 (v := ?_) (by rfl) (by kernel_rfl) (by kernel_rfl) (by kernel_rfl) (fun _ _ _ h => h) (by rfl) ?_ (by assumption) ?_
      rotate_left
      · (intro wq hSq; (try dsimp only at hSq); go_split_ands; go_simp; (try with_reducible rfl))
      try simp only [Act.put, List.setIfInBounds_toArray, List.set_cons_zero, List.set_cons_succ]
      refine reg_take 27 (v := ?_) (by rfl) (by kernel_rfl) (by kernel_rfl) (by kernel_rfl) (fun _ _ _ h => h) (by rfl) ?_ (by assumption) ?_
      rotate_left
      · (intro wq hSq; (try dsimp only at hSq); go_split_ands; go_simp; (try with_reducible rfl))
      try simp only [Act.put, List.setIfInBounds_toArray, List.set_cons_zero, List.set_cons_succ]
      refine reg_take 28 (v := ?_) (by rfl) (by kernel_rfl) (by kernel_rfl) (by kernel_rfl) (fun _ _ _ h => h) (by rfl) ?_ (by assumption) ?_
      rotate_left
      · (intro wq hSq; (try dsimp only at hSq); go_split_ands; go_simp; (try with_reducible rfl))
      try simp only [Act.put, List.setIfInBounds_toArray, List.set_cons_zero, List.set_cons_succ]
      refine reg_take 29 (v := ?_) (by rfl) (by kernel_rfl) (by kernel_rfl) (by kernel_rfl) (fun _ _ _ h => h) (by rfl) ?_ (by assumption) ?_
      rotate_left
      · (intro wq hSq; (try dsimp only at hSq); go_split_ands; go_simp; (try with_reducible rfl))
      try simp only [Act.put, List.setIfInBounds_toArray, List.set_cons_zero, List.set_cons_succ]
      refine reg_take 30 (v := ?_) (by rfl) (by kernel_rfl) (by kernel_rfl) (by kernel_rfl) (fun _ _ _ h => h) (by rfl) ?_ (by assumption) ?_
      rotate_left
      · (intro wq hSq; (try dsimp only at hSq); go_split_ands; go_simp; (try with_reducible rfl))
      try simp only [Act.put, List.setIfInBounds_toArray, List.set_cons_zero, List.set_cons_succ]
      refine reg_take 31 (v := ?_) (by rfl) (by kernel_rfl) (by kernel_rfl) (by kernel_rfl) (fun _ _ _ h => h) (by rfl) ?_ (by assumption) ?_
      rotate_left
      · (intro wq hSq; (try dsimp only at hSq); go_split_ands; go_simp; (try with_reducible rfl))
      try simp only [Act.put, List.setIfInBounds_toArray, List.set_cons_zero, List.set_cons_succ]
      refine reg_take 32 (v := ?_) (by rfl) (by kernel_rfl) (by kernel_rfl) (by kernel_rfl) (fun _ _ _ h => h) (by rfl) ?_ (by assumption) ?_
      rotate_left
      · (intro wq hSq; (try dsimp only at hSq); go_split_ands; go_simp; (try with_reducible rfl))
      try simp only [Act.put, List.setIfInBounds_toArray, List.set_cons_zero, List.set_cons_succ]
      refine reg_take 33 (v := ?_) (by rfl) (by kernel_rfl) (by kernel_rfl) (by kernel_rfl) (fun _ _ _ h => h) (by rfl) ?_ (by assumption) ?_
      rotate_left
      · (intro wq hSq; (try dsimp only at hSq); go_split_ands; go_simp; (try with_reducible rfl))
      try simp only [Act.put, List.setIfInBounds_toArray, List.set_cons_zero, List.set_cons_succ]
      have HS2 : Hid (∀ w', Below w.heap.size wr.drew w' → w'.cell? ⟨b, o + 4 * i, none⟩ = some (.int .u8 (q0.toNat : Int)) ∧ w'.cell? ⟨b, o + (4 * i + 1), none⟩ = some (.int .u8 (q1.toNat : Int)) ∧ w'.cell? ⟨b, o + (4 * i + 2), none⟩ = some (.int .u8 (q2.toNat : Int)) ∧ w'.cell? ⟨b, o + (4 * i + 3), none⟩ = some (.int .u8 (q3.toNat : Int))) := Lib.hid (fun w' h => ⟨(h.cell (by simp; omega)).trans HS.out.1, (h.cell (by simp; omega)).trans HS.out.2.1, (h.cell (by simp; omega)).trans HS.out.2.2.1, (h.cell (by simp; omega)).trans HS.out.2.2.2⟩)
      have hownd : OW wr.drew w.heap.size (.slice A3 i c3) ((List.range i).map F) := hown
      have hzd : w.heap.size ≤ wr.drew.heap.size := hzr
      have hll : ((List.range i).map F).length = i := by rw [List.length_map, List.length_range]
      have HL1 : Hid (((List.range i).map F).length + 1 ≤ maxLen) := Lib.hid (by rw [hll]; simp only [maxLen]; omega)
      have HL2 : Hid (Fits ((List.range i).map F).length 1 4) := Lib.hid (Fits.one _ _ (by rw [hll]; omega))
      clear hll
      refine reg_one 34 (by rfl) (by kernel_rfl) (by rfl) (fun K hK => ?_)
      (go_simp)
      refine hK.out _ _ ?_ (fun hHeld => ?_)
      · exact HS2.out _ ((Below.refl _ _).alloc hzd _)
      clear hK K
      try simp only [Act.put, List.setIfInBounds_toArray, List.set_cons_zero, List.set_cons_succ]
      refine reg_one 35 (by rfl) (by kernel_rfl) (by rfl) (fun K hK => ?_)
      (refine wp_appW1 (.tmp 12) (.tmp 46) rfl w.heap.size _ ((List.range i).map F) rfl hownd _ rfl rfl HL1.out HL2.out hzd ?_; intro v5 w5 hown5 hb5)
      refine hK.out _ _ ?_ (fun hHeld => ?_)
      · exact HS2.out _ hb5
      clear hK K
      try simp only [Act.put, List.setIfInBounds_toArray, List.set_cons_zero, List.set_cons_succ]
      refine reg_take 36 (v := ?_) (by rfl) (by kernel_rfl) (by kernel_rfl) (by kernel_rfl) (fun _ _ _ h => h) (by rfl) ?_ (by assumption) ?_
      rotate_left
      · (intro wq hSq; (try dsimp only at hSq); go_split_ands; go_simp; (try with_reducible rfl))
      try simp only [Act.put, List.setIfInBounds_toArray, List.set_cons_zero, List.set_cons_succ]
      refine wpAnyH_done (by kernel_rfl) (noPanic_mk ?_) _
      have hrg : (List.range (i + 1)).map F = (List.range i).map F ++ [orW (orW (orW (shlW (ofB q0) 24) (shlW (ofB q1) 16)) (shlW (ofB q2) 8)) (ofB q3)] := by
        rw [List.range_succ, List.map_append]
        show _ ++ [F i] = _
        rw [HW.out]
        rfl
      rw [← hrg] at hown5
      have hb5' : Below w.heap.size w w5 := (bdrew hbr).trans hb5
      go_wp2_with fail
      go_roundw
      case rel =>
        first
          | exact ⟨i + 1, by go_num, by omega, hown5, hb5'⟩
          | ((repeat apply Exists.intro); exact ⟨⟨i + 1, by go_num, by omega, hown5, hb5'⟩, rfl⟩)
      case measure => simp [intOf]; omega
    · have hi16 : i = 16 := by omega
      subst hi16
      go_wp2_with fail
      have hb0 : Below w.heap.size w wr := hbr
      go_loopw [3, 5] (fun ov iv wy => ∃ n : Nat, iv = .int .i64 ((n : Int) + 16) ∧ n ≤ 48 ∧ OW wy w.heap.size ov ((List.range (n + 16)).map F) ∧ Below w.heap.size w wy) (fun _ iv _ => 64 - (intOf iv).toNat)
      case atStart => exact ⟨0, rfl, by omega, hown, hb0⟩
      case round =>
        obtain ⟨n, rfl, hn, hown7, hb7⟩ := hrel
        clear hown
        have hz7 := hb7.size
        obtain ⟨A7, c7, hv7, hl7, hm7, hr7⟩ := id hown7.sl
        rw [List.length_map, List.length_range] at hv7
        subst hv7
        by_cases hlt : n < 48
        · obtain ⟨b7, o7, rfl, hb7l, hc7⟩ := hr7.at_ (by rw [List.length_map, List.length_range]; omega)
          have HE : Hid (∀ w', Below wr.heap.size wr w' → ∀ j, j < n + 16 → w'.cell? ⟨b7, o7 + j, none⟩ = some (.int .u32 ((F j).toNat : Int))) := Lib.hid (fun w' h j hj => (h.cell (p := ⟨b7, o7 + j, none⟩) hb7l).trans (hc7 j _ (by rw [List.getElem?_map, List.getElem?_map, List.getElem?_range hj]; rfl)))
          clear hc7 hr7 hl7 hm7
          have c1 := HE.out wr (bself wr) (n + 1) (by omega)
          have x4 := W_xor
          have x6 : ∀ x : UInt32, (x.toNat : Int) / (8 : Int) = ((shrW x 3).toNat : Int) := fun x => W_shr x 3 (by omega) 8 rfl
          have x7 : ∀ x : UInt32, (x.toNat : Int) / (1024 : Int) = ((shrW x 10).toNat : Int) := fun x => W_shr x 10 (by omega) 1024 rfl
          go_upto_region 9 with fail
          go_quiet (first | with_reducible exact rTurnq7 _ _ _ | with_reducible exact rTurnq18 _ _ _)
          go_upto_region 10 with fail
          clear c1
          have hb9 : Below wr.heap.size wr (wr.drewN nq) := bdrewN (bself wr) nq
          have hown9 : OW (wr.drewN nq) w.heap.size (.slice (some ⟨b7, o7, none⟩) (n + 16) c7) ((List.range (n + 16)).map F) := hown7
          have c14 := HE.out _ hb9 (n + 14) (by omega)
          generalize wr.drewN nq = wz at hb9 hown9 c14
          go_quiet (first | with_reducible exact rTurnq17 _ _ _ | with_reducible exact rTurnq19 _ _ _)
          go_upto_region 11 with fail
          clear c14
          have hbA : Below wr.heap.size wr (wz.drewN (nq + 1)) := bdrewN hb9 (nq + 1)
          have hownA : OW (wz.drewN (nq + 1)) w.heap.size (.slice (some ⟨b7, o7, none⟩) (n + 16) c7) ((List.range (n + 16)).map F) := hown9
          have e0 := HE.out _ hbA n (by omega)
          have e9 := HE.out _ hbA (n + 9) (by omega)
          have HS := Lib.hid (And.intro e0 e9)
          clear e0 e9
          have x5 : ∀ a b : UInt32, IntKind.u32.wrap ((a.toNat : Int) + (b.toNat : Int)) = ((addW a b).toNat : Int) := W_addk
          have y1 : IntKind.i64.wrap (n : Int) = (n : Int) := IntWalk.i64_in _ (by omega)
          have y2 : IntKind.i64.wrap ((n : Int) + 16 - 7) = (n : Int) + 9 := (IntWalk.i64_in _ (by omega)).trans (by omega)
          have y4 : (n : Int) < (n : Int) + 16 := by omega
          have y7 : (n : Int) + 9 < (n : Int) + 16 := by omega
          have y9 : (0 : Int) ≤ (n : Int) + 9 := by omega
          have y11 : ((n : Int) + 9).toNat = n + 9 := by omega
          have hzA : wr.heap.size ≤ (wz.drewN (nq + 1)).heap.size := hbA.size
          have hwA : w.heap.size ≤ (wz.drewN (nq + 1)).heap.size := Nat.le_trans hz7 hzA
          have hbB : Below w.heap.size w (wz.drewN (nq + 1)) := hb7.trans (hbA.mono hz7)
          have hll : ((List.range (n + 16)).map F).length = n + 16 := by rw [List.length_map, List.length_range]
          have HL1 : Hid (((List.range (n + 16)).map F).length + 1 ≤ maxLen) := Lib.hid (by rw [hll]; simp only [maxLen]; omega)
          have HL2 : Hid (Fits ((List.range (n + 16)).map F).length 1 4) := Lib.hid (Fits.one _ _ (by rw [hll]; omega))
          clear hll
          have HAPP : Hid (∀ v5 w5, OW w5 w.heap.size v5 ((List.range (n + 16)).map F ++ [addW (addW (addW (F n) (xorW (xorW (rotr (F (n + 1)) 7) (rotr (F (n + 1)) 18)) (shrW (F (n + 1)) 3))) (F (n + 9))) (xorW (xorW (rotr (F (n + 14)) 17) (rotr (F (n + 14)) 19)) (shrW (F (n + 14)) 10))]) → OW w5 w.heap.size v5 ((List.range (n + 1 + 16)).map F)) := Lib.hid (fun v5 w5 h => by
            have e : (List.range (n + 1 + 16)).map F = (List.range (n + 16)).map F ++ [addW (addW (addW (F n) (xorW (xorW (rotr (F (n + 1)) 7) (rotr (F (n + 1)) 18)) (shrW (F (n + 1)) 3))) (F (n + 9))) (xorW (xorW (rotr (F (n + 14)) 17) (rotr (F (n + 14)) 19)) (shrW (F (n + 14)) 10))] := by
              rw [show n + 1 + 16 = (n + 16) + 1 from by omega, List.range_succ, List.map_append]
              show _ ++ [F (n + 16)] = _
              rw [Nat.add_comm n 16, HFN.out n hlt]
              congr 2
              have hs : ∀ a b c d : UInt32, a + b + c + d = a + c + b + d := fun a b c d => by rw [UInt32.add_assoc a b c, UInt32.add_comm b c, ← UInt32.add_assoc]
              rw [hs]
              rfl
            rw [e]; exact h)
          obtain ⟨e0, e9⟩ := HS.out
          have g0 : ∀ o : Obj, ((wz.drewN (nq + 1)).alloc o).cell? ⟨b7, o7 + n, none⟩ = some (.int .u32 ((F n).toNat : Int)) := fun o => HE.out _ (hbA.alloc hzA o) n (by omega)
          have g9 : ∀ o : Obj, ((wz.drewN (nq + 1)).alloc o).cell? ⟨b7, o7 + (n + 9), none⟩ = some (.int .u32 ((F (n + 9)).toNat : Int)) := fun o => HE.out _ (hbA.alloc hzA o) (n + 9) (by omega)
          go_region_law (first | (go_loud (refine st_of rfl (wp_appW1 (.tmp 92) (.tmp 108) rfl w.heap.size _ ((List.range (n + 16)).map F) rfl hownA _ rfl rfl HL1.out HL2.out hwA ?_)); intro v5 w5 hown5 hb5))
          all_goals
            have hown6 := HAPP.out v5 w5 hown5
            have hb6 : Below w.heap.size w w5 := hbB.trans hb5
            go_wp2_with fail
            go_roundw
            case rel =>
              first
                | exact ⟨n + 1, by go_num, by omega, hown6, hb6⟩
                | ((repeat apply Exists.intro); exact ⟨⟨n + 1, by congr 1, by omega, hown6, hb6⟩, rfl⟩)
            case measure => simp [intOf]; omega
        · have hn48 : n = 48 := by omega
          subst hn48
          go_wp2_with fail
          go_ret
          exact ⟨_, rfl, hown7, hb7⟩
end Go.Proofs.YtjkcdnangmjoeaaDoor
