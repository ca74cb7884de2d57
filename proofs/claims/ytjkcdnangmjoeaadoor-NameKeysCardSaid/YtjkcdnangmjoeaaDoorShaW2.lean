/-
  What is proved here: what State.block of package sha comes to, at this seat's numbers. Condition: the block's length.
-/
import Derived.Test.YtjkcdnangmjoeaaDoorShaW
import Derived.Test.YtjkcdnangmjoeaaDoorRegion
import Derived.Lib.Hide
import Derived.OwnWalk
import Derived.RangeFuncBox
import Derived.BigRegion
import Derived.Deep.RegionLaw
import Derived.Deep.DeepCutAuto
import Derived.Deep.CutBlock
namespace Go.Proofs.YtjkcdnangmjoeaaDoor
open Go.RowKit

/-- words of 32 bits in a block, from a cell on -/
def Ww (w : World) (B n : Nat) (f : Nat → UInt32) : Prop := ∀ j, j < n → w.cell? ⟨B, j, none⟩ = some (.int .u32 ((f j).toNat : Int)) ∧ w.frozen? ⟨B, j, none⟩ = false
theorem Ww.set {w : World} {B n : Nat} {f : Nat → UInt32} (h : Ww w B n f) (k : Nat) (v : UInt32) (hk : k < n) : Ww (w.setCell ⟨B, k, none⟩ (.int .u32 (v.toNat : Int))) B n (fun j => if j = k then v else f j) := by
  intro j hj
  refine ⟨?_, by rw [World.frozen?_setCell]; exact (h j hj).2⟩
  by_cases e : j = k
  · subst e
    rw [World.cell?_setCell_same' _ _ _ (by rw [(h j hj).1]; rfl)]
    simp
  · rw [World.cell?_setCell_other w _ _ _ (fun e2 => e (by injection e2 with _ e3; exact e3.symm)), (h j hj).1]
    simp [e]
theorem Ww.below {w w' : World} {B n : Nat} {f : Nat → UInt32} (h : Ww w B n f) (hb : Below w.heap.size w w') (hB : B < w.heap.size) : Ww w' B n f := fun j hj => ⟨(hb.cell hB).trans (h j hj).1, (World.frozen?_of_block (hb.block B hB)).trans (h j hj).2⟩
theorem Ww.other {w : World} {B n : Nat} {f : Nat → UInt32} (h : Ww w B n f) {p : Addr} (hp : p.block ≠ B) (v : Value) : Ww (w.setCell p v) B n f := by
  intro j hj
  refine ⟨?_, by rw [World.frozen?_setCell]; exact (h j hj).2⟩
  rw [World.cell?_setCell_other w _ _ _ (fun e2 => hp (by rw [e2])), (h j hj).1]
theorem Ww.congr {w : World} {B n : Nat} {f g : Nat → UInt32} (h : Ww w B n f) (e : ∀ j, j < n → f j = g j) : Ww w B n g := fun j hj => by rw [← e j hj]; exact h j hj
/-- the words so far, a byte more -/
def joinB (acc : UInt32) (b : UInt8) : UInt32 := orW (shlW acc 8) (ofB b)
def partW (p : List UInt8) (i : Nat) : Nat → UInt32
  | 0 => 0
  | j + 1 => joinB (partW p i j) (p[4 * i + j]?.getD 0)
theorem u8_lt256 (b : UInt8) : b.toNat < 256 := b.toNat_lt
theorem shl_or (x y : UInt32) (k : UInt32) : (x ||| y) <<< k = (x <<< k) ||| (y <<< k) := by
  apply UInt32.eq_of_toBitVec_eq
  simp only [UInt32.toBitVec_or, UInt32.toBitVec_shiftLeft]
  apply BitVec.eq_of_getLsbD_eq
  intro i hi
  simp only [BitVec.shiftLeft_eq', BitVec.getLsbD_shiftLeft, BitVec.getLsbD_or]
  cases decide (i < 32) <;> simp [Bool.and_or_distrib_left]
theorem shl_nat (x : UInt32) (k : Nat) (hk : k < 32) : (x <<< UInt32.ofNat k).toNat = x.toNat * 2 ^ k % 4294967296 := by
  rw [UInt32.toNat_shiftLeft, UInt32.toNat_ofNat_of_lt' (by show k < 4294967296; omega), Nat.mod_eq_of_lt hk, Nat.shiftLeft_eq]
theorem shl_shl (x : UInt32) (j k m : Nat) (h : j + k = m) (hm : m < 32) : (x <<< UInt32.ofNat j) <<< UInt32.ofNat k = x <<< UInt32.ofNat m := by
  apply UInt32.toNat_inj.1
  rw [shl_nat _ k (by omega), shl_nat _ j (by omega), shl_nat _ m hm, Nat.mod_mul_mod, Nat.mul_assoc, ← Nat.pow_add, h]
theorem be4_join (a b c d : UInt8) : joinB (joinB (joinB (joinB 0 a) b) c) d = be4 a b c d := by
  unfold joinB orW shlW ofB be4
  rw [show (0 : UInt32) <<< UInt32.ofNat 8 = 0 from by decide, UInt32.zero_or, shl_or, shl_or, shl_or, shl_shl _ 8 8 16 rfl (by omega), shl_shl _ 8 16 24 rfl (by omega), shl_shl _ 8 8 16 rfl (by omega)]
  rfl
theorem part4 (p : List UInt8) (i : Nat) : partW p i 4 = word0 p i := by
  unfold word0
  rw [← be4_join]
  rfl
theorem word0_take (bs : List UInt8) (i : Nat) (hi : i < 16) : word0 (bs.take 64) i = word0 bs i := by
  unfold word0
  have h : ∀ k, k < 64 → (bs.take 64)[k]? = bs[k]? := fun k hk => by rw [List.getElem?_take, if_pos hk]
  rw [h _ (by omega), h _ (by omega), h _ (by omega), h _ (by omega)]
abbrev stObj (S : St) (pv : Value) (n : Int) : Obj := .cells #[.int .u32 (S.a.toNat : Int), .int .u32 (S.b.toNat : Int), .int .u32 (S.c.toNat : Int), .int .u32 (S.d.toNat : Int), .int .u32 (S.e.toNat : Int), .int .u32 (S.f.toNat : Int), .int .u32 (S.g.toNat : Int), .int .u32 (S.h.toNat : Int), pv, .int .i64 n] 80 (0, 0)
theorem stCells {w : World} {P : Nat} {S : St} {pv : Value} {n : Int} (h : w.heap[P]? = some (stObj S pv n)) :
    w.cell? ⟨P, 0, none⟩ = some (.int .u32 (S.a.toNat : Int)) ∧ w.cell? ⟨P, 1, none⟩ = some (.int .u32 (S.b.toNat : Int)) ∧ w.cell? ⟨P, 2, none⟩ = some (.int .u32 (S.c.toNat : Int)) ∧ w.cell? ⟨P, 3, none⟩ = some (.int .u32 (S.d.toNat : Int)) ∧ w.cell? ⟨P, 4, none⟩ = some (.int .u32 (S.e.toNat : Int)) ∧ w.cell? ⟨P, 5, none⟩ = some (.int .u32 (S.f.toNat : Int)) ∧ w.cell? ⟨P, 6, none⟩ = some (.int .u32 (S.g.toNat : Int)) ∧ w.cell? ⟨P, 7, none⟩ = some (.int .u32 (S.h.toNat : Int)) ∧ w.cell? ⟨P, 8, none⟩ = some pv ∧ w.cell? ⟨P, 9, none⟩ = some (.int .i64 n) := by
  refine ⟨?_, ?_, ?_, ?_, ?_, ?_, ?_, ?_, ?_, ?_⟩ <;> simp [World.cell?, h]
/-- the table of constants lies in block g -/
def KTab (w : World) (g : Nat) : Prop := ∀ i, i < 64 → w.cell? ⟨g, i, none⟩ = some (.int .u32 ((kAt i).toNat : Int))
theorem Ww.new (w : World) (T : TypeId) (n : Nat) (l : List Value) (hl : l = List.replicate n (.int .u32 0)) : Ww (w.alloc (.cells l.toArray T)) w.heap.size n (fun _ => 0) := by
  subst hl
  intro j hj
  have hb := heap_alloc_new w (.cells (List.replicate n (.int .u32 0)).toArray T)
  refine ⟨?_, by simp only [World.frozen?, hb]; simp⟩
  rw [cell_of_row _ _ j _ _ _ hb]
  simp [hj]
/-- a state's words, by number -/
def blkC (X : St) (k : Nat) : UInt32 := [X.a, X.b, X.c, X.d, X.e, X.f, X.g, X.h][k]?.getD 0
def mixS (S X : St) (k : Nat) : St := ⟨if 0 < k then S.a + X.a else S.a, if 1 < k then S.b + X.b else S.b, if 2 < k then S.c + X.c else S.c, if 3 < k then S.d + X.d else S.d, if 4 < k then S.e + X.e else S.e, if 5 < k then S.f + X.f else S.f, if 6 < k then S.g + X.g else S.g, if 7 < k then S.h + X.h else S.h⟩
theorem mix8 (S : St) (p : List UInt8) : mixS S (rounds p S 64) 8 = blockS S p := rfl
theorem run_idx8 (X : St) (k : Nat) (hk : k < 8) (w : World) : (Instr.index 77 (.agg #[.int .u32 (X.a.toNat : Int), .int .u32 (X.b.toNat : Int), .int .u32 (X.c.toNat : Int), .int .u32 (X.d.toNat : Int), .int .u32 (X.e.toNat : Int), .int .u32 (X.f.toNat : Int), .int .u32 (X.g.toNat : Int), .int .u32 (X.h.toNat : Int)]) (.int .i64 (k : Int))).run Tryd.prog w = .ok (.int .u32 ((blkC X k).toNat : Int)) w := by
  rcases k with _ | _ | _ | _ | _ | _ | _ | _ | k
  all_goals first | omega | kernel_rfl
theorem mix_cell {w : World} {P : Nat} {S X : St} {pv : Value} {n : Int} {k : Nat} (h : w.heap[P]? = some (stObj (mixS S X k) pv n)) (hk : k < 8) :
    w.cell? ⟨P, k, none⟩ = some (.int .u32 ((blkC S k).toNat : Int)) ∧ w.frozen? ⟨P, k, none⟩ = false ∧ (w.setCell ⟨P, k, none⟩ (.int .u32 ((blkC S k + blkC X k).toNat : Int))).heap[P]? = some (stObj (mixS S X (k + 1)) pv n) := by
  refine ⟨?_, by simp [World.frozen?, h], ?_⟩
  · rcases k with _ | _ | _ | _ | _ | _ | _ | _ | k
    all_goals first | omega | (simp [World.cell?, h, mixS, blkC]; done)
  · rcases k with _ | _ | _ | _ | _ | _ | _ | _ | k
    all_goals first | omega | (simp [World.setCell, Array.getElem?_modify, h, mixS, blkC]; done)
set_option maxRecDepth 100000 in
set_option maxHeartbeats 2000000 in
theorem kBlock_any (P : Nat) (S : St) (pv : Value) (nn : Int) (v : Value) (bs : List UInt8) (w : World) (hP : w.heap[P]? = some (stObj S pv nn)) (hv : SB w w.heap.size v bs) (h64 : 64 ≤ bs.length) (hbl : bs.length ≤ 9223372036854775807) (hk : KTab w 1) (_hP1 : P ≠ 1) (h1 : 1 < w.heap.size) :
    Calls Tryd.prog 47 #[.pointer (some ⟨P, 0, none⟩), v] w fun e w' => e = .returned (.tuple #[]) ∧ w'.heap[P]? = some (stObj (blockS S (bs.take 64)) pv nn) ∧ w.grownBy w' (some P) := by
  obtain ⟨A, c, rfl, hlc, hcm, hr⟩ := hv
  have hcm2 : c ≤ 9223372036854775807 := by unfold maxLen at hcm; omega
  clear hcm
  have hPl : P < w.heap.size := (Array.getElem?_eq_some_iff.1 hP).1
  go_enter Tryd.func47, Tryd.ntmps47
  go_upto_region 1 with fail
  generalize hWW : w.alloc _ = W
  have hW0 : Ww W w.heap.size 64 (fun _ => 0) := by rw [← hWW]; exact Ww.new w _ 64 _ (by kernel_rfl)
  have hbW : Below w.heap.size w W := by rw [← hWW]; exact balloc (bself w) _
  have hWs : W.heap.size = w.heap.size + 1 := by rw [← hWW]; simp
  clear hWW
  have x2 : ∀ x : UInt32, (x.toNat : Int) * (256 : Int) % (4294967296 : Int) = ((shlW x 8).toNat : Int) := fun x => W_shl x 8 (by omega) 256 rfl
  go_wp2_with fail
  go_loopw [24] (fun iv wr => ∃ (i : Nat) (f : Nat → UInt32), iv = .int .i64 i ∧ i ≤ 16 ∧ Ww wr w.heap.size 64 f ∧ (∀ j, j < 64 → f j = if j < i then word0 bs j else 0) ∧ Below w.heap.size w wr) (fun iv _ => 16 - (intOf iv).toNat)
  case atStart => exact ⟨0, _, rfl, Nat.zero_le _, hW0, fun j _ => by simp, hbW⟩
  case round =>
    obtain ⟨i, f, rfl, hi, hf, hfi, hbr⟩ := hrel
    clear hW0
    have hzr := hbr.size
    by_cases hlt : i < 16
    · obtain ⟨b, o, rfl, hb, hc⟩ := hr.at_ (by omega)
      have hcb : ∀ j (hj : j < bs.length), w.cell? ⟨b, o + j, none⟩ = some (.int .u8 ((bs[j].toNat : Nat) : Int)) := fun j hj => hc j _ (bv_get bs j hj)
      have HCB := Lib.hid hcb
      have HFI := Lib.hid hfi
      clear hc hcb hfi
      go_wp2_with fail
      have hbw0 : Below w.heap.size w wr := hbr
      go_loopw [35] (fun jv wy => ∃ (j : Nat) (g : Nat → UInt32), jv = .int .i64 j ∧ j ≤ 4 ∧ Ww wy w.heap.size 64 g ∧ Hid (g i = partW bs i j ∧ ∀ k, k < 64 → k ≠ i → g k = f k) ∧ Below w.heap.size w wy) (fun jv _ => 4 - (intOf jv).toNat)
      case atStart => exact ⟨0, f, rfl, by omega, hf, Lib.hid ⟨by rw [HFI.out i (by omega)]; simp [partW], fun _ _ _ => rfl⟩, hbw0⟩
      case round =>
        obtain ⟨j, g, rfl, hj, hg, HG, hby⟩ := hrel
        clear hf
        by_cases hj4 : j < 4
        · have hix : 4 * i + j < bs.length := by omega
          have cb := (hby.cell (p := ⟨b, o + (4 * i + j), none⟩) (by simp; omega)).trans (HCB.out (4 * i + j) hix)
          rw [← Nat.add_assoc] at cb
          have HB : Hid (bs[4 * i + j]?.getD 0 = bs[4 * i + j]) := Lib.hid (by rw [List.getElem?_eq_getElem hix]; rfl)
          generalize hbb : bs[4 * i + j] = bb at cb HB
          clear hbb
          obtain ⟨cw, fw⟩ := hg i (by omega)
          have x3 : ∀ a : UInt32, bits .or .u32 (a.toNat : Int) ((bb.toNat : Int) % (4294967296 : Int)) = ((orW a (ofB bb)).toNat : Int) := fun a => by
            have hlt := u8_lt256 bb
            rw [← W_or, Int.emod_eq_of_lt (by omega) (by omega)]; rfl
          have hgs := hg.set i (joinB (g i) bb) (by omega)
          unfold joinB at hgs
          have hbs : ∀ v, Below w.heap.size w (wr.setCell ⟨w.heap.size, i, none⟩ v) := fun v => hby.setCell (Nat.le_refl _) v
          go_wp2_with fail
          go_roundw
          case rel => exact ⟨j + 1, _, by go_num, by omega, hgs, Lib.hid ⟨by simp only [if_true, partW, joinB, HB.out, HG.out.1], fun k hk hne => by simp only [if_neg hne]; exact HG.out.2 k hk hne⟩, hbs _⟩
          case measure => simp [intOf]; omega
        · have hj5 : j = 4 := by omega
          subst hj5
          go_wp2_with fail
          go_roundw
          case rel => exact ⟨i + 1, g, by go_num, by omega, hg, fun k hk => by
            by_cases hki : k = i
            · subst hki; rw [HG.out.1, if_pos (by omega), part4]
            · rw [HG.out.2 k hk hki, HFI.out k hk]
              by_cases h1 : k < i
              · rw [if_pos h1, if_pos (by omega)]
              · rw [if_neg h1, if_neg (by omega)], hby⟩
          case measure => simp [intOf]; omega
    · have hi16 : i = 16 := by omega
      subst hi16
      have HFI := Lib.hid hfi
      clear hfi
      go_wp2_with fail
      have hbw0 : Below w.heap.size w wr := hbr
      go_loopw [8] (fun iv wy => ∃ (n : Nat) (g : Nat → UInt32), iv = .int .i64 ((n : Int) + 16) ∧ n ≤ 48 ∧ Ww wy w.heap.size 64 g ∧ Hid (∀ j, j < n + 16 → g j = wordAt (bs.take 64) j) ∧ Below w.heap.size w wy) (fun iv _ => 64 - (intOf iv).toNat)
      case atStart => exact ⟨0, f, rfl, by omega, hf, Lib.hid (fun j hj => by rw [HFI.out j (by omega), if_pos (by omega), wordAt_first _ _ (by omega), word0_take bs j (by omega)]), hbw0⟩
      case round =>
        obtain ⟨n, g, rfl, hn, hg, HG, hby⟩ := hrel
        clear hf HFI
        have hzy := hby.size
        by_cases hlt : n < 48
        · obtain ⟨c1, _⟩ := hg (n + 1) (by omega)
          obtain ⟨c2, _⟩ := hg (n + 14) (by omega)
          go_wp2_with fail
          go_quiet (fail)
          go_upto_region 14 with fail
          clear c1 c2
          have x1 := W_or
          have x4 := W_xor
          have x5 : ∀ a b : UInt32, IntKind.u32.wrap ((a.toNat : Int) + (b.toNat : Int)) = ((addW a b).toNat : Int) := W_addk
          have x6 : ∀ x : UInt32, (x.toNat : Int) / (8 : Int) = ((shrW x 3).toNat : Int) := fun x => W_shr x 3 (by omega) 8 rfl
          have x7 : ∀ x : UInt32, (x.toNat : Int) / (1024 : Int) = ((shrW x 10).toNat : Int) := fun x => W_shr x 10 (by omega) 1024 rfl
          have hgd : Ww (wr.drewN nq).drew w.heap.size 64 g := hg
          have hyd : Below w.heap.size w (wr.drewN nq).drew := bdrew (bdrewN hby nq)
          have y1 : IntKind.i64.wrap (n : Int) = (n : Int) := IntWalk.i64_in _ (by omega)
          have y2 : IntKind.i64.wrap ((n : Int) + 16 - 7) = ((n + 9 : Nat) : Int) := (IntWalk.i64_in _ (by omega)).trans (by omega)
          have y3 : IntKind.i64.wrap ((n : Int) + 16) = ((n + 16 : Nat) : Int) := (IntWalk.i64_in _ (by omega)).trans (by omega)
          have y4 : (n : Int) < 64 := by omega
          have y5 : ((n + 9 : Nat) : Int) < 64 := by omega
          have y6 : ((n + 16 : Nat) : Int) < 64 := by omega
          have y7 : (n : Int) + 9 < 64 := by omega
          have y8 : (n : Int) + 16 < 64 := by omega
          have y9 : (0 : Int) ≤ (n : Int) + 9 := by omega
          have y11 : ((n : Int) + 9).toNat = n + 9 := by omega
          have y12 : ((n : Int) + 16).toNat = n + 16 := by omega
          have y10 : (0 : Int) ≤ (n : Int) + 16 := by omega
          obtain ⟨c0, _⟩ := hgd n (by omega)
          obtain ⟨c9, _⟩ := hgd (n + 9) (by omega)
          obtain ⟨cs, fs⟩ := hgd (n + 16) (by omega)
          have HS := Lib.hid (And.intro c0 c9)
          have HT := Lib.hid (And.intro cs fs)
          clear c0 c9 cs fs
          refine wp_region_noPanic ?_
          refine wp_region_held_drew (S := fun w' => w'.cell? ⟨w.heap.size, n, none⟩ = some (.int .u32 ((g n).toNat : Int)) ∧ w'.cell? ⟨w.heap.size, n + 9, none⟩ = some (.int .u32 ((g (n + 9)).toNat : Int))) (by kernel_rfl) HS.out (fun hHeld => ?_)
          refine reg_take 0 (v := ?_) (by rfl) (by kernel_rfl) (by kernel_rfl) (by kernel_rfl) (fun _ _ _ h => h) (by rfl) ?_ (by assumption) ?_
          rotate_left
          · (intro wq hSq; (try dsimp only at hSq); go_split_ands; go_simp; (try with_reducible rfl))
          try simp only [Act.put, List.setIfInBounds_toArray, List.set_cons_zero, List.set_cons_succ]
          refine reg_take 1 (v := ?_) (by rfl) (by kernel_rfl) (by kernel_rfl) (by kernel_rfl) (fun _ _ _ h => h) (by rfl) ?_ (by assumption) ?_
          rotate_left
          · (intro wq hSq; (try dsimp only at hSq); go_split_ands; go_simp; (try with_reducible rfl))
          try simp only [Act.put, List.setIfInBounds_toArray, List.set_cons_zero, List.set_cons_succ]
          refine reg_take 2 (v := ?_) (by rfl) (by kernel_rfl) (by kernel_rfl) (by kernel_rfl) (fun _ _ _ h => h) (by rfl) ?_ (by assumption) ?_
          rotate_left
          · (intro wq hSq; (try dsimp only at hSq); go_split_ands; go_simp; (try with_reducible rfl))
          try simp only [Act.put, List.setIfInBounds_toArray, List.set_cons_zero, List.set_cons_succ]
          refine reg_take 3 (v := ?_) (by rfl) (by kernel_rfl) (by kernel_rfl) (by kernel_rfl) (fun _ _ _ h => h) (by rfl) ?_ (by assumption) ?_
          rotate_left
          · (intro wq hSq; (try dsimp only at hSq); go_split_ands; go_simp; (try with_reducible rfl))
          try simp only [Act.put, List.setIfInBounds_toArray, List.set_cons_zero, List.set_cons_succ]
          refine reg_take 4 (v := ?_) (by rfl) (by kernel_rfl) (by kernel_rfl) (by kernel_rfl) (fun _ _ _ h => h) (by rfl) ?_ (by assumption) ?_
          rotate_left
          · (intro wq hSq; (try dsimp only at hSq); go_split_ands; go_simp; (try with_reducible rfl))
          try simp only [Act.put, List.setIfInBounds_toArray, List.set_cons_zero, List.set_cons_succ]
          refine reg_take 5 (v := ?_) (by rfl) (by kernel_rfl) (by kernel_rfl) (by kernel_rfl) (fun _ _ _ h => h) (by rfl) ?_ (by assumption) ?_
          rotate_left
          · (intro wq hSq; (try dsimp only at hSq); go_split_ands; go_simp; (try with_reducible rfl))
          try simp only [Act.put, List.setIfInBounds_toArray, List.set_cons_zero, List.set_cons_succ]
          refine reg_take 6 (v := ?_) (by rfl) (by kernel_rfl) (by kernel_rfl) (by kernel_rfl) (fun _ _ _ h => h) (by rfl) ?_ (by assumption) ?_
          rotate_left
          · (intro wq hSq; (try dsimp only at hSq); go_split_ands; go_simp; (try with_reducible rfl))
          try simp only [Act.put, List.setIfInBounds_toArray, List.set_cons_zero, List.set_cons_succ]
          refine reg_take 7 (v := ?_) (by rfl) (by kernel_rfl) (by kernel_rfl) (by kernel_rfl) (fun _ _ _ h => h) (by rfl) ?_ (by assumption) ?_
          rotate_left
          · (intro wq hSq; (try dsimp only at hSq); go_split_ands; go_simp; (try with_reducible rfl))
          try simp only [Act.put, List.setIfInBounds_toArray, List.set_cons_zero, List.set_cons_succ]
          refine reg_take 8 (v := ?_) (by rfl) (by kernel_rfl) (by kernel_rfl) (by kernel_rfl) (fun _ _ _ h => h) (by rfl) ?_ (by assumption) ?_
          rotate_left
          · (intro wq hSq; (try dsimp only at hSq); go_split_ands; go_simp; (try with_reducible rfl))
          try simp only [Act.put, List.setIfInBounds_toArray, List.set_cons_zero, List.set_cons_succ]
          refine reg_take 9 (v := ?_) (by rfl) (by kernel_rfl) (by kernel_rfl) (by kernel_rfl) (fun _ _ _ h => h) (by rfl) ?_ (by assumption) ?_
          rotate_left
          · (intro wq hSq; (try dsimp only at hSq); go_split_ands; go_simp; (try with_reducible rfl))
          try simp only [Act.put, List.setIfInBounds_toArray, List.set_cons_zero, List.set_cons_succ]
          refine reg_take 10 (v := ?_) (by rfl) (by kernel_rfl) (by kernel_rfl) (by kernel_rfl) (fun _ _ _ h => h) (by rfl) ?_ (by assumption) ?_
          rotate_left
          · (intro wq hSq; (try dsimp only at hSq); go_split_ands; go_simp; (try with_reducible rfl))
          try simp only [Act.put, List.setIfInBounds_toArray, List.set_cons_zero, List.set_cons_succ]
          refine reg_take 12 (v := ?_) (by rfl) (by kernel_rfl) (by kernel_rfl) (by kernel_rfl) (fun _ _ _ h => h) (by rfl) ?_ (by assumption) ?_
          rotate_left
          · (intro wq hSq; (try dsimp only at hSq); go_split_ands; go_simp; (try with_reducible rfl))
          try simp only [Act.put, List.setIfInBounds_toArray, List.set_cons_zero, List.set_cons_succ]
          refine reg_take 15 (v := ?_) (by rfl) (by kernel_rfl) (by kernel_rfl) (by kernel_rfl) (fun _ _ _ h => h) (by rfl) ?_ (by assumption) ?_
          rotate_left
          · (intro wq hSq; (try dsimp only at hSq); go_split_ands; go_simp; (try with_reducible rfl))
          try simp only [Act.put, List.setIfInBounds_toArray, List.set_cons_zero, List.set_cons_succ]
          refine reg_take 16 (v := ?_) (by rfl) (by kernel_rfl) (by kernel_rfl) (by kernel_rfl) (fun _ _ _ h => h) (by rfl) ?_ (by assumption) ?_
          rotate_left
          · (intro wq hSq; (try dsimp only at hSq); go_split_ands; go_simp; (try with_reducible rfl))
          try simp only [Act.put, List.setIfInBounds_toArray, List.set_cons_zero, List.set_cons_succ]
          refine reg_take 19 (v := ?_) (by rfl) (by kernel_rfl) (by kernel_rfl) (by kernel_rfl) (fun _ _ _ h => h) (by rfl) ?_ (by assumption) ?_
          rotate_left
          · (intro wq hSq; (try dsimp only at hSq); go_split_ands; go_simp; (try with_reducible rfl))
          try simp only [Act.put, List.setIfInBounds_toArray, List.set_cons_zero, List.set_cons_succ]
          refine reg_take 21 (v := ?_) (by rfl) (by kernel_rfl) (by kernel_rfl) (by kernel_rfl) (fun _ _ _ h => h) (by rfl) ?_ (by assumption) ?_
          rotate_left
          · (intro wq hSq; (try dsimp only at hSq); go_split_ands; go_simp; (try with_reducible rfl))
          try simp only [Act.put, List.setIfInBounds_toArray, List.set_cons_zero, List.set_cons_succ]
          refine reg_take 24 (v := ?_) (by rfl) (by kernel_rfl) (by kernel_rfl) (by kernel_rfl) (fun _ _ _ h => h) (by rfl) ?_ (by assumption) ?_
          rotate_left
          · (intro wq hSq; (try dsimp only at hSq); go_split_ands; go_simp; (try with_reducible rfl))
          try simp only [Act.put, List.setIfInBounds_toArray, List.set_cons_zero, List.set_cons_succ]
          refine reg_take 25 (v := ?_) (by rfl) (by kernel_rfl) (by kernel_rfl) (by kernel_rfl) (fun _ _ _ h => h) (by rfl) ?_ (by assumption) ?_
          rotate_left
          · (intro wq hSq; (try dsimp only at hSq); go_split_ands; go_simp; (try with_reducible rfl))
          try simp only [Act.put, List.setIfInBounds_toArray, List.set_cons_zero, List.set_cons_succ]
          refine reg_one 11 (by rfl) (by kernel_rfl) (by rfl) (fun K hK => ?_)
          (go_simp; go_at_call 48; refine (kRight7 _ _).mono ?_; rintro e1 w5 ⟨rfl, rfl⟩; go_wp2_with fail)
          refine hK.out _ _ ?_ (fun hHeld => ?_)
          · exact HS.out
          clear hK K
          try simp only [Act.put, List.setIfInBounds_toArray, List.set_cons_zero, List.set_cons_succ]
          refine reg_one 13 (by rfl) (by kernel_rfl) (by rfl) (fun K hK => ?_)
          (go_simp; go_at_call 48; refine (kRight18 _ _).mono ?_; rintro e1 w5 ⟨rfl, rfl⟩; go_wp2_with fail)
          refine hK.out _ _ ?_ (fun hHeld => ?_)
          · exact HS.out
          clear hK K
          try simp only [Act.put, List.setIfInBounds_toArray, List.set_cons_zero, List.set_cons_succ]
          refine reg_take 14 (v := ?_) (by rfl) (by kernel_rfl) (by kernel_rfl) (by kernel_rfl) (fun _ _ _ h => h) (by rfl) ?_ (by assumption) ?_
          rotate_left
          · (intro wq hSq; (try dsimp only at hSq); go_split_ands; go_simp; (try with_reducible rfl))
          try simp only [Act.put, List.setIfInBounds_toArray, List.set_cons_zero, List.set_cons_succ]
          refine reg_take 17 (v := ?_) (by rfl) (by kernel_rfl) (by kernel_rfl) (by kernel_rfl) (fun _ _ _ h => h) (by rfl) ?_ (by assumption) ?_
          rotate_left
          · (intro wq hSq; (try dsimp only at hSq); go_split_ands; go_simp; (try with_reducible rfl))
          try simp only [Act.put, List.setIfInBounds_toArray, List.set_cons_zero, List.set_cons_succ]
          refine reg_take 18 (v := ?_) (by rfl) (by kernel_rfl) (by kernel_rfl) (by kernel_rfl) (fun _ _ _ h => h) (by rfl) ?_ (by assumption) ?_
          rotate_left
          · (intro wq hSq; (try dsimp only at hSq); go_split_ands; go_simp; (try with_reducible rfl))
          try simp only [Act.put, List.setIfInBounds_toArray, List.set_cons_zero, List.set_cons_succ]
          refine reg_one 20 (by rfl) (by kernel_rfl) (by rfl) (fun K hK => ?_)
          (go_simp; go_at_call 48; refine (kRight17 _ _).mono ?_; rintro e1 w5 ⟨rfl, rfl⟩; go_wp2_with fail)
          refine hK.out _ _ ?_ (fun hHeld => ?_)
          · exact HS.out
          clear hK K
          try simp only [Act.put, List.setIfInBounds_toArray, List.set_cons_zero, List.set_cons_succ]
          refine reg_one 22 (by rfl) (by kernel_rfl) (by rfl) (fun K hK => ?_)
          (go_simp; go_at_call 48; refine (kRight19 _ _).mono ?_; rintro e1 w5 ⟨rfl, rfl⟩; go_wp2_with fail)
          refine hK.out _ _ ?_ (fun hHeld => ?_)
          · exact HS.out
          clear hK K
          try simp only [Act.put, List.setIfInBounds_toArray, List.set_cons_zero, List.set_cons_succ]
          refine reg_take 23 (v := ?_) (by rfl) (by kernel_rfl) (by kernel_rfl) (by kernel_rfl) (fun _ _ _ h => h) (by rfl) ?_ (by assumption) ?_
          rotate_left
          · (intro wq hSq; (try dsimp only at hSq); go_split_ands; go_simp; (try with_reducible rfl))
          try simp only [Act.put, List.setIfInBounds_toArray, List.set_cons_zero, List.set_cons_succ]
          refine reg_take 26 (v := ?_) (by rfl) (by kernel_rfl) (by kernel_rfl) (by kernel_rfl) (fun _ _ _ h => h) (by rfl) ?_ (by assumption) ?_
          rotate_left
          · (intro wq hSq; (try dsimp only at hSq); go_split_ands; go_simp; (try with_reducible rfl))
          try simp only [Act.put, List.setIfInBounds_toArray, List.set_cons_zero, List.set_cons_succ]
          refine reg_take 27 (v := ?_) (by rfl) (by kernel_rfl) (by kernel_rfl) (by kernel_rfl) (fun _ _ _ h => h) (by rfl) ?_ (by assumption) ?_
          rotate_left
          · (intro wq hSq; (try dsimp only at hSq); go_split_ands; go_simp; (try with_reducible rfl))
          try simp only [Act.put, List.setIfInBounds_toArray, List.set_cons_zero, List.set_cons_succ]
          refine reg_take 28 (v := ?_) (by rfl) (by kernel_rfl) (by kernel_rfl) (by kernel_rfl) (fun _ _ _ h => h) (by rfl) ?_ (by assumption) ?_
          rotate_left
          · (intro wq hSq; (try dsimp only at hSq); go_split_ands; go_simp; (try with_reducible rfl))
          try simp only [Act.put, List.setIfInBounds_toArray, List.set_cons_zero, List.set_cons_succ]
          have cs : (wr.drewN (nq + 1)).cell? ⟨w.heap.size, n + 16, none⟩ = some (.int .u32 ((g (n + 16)).toNat : Int)) := HT.out.1
          have fs : (wr.drewN (nq + 1)).frozen? ⟨w.heap.size, n + 16, none⟩ = false := HT.out.2
          obtain ⟨V, hV⟩ : ∃ V, V = addW (addW (addW (g n) (g (n + 9))) (xorW (xorW (rotr (g (n + 1)) 7) (rotr (g (n + 1)) 18)) (shrW (g (n + 1)) 3))) (xorW (xorW (rotr (g (n + 14)) 17) (rotr (g (n + 14)) 19)) (shrW (g (n + 14)) 10)) := ⟨_, rfl⟩
          have hgd2 : Ww (wr.drewN (nq + 1)) w.heap.size 64 g := hg
          have hyd2 : Below w.heap.size w (wr.drewN (nq + 1)) := bdrewN hby (nq + 1)
          have hgs := hgd2.set (n + 16) V (by omega)
          have hys : Below w.heap.size w ((wr.drewN (nq + 1)).setCell ⟨w.heap.size, n + 16, none⟩ (.int .u32 (V.toNat : Int))) := hyd2.setCell (Nat.le_refl _) _
          have HS2 : Hid (((wr.drewN (nq + 1)).setCell ⟨w.heap.size, n + 16, none⟩ (.int .u32 (V.toNat : Int))).cell? ⟨w.heap.size, n, none⟩ = some (.int .u32 ((g n).toNat : Int)) ∧ ((wr.drewN (nq + 1)).setCell ⟨w.heap.size, n + 16, none⟩ (.int .u32 (V.toNat : Int))).cell? ⟨w.heap.size, n + 9, none⟩ = some (.int .u32 ((g (n + 9)).toNat : Int))) := Lib.hid (by
            refine ⟨(hgs n (by omega)).1.trans ?_, (hgs (n + 9) (by omega)).1.trans ?_⟩
            · show some (Value.int .u32 (((if n = n + 16 then V else g n).toNat : Nat) : Int)) = _
              rw [if_neg (by omega)]
            · show some (Value.int .u32 (((if n + 9 = n + 16 then V else g (n + 9)).toNat : Nat) : Int)) = _
              rw [if_neg (by omega)])
          have HVV : Hid (V = wordAt (bs.take 64) (n + 16)) := Lib.hid (by
            rw [hV, HG.out n (by omega), HG.out (n + 9) (by omega), HG.out (n + 1) (by omega), HG.out (n + 14) (by omega), Nat.add_comm n 16, wordAt_next _ n hlt]
            rfl)
          refine reg_one 29 (by rfl) (by kernel_rfl) (by rfl) (fun K hK => ?_)
          (go_simp; rw [← hV])
          refine hK.out _ _ ?_ (fun hHeld => ?_)
          · exact HS2.out
          clear hK K
          try simp only [Act.put, List.setIfInBounds_toArray, List.set_cons_zero, List.set_cons_succ]
          refine wpAnyH_done (by kernel_rfl) (noPanic_mk ?_) _
          go_wp2_with fail
          go_roundw
          case rel =>
            have hr2 : ∃ (m : Nat) (g2 : Nat → UInt32), Value.int .i64 ((n : Int) + 16 + 1) = .int .i64 ((m : Int) + 16) ∧ m ≤ 48 ∧ Ww ((wr.drewN (nq + 1)).setCell ⟨w.heap.size, n + 16, none⟩ (.int .u32 (V.toNat : Int))) w.heap.size 64 g2 ∧ Hid (∀ j, j < m + 16 → g2 j = wordAt (bs.take 64) j) ∧ Below w.heap.size w ((wr.drewN (nq + 1)).setCell ⟨w.heap.size, n + 16, none⟩ (.int .u32 (V.toNat : Int))) := by
              refine ⟨n + 1, _, by congr 1, by omega, hgs, Lib.hid (fun j hj => ?_), hys⟩
              show (if j = n + 16 then V else g j) = _
              by_cases e : j = n + 16
              · rw [if_pos e, HVV.out, e]
              · rw [if_neg e, HG.out j (by omega)]
            rw [hV] at hr2
            (repeat apply Exists.intro)
            exact ⟨hr2, rfl⟩
          case measure => simp [intOf]; omega
        · have hn48 : n = 48 := by omega
          subst hn48
          go_upto_region 15 with fail
          have rP : wr.heap[P]? = some (stObj S pv nn) := (hby.block P hPl).trans hP
          obtain ⟨p0, p1, p2, p3, p4, p5, p6, p7, _⟩ := stCells rP
          go_quiet (fail)
          clear p0 p1 p2 p3 p4 p5 p6 p7
          have hgq : Ww (wr.drewN nq) w.heap.size 64 g := hg
          have hyq : Below w.heap.size w (wr.drewN nq) := bdrewN hby nq
          generalize wr.drewN nq = wq at hgq hyq
          go_wp2_with fail
          go_loopw [11, 12, 13, 14, 15, 16, 17, 18, 131] (fun va vb vc vd ve vf vg vh iv wy => ∃ (m : Nat) (X : St), iv = .int .i64 m ∧ m ≤ 64 ∧ Hid (X = rounds (bs.take 64) S m) ∧ va = .int .u32 (X.a.toNat : Int) ∧ vb = .int .u32 (X.b.toNat : Int) ∧ vc = .int .u32 (X.c.toNat : Int) ∧ vd = .int .u32 (X.d.toNat : Int) ∧ ve = .int .u32 (X.e.toNat : Int) ∧ vf = .int .u32 (X.f.toNat : Int) ∧ vg = .int .u32 (X.g.toNat : Int) ∧ vh = .int .u32 (X.h.toNat : Int) ∧ Ww wy w.heap.size 64 g ∧ Below w.heap.size w wy) (fun _ _ _ _ _ _ _ _ iv _ => 64 - (intOf iv).toNat)
          case atStart => exact ⟨0, S, rfl, by omega, Lib.hid rfl, rfl, rfl, rfl, rfl, rfl, rfl, rfl, rfl, hgq, hyq⟩
          case round =>
            obtain ⟨m, X, rfl, hm, HX, rfl, rfl, rfl, rfl, rfl, rfl, rfl, rfl, hgm, hbm⟩ := hrel
            clear hg hgq
            by_cases hlt : m < 64
            · obtain ⟨c1, _⟩ := hgm m hlt
              have c2 := (hbm.cell (p := ⟨1, m, none⟩) (show 1 < w.heap.size by omega)).trans (hk m hlt)
              have HW : Hid (g m = wordAt (bs.take 64) m) := Lib.hid (HG.out m (by omega))
              obtain ⟨Xa, Xb, Xc, Xd, Xe, Xf, Xg, Xh⟩ := X
              generalize g m = gw at c1 HW
              generalize hkm : kAt m = km at c2
              have HKM := Lib.hid hkm
              clear hkm
              have x1 := W_or
              have x3 := W_and
              have x4 := W_xor
              have x5 : ∀ a b : UInt32, IntKind.u32.wrap ((a.toNat : Int) + (b.toNat : Int)) = ((addW a b).toNat : Int) := W_addk
              have x6 : ∀ a b : UInt32, ((a.toNat : Int) + (b.toNat : Int)) % (4294967296 : Int) = ((addW a b).toNat : Int) := W_add
              go_upto_region 19 with fail
              go_quiet (first | with_reducible exact kRightq6 _ _ _ | with_reducible exact kRightq11 _ _ _ | with_reducible exact kRightq25 _ _ _)
              have HR : Hid (round1 ⟨Xa, Xb, Xc, Xd, Xe, Xf, Xg, Xh⟩ km gw = rounds (bs.take 64) S (m + 1)) := Lib.hid (by
                rw [rounds, ← HX.out, HKM.out, HW.out])
              go_wp2_with fail
              refine (kRight2 _ _).mono ?_
              rintro en w5 ⟨rfl, rfl⟩
              go_wp2_with fail
              refine (kRight13 _ _).mono ?_
              rintro en w5 ⟨rfl, rfl⟩
              go_wp2_with fail
              refine (kRight22 _ _).mono ?_
              rintro en w5 ⟨rfl, rfl⟩
              go_wp2_with fail
              go_roundw
              case rel =>
                (repeat apply Exists.intro)
                exact ⟨⟨m + 1, round1 ⟨Xa, Xb, Xc, Xd, Xe, Xf, Xg, Xh⟩ km gw, by congr 1, by omega, HR, rfl, rfl, rfl, rfl, rfl, rfl, rfl, rfl, hgm, bdrewN hbm _⟩, rfl⟩
              case measure => simp [intOf]; omega
            · have hm64 : m = 64 := by omega
              subst hm64
              have hix := fun (k : Nat) (hk8 : k < 8) (w5 : World) => run_idx8 X k hk8 w5
              obtain ⟨Xa, Xb, Xc, Xd, Xe, Xf, Xg, Xh⟩ := X
              have rP2 : wr.heap[P]? = some (stObj S pv nn) := (hbm.block P hPl).trans hP
              have hG0 : w.grownBy wr (some P) := ⟨hbm.os, hbm.tape, hbm.output, hbm.size, fun j hj _ => hbm.block j hj⟩
              have HIX := Lib.hid hix
              clear hix
              go_wp2_with fail
              go_loopw [200] (fun iv wy => ∃ k : Nat, iv = .int .i64 k ∧ k ≤ 8 ∧ wy.heap[P]? = some (stObj (mixS S ⟨Xa, Xb, Xc, Xd, Xe, Xf, Xg, Xh⟩ k) pv nn) ∧ w.grownBy wy (some P)) (fun iv _ => 8 - (intOf iv).toNat)
              case atStart => exact ⟨0, rfl, by omega, rP2, hG0⟩
              case round =>
                obtain ⟨k, rfl, hk8, hPk, hGk⟩ := hrel
                clear rP2 hG0
                by_cases hlt8 : k < 8
                · have hi8 := HIX.out k hlt8
                  obtain ⟨cP, fP, hnext⟩ := mix_cell hPk hlt8
                  have x5 : ∀ a b : UInt32, IntKind.u32.wrap ((a.toNat : Int) + (b.toNat : Int)) = ((addW a b).toNat : Int) := W_addk
                  have x6 : ∀ a b : UInt32, ((a.toNat : Int) + (b.toNat : Int)) % (4294967296 : Int) = ((addW a b).toNat : Int) := W_add
                  have y1 : (k : Int) < 8 := by omega
                  have bW : Hid (∀ v, w.grownBy ((wr.drew).setCell ⟨P, k, none⟩ v) (some P)) := Lib.hid (fun v => ⟨hGk.os, hGk.tape, hGk.output, by rw [World.size_setCell]; exact hGk.size, fun j hj hne => (Below.heap_setCell _ _ _ _ (fun e2 => hne (by rw [e2]))).trans (hGk.block j hj hne)⟩)
                  have HNX := Lib.hid hnext
                  clear hnext
                  go_upto_region 26 with fail
                  go_region
                  all_goals go_wp2_with fail
                  all_goals
                    go_roundw
                    case rel => exact ⟨k + 1, by go_num, by omega, HNX.out, bW.out _⟩
                    case measure => simp [intOf]; omega
                · have hk88 : k = 8 := by omega
                  subst hk88
                  have HM : Hid (mixS S ⟨Xa, Xb, Xc, Xd, Xe, Xf, Xg, Xh⟩ 8 = blockS S (bs.take 64)) := Lib.hid (by rw [HX.out]; exact mix8 S _)
                  go_wp2_with fail
                  exact bodyPost_end (v := .tuple #[]) (by simp [results, Tryd.results47, go_sem]) rfl ⟨rfl, by rw [← HM.out]; exact hPk, hGk⟩
end Go.Proofs.YtjkcdnangmjoeaaDoor
