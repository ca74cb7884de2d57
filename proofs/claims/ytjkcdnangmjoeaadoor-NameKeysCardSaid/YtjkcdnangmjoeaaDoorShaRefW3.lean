/-
  What is proved here: what the reference's block comes to, at this seat's numbers. (Under way.)
-/
import Derived.Test.YtjkcdnangmjoeaaDoorShaRefW2
namespace Go.Proofs.YtjkcdnangmjoeaaDoor
open Go.RowKit

abbrev arrV (S : St) : Value := .agg #[.int .u32 (S.a.toNat : Int), .int .u32 (S.b.toNat : Int), .int .u32 (S.c.toNat : Int), .int .u32 (S.d.toNat : Int), .int .u32 (S.e.toNat : Int), .int .u32 (S.f.toNat : Int), .int .u32 (S.g.toNat : Int), .int .u32 (S.h.toNat : Int)]
abbrev arrO (S : St) : Obj := .cells #[.int .u32 (S.a.toNat : Int), .int .u32 (S.b.toNat : Int), .int .u32 (S.c.toNat : Int), .int .u32 (S.d.toNat : Int), .int .u32 (S.e.toNat : Int), .int .u32 (S.f.toNat : Int), .int .u32 (S.g.toNat : Int), .int .u32 (S.h.toNat : Int)] 77 (0, 0)
theorem arrCells {w : World} {P : Nat} {S : St} (h : w.heap[P]? = some (arrO S)) :
    w.cell? ⟨P, 0, none⟩ = some (.int .u32 (S.a.toNat : Int)) ∧ w.cell? ⟨P, 1, none⟩ = some (.int .u32 (S.b.toNat : Int)) ∧ w.cell? ⟨P, 2, none⟩ = some (.int .u32 (S.c.toNat : Int)) ∧ w.cell? ⟨P, 3, none⟩ = some (.int .u32 (S.d.toNat : Int)) ∧ w.cell? ⟨P, 4, none⟩ = some (.int .u32 (S.e.toNat : Int)) ∧ w.cell? ⟨P, 5, none⟩ = some (.int .u32 (S.f.toNat : Int)) ∧ w.cell? ⟨P, 6, none⟩ = some (.int .u32 (S.g.toNat : Int)) ∧ w.cell? ⟨P, 7, none⟩ = some (.int .u32 (S.h.toNat : Int)) := by
  refine ⟨?_, ?_, ?_, ?_, ?_, ?_, ?_, ?_⟩ <;> simp [World.cell?, h]
theorem arr_set8 {w1 w : World} {P : Nat} {X Y : St} (h : w.heap[P]? = some (arrO X)) {B : Nat} (hBP : B ≤ P) (hb : Below B w1 w) :
    ((((((((w.setCell ⟨P, 0, none⟩ (.int .u32 (Y.a.toNat : Int))).setCell ⟨P, 1, none⟩ (.int .u32 (Y.b.toNat : Int))).setCell ⟨P, 2, none⟩ (.int .u32 (Y.c.toNat : Int))).setCell ⟨P, 3, none⟩ (.int .u32 (Y.d.toNat : Int))).setCell ⟨P, 4, none⟩ (.int .u32 (Y.e.toNat : Int))).setCell ⟨P, 5, none⟩ (.int .u32 (Y.f.toNat : Int))).setCell ⟨P, 6, none⟩ (.int .u32 (Y.g.toNat : Int))).setCell ⟨P, 7, none⟩ (.int .u32 (Y.h.toNat : Int))).heap[P]? = some (arrO Y) ∧
    Below B w1 ((((((((w.setCell ⟨P, 0, none⟩ (.int .u32 (Y.a.toNat : Int))).setCell ⟨P, 1, none⟩ (.int .u32 (Y.b.toNat : Int))).setCell ⟨P, 2, none⟩ (.int .u32 (Y.c.toNat : Int))).setCell ⟨P, 3, none⟩ (.int .u32 (Y.d.toNat : Int))).setCell ⟨P, 4, none⟩ (.int .u32 (Y.e.toNat : Int))).setCell ⟨P, 5, none⟩ (.int .u32 (Y.f.toNat : Int))).setCell ⟨P, 6, none⟩ (.int .u32 (Y.g.toNat : Int))).setCell ⟨P, 7, none⟩ (.int .u32 (Y.h.toNat : Int))) :=
  ⟨by simp [World.setCell, Array.getElem?_modify, h], (((((((hb.setCell hBP _).setCell hBP _).setCell hBP _).setCell hBP _).setCell hBP _).setCell hBP _).setCell hBP _).setCell hBP _⟩
def notW (x : UInt32) : UInt32 := ~~~x
theorem W_not (x : UInt32) : bits .xor .u32 (if IntKind.u32.signed = true then -1 else IntKind.u32.max) (x.toNat : Int) = ((notW x).toNat : Int) := by
  have h : (if IntKind.u32.signed = true then (-1 : Int) else IntKind.u32.max) = (((4294967295 : UInt32).toNat : Nat) : Int) := by decide
  rw [h, W_xor]
  have e : xorW 4294967295 x = notW x := by
    unfold xorW notW
    apply UInt32.eq_of_toBitVec_eq
    apply BitVec.eq_of_getLsbD_eq
    intro i hi
    have h2 : (4294967295 : UInt32).toBitVec = BitVec.allOnes 32 := by decide
    rw [UInt32.toBitVec_xor, UInt32.toBitVec_not, h2, BitVec.getLsbD_xor, BitVec.getLsbD_not, BitVec.getLsbD_allOnes]
    simp [hi]
  rw [e]
theorem mix_comm (S X : St) : mixS S X 8 = mixS X S 8 := by unfold mixS; simp [UInt32.add_comm]
abbrev zSt : St := ⟨0, 0, 0, 0, 0, 0, 0, 0⟩
theorem zO : arrO zSt = .cells #[.int .u32 0, .int .u32 0, .int .u32 0, .int .u32 0, .int .u32 0, .int .u32 0, .int .u32 0, .int .u32 0] 77 (0, 0) := by kernel_rfl
theorem mixA_cell {w : World} {P : Nat} {S X : St} {k : Nat} (h : w.heap[P]? = some (arrO (mixS S X k))) (hk : k < 8) :
    w.cell? ⟨P, k, none⟩ = some (.int .u32 ((blkC S k).toNat : Int)) ∧ w.frozen? ⟨P, k, none⟩ = false ∧ (w.setCell ⟨P, k, none⟩ (.int .u32 ((blkC S k + blkC X k).toNat : Int))).heap[P]? = some (arrO (mixS S X (k + 1))) := by
  refine ⟨?_, by simp [World.frozen?, h], ?_⟩
  · rcases k with _ | _ | _ | _ | _ | _ | _ | _ | k
    all_goals first | omega | (simp [World.cell?, h, mixS, blkC]; done)
  · rcases k with _ | _ | _ | _ | _ | _ | _ | _ | k
    all_goals first | omega | (simp [World.setCell, Array.getElem?_modify, h, mixS, blkC]; done)
theorem arrS_cell {w : World} {P : Nat} {S : St} {k : Nat} (h : w.heap[P]? = some (arrO S)) (hk : k < 8) : w.cell? ⟨P, k, none⟩ = some (.int .u32 ((blkC S k).toNat : Int)) := by
  rcases k with _ | _ | _ | _ | _ | _ | _ | _ | k
  all_goals first | omega | (simp [World.cell?, h, blkC]; done)
theorem brefl2 (w : World) (n B : Nat) : Below B w (w.drewN n) := ⟨rfl, rfl, rfl, Nat.le_refl _, fun _ _ => rfl⟩
set_option maxRecDepth 100000 in
set_option maxHeartbeats 2000000 in
theorem rBlock_any (S : St) (v : Value) (bs : List UInt8) (w : World) (hv : SB w w.heap.size v bs) (h64 : 64 ≤ bs.length) (hbl : bs.length ≤ 9223372036854775807) (hk : KTab w 0) (h0 : 0 < w.heap.size) :
    Calls Tryd.prog 42 #[arrV S, v] w fun e w' => e = .returned (arrV (blockS S (bs.take 64))) ∧ Below w.heap.size w w' := by
  obtain ⟨A, c, rfl, hlc, hcm, hr⟩ := id hv
  go_enter Tryd.func42, Tryd.ntmps42
  go_upto_region 1 with fail
  have rX : ((w.alloc (arrO S)).alloc (.cells #[.int .u32 0, .int .u32 0, .int .u32 0, .int .u32 0, .int .u32 0, .int .u32 0, .int .u32 0, .int .u32 0] 77)).heap[w.heap.size]? = some (arrO S) := (Below.heap_alloc _ _ _ (by simp)).trans (heap_alloc_new w _)
  have rZ : ((w.alloc (arrO S)).alloc (.cells #[.int .u32 0, .int .u32 0, .int .u32 0, .int .u32 0, .int .u32 0, .int .u32 0, .int .u32 0, .int .u32 0] 77)).heap[w.heap.size + 1]? = some (.cells #[.int .u32 0, .int .u32 0, .int .u32 0, .int .u32 0, .int .u32 0, .int .u32 0, .int .u32 0, .int .u32 0] 77 (0, 0)) := by
    have := heap_alloc_new (w.alloc (arrO S)) (.cells #[.int .u32 0, .int .u32 0, .int .u32 0, .int .u32 0, .int .u32 0, .int .u32 0, .int .u32 0, .int .u32 0] 77)
    rw [World.size_alloc] at this
    exact this
  have bA : Below w.heap.size w ((w.alloc (arrO S)).alloc (.cells #[.int .u32 0, .int .u32 0, .int .u32 0, .int .u32 0, .int .u32 0, .int .u32 0, .int .u32 0, .int .u32 0] 77)) := balloc (balloc (bself w) _) _
  have zA : ((w.alloc (arrO S)).alloc (.cells #[.int .u32 0, .int .u32 0, .int .u32 0, .int .u32 0, .int .u32 0, .int .u32 0, .int .u32 0, .int .u32 0] 77)).heap.size = w.heap.size + 2 := by simp
  generalize World.alloc _ _ = wA at rX rZ bA zA ⊢
  go_wp2_with fail
  refine (rWords_any _ bs _ (SB.more (SB.below hv bA) (by omega)) h64 hbl).mono ?_
  rintro e w1 ⟨u, rfl, hu, hb1⟩
  have z1 := hb1.size
  have rX1 := (hb1.block w.heap.size (by omega)).trans rX
  have rZ1 := (hb1.block (w.heap.size + 1) (by omega)).trans rZ
  have b1 := bstep bA hb1
  obtain ⟨p0, p1, p2, p3, p4, p5, p6, p7⟩ := arrCells rX1
  go_upto_region 3 with fail
  clear p0 p1 p2 p3 p4 p5 p6 p7
  obtain ⟨Au, cu, hvu, hlu, hmu, hru⟩ := id hu.sl
  rw [List.length_map, List.length_range] at hvu
  subst hvu
  obtain ⟨gb, go, rfl, hgb, hgc⟩ := hru.at_ (by rw [List.length_map, List.length_range]; omega)
  obtain ⟨F, hF⟩ : ∃ F, F = wordAt (bs.take 64) := ⟨_, rfl⟩
  have HW : Hid (∀ w', Below w1.heap.size w1 w' → ∀ j, j < 64 → w'.cell? ⟨gb, go + j, none⟩ = some (.int .u32 ((F j).toNat : Int))) := Lib.hid (fun w' h j hj => (h.cell (p := ⟨gb, go + j, none⟩) hgb).trans (hgc j _ (by rw [hF, List.getElem?_map, List.getElem?_map, List.getElem?_range hj]; rfl)))
  have HR : Hid (∀ m, m < 64 → round1 (rounds (bs.take 64) S m) (kAt m) (F m) = rounds (bs.take 64) S (m + 1)) := Lib.hid (fun m _ => by rw [hF]; rfl)
  have HB : Hid (blockS S (bs.take 64) = mixS S (rounds (bs.take 64) S 64) 8) := Lib.hid rfl
  have HR0 : Hid (rounds (bs.take 64) S 0 = S) := Lib.hid rfl
  clear hgc hru hmu hlu hu hF
  generalize rounds (bs.take 64) S = G at HR HB HR0
  have rY := heap_alloc_new w1 (arrO S)
  have bY : Below w1.heap.size w1 (w1.alloc (arrO S)) := balloc (bself w1) _
  have zY : (w1.alloc (arrO S)).heap.size = w1.heap.size + 1 := by simp
  generalize w1.alloc (arrO S) = wY at rY bY zY ⊢
  go_wp2_with fail
  go_loopw [7] (fun iv wy => ∃ m : Nat, iv = .int .i64 m ∧ m ≤ 64 ∧ wy.heap[w1.heap.size]? = some (arrO (G m)) ∧ Below w1.heap.size w1 wy) (fun iv _ => 64 - (intOf iv).toNat)
  case atStart => exact ⟨0, rfl, by omega, by rw [HR0.out]; exact rY, bY⟩
  case round =>
    obtain ⟨m, rfl, hm, hY, hby⟩ := hrel
    clear rY
    by_cases hlt : m < 64
    · have cF := HW.out wr hby m hlt
      have cK := (hby.cell (p := ⟨0, m, none⟩) (by simp; omega)).trans ((hb1.cell (p := ⟨0, m, none⟩) (by simp; omega)).trans ((bA.cell (p := ⟨0, m, none⟩) (show 0 < w.heap.size by omega)).trans (hk m hlt)))
      have HRm := Lib.hid (HR.out m hlt)
      generalize G m = X at hY HRm
      obtain ⟨q0, q1, q2, q3, q4, q5, q6, q7⟩ := arrCells hY
      have x1 := W_or
      have x3 := W_and
      have x4 := W_xor
      have x5 : ∀ a b : UInt32, IntKind.u32.wrap ((a.toNat : Int) + (b.toNat : Int)) = ((addW a b).toNat : Int) := W_addk
      have x6 : ∀ a b : UInt32, ((a.toNat : Int) + (b.toNat : Int)) % (4294967296 : Int) = ((addW a b).toNat : Int) := W_add
      have x8 := W_not
      go_upto_region 6 with fail
      go_quiet (first | with_reducible exact rTurnq6 _ _ _ | with_reducible exact rTurnq11 _ _ _ | with_reducible exact rTurnq25 _ _ _)
      go_upto_region 7 with fail
      clear q0 q1 q2 q3 q4 q5 q6 q7 cF cK
      have hY2 : (wr.drewN nq).heap[w1.heap.size]? = some (arrO X) := hY
      have hb2 : Below w1.heap.size w1 (wr.drewN nq) := hby.trans (brefl2 wr nq _)
      generalize wr.drewN nq = ws at hY2 hb2 ⊢
      obtain ⟨q0, q1, q2, q3, q4, q5, q6, q7⟩ := arrCells hY2
      go_quiet (first | with_reducible exact rTurnq2 _ _ _ | with_reducible exact rTurnq13 _ _ _ | with_reducible exact rTurnq22 _ _ _)
      go_upto_region 8 with fail
      clear q0 q1 q2 q3 q4 q5 q6 q7
      have hY3 : (ws.drewN nq).heap[w1.heap.size]? = some (arrO X) := hY2
      have hb3 : Below w1.heap.size w1 (ws.drewN nq) := hb2.trans (brefl2 ws nq _)
      generalize ws.drewN nq = wt at hY3 hb3 ⊢
      obtain ⟨q0, q1, q2, q3, q4, q5, q6, q7⟩ := arrCells hY3
      have hfz : ∀ j, wt.frozen? ⟨w1.heap.size, j, none⟩ = false := fun j => by simp [World.frozen?, hY3]
      have f0 := hfz 0
      have f1 := hfz 1
      have f2 := hfz 2
      have f3 := hfz 3
      have f4 := hfz 4
      have f5 := hfz 5
      have f6 := hfz 6
      have f7 := hfz 7
      clear hfz
      have HAS := Lib.hid (arr_set8 (Y := (⟨addW (addW (addW (addW (addW X.h (xorW (xorW (rotr X.e 6) (rotr X.e 11)) (rotr X.e 25))) (xorW (andW X.e X.f) (andW (notW X.e) X.g))) (kAt m)) (F m)) (addW (xorW (xorW (rotr X.a 2) (rotr X.a 13)) (rotr X.a 22)) (xorW (xorW (andW X.a X.b) (andW X.a X.c)) (andW X.b X.c))), X.a, X.b, X.c, addW X.d (addW (addW (addW (addW X.h (xorW (xorW (rotr X.e 6) (rotr X.e 11)) (rotr X.e 25))) (xorW (andW X.e X.f) (andW (notW X.e) X.g))) (kAt m)) (F m)), X.e, X.f, X.g⟩ : St)) hY3 (Nat.le_refl _) hb3)
      have HEQ : Hid ((⟨addW (addW (addW (addW (addW X.h (xorW (xorW (rotr X.e 6) (rotr X.e 11)) (rotr X.e 25))) (xorW (andW X.e X.f) (andW (notW X.e) X.g))) (kAt m)) (F m)) (addW (xorW (xorW (rotr X.a 2) (rotr X.a 13)) (rotr X.a 22)) (xorW (xorW (andW X.a X.b) (andW X.a X.c)) (andW X.b X.c))), X.a, X.b, X.c, addW X.d (addW (addW (addW (addW X.h (xorW (xorW (rotr X.e 6) (rotr X.e 11)) (rotr X.e 25))) (xorW (andW X.e X.f) (andW (notW X.e) X.g))) (kAt m)) (F m)), X.e, X.f, X.g⟩ : St) = G (m + 1)) := Lib.hid (by
        rw [← HRm.out]
        have h1 : xorW (andW X.e X.f) (andW (notW X.e) X.g) = chW X.e X.f X.g := ch_eq _ _ _
        have h2 : xorW (xorW (andW X.a X.b) (andW X.a X.c)) (andW X.b X.c) = majW X.a X.b X.c := maj_eq _ _ _
        rw [h1, h2]
        rfl)
      go_wp2_with fail
      go_roundw
      case rel =>
        refine ⟨m + 1, by go_num, by omega, ?_, ?_⟩
        · rw [← HEQ.out]
          with_reducible exact HAS.out.1
        · with_reducible exact HAS.out.2
      case measure => simp [intOf]; omega
    · have hm64 : m = 64 := by omega
      subst hm64
      have HBB : Hid (mixS (G 64) S 8 = blockS S (bs.take 64)) := Lib.hid (by rw [HB.out, mix_comm])
      have hsX : wr.heap[w.heap.size]? = some (arrO S) := (hby.block w.heap.size (by omega)).trans rX1
      have hsZ : wr.heap[w.heap.size + 1]? = some (arrO zSt) := ((hby.block (w.heap.size + 1) (by omega)).trans rZ1).trans (by rw [zO])
      have hbw : Below w.heap.size w wr := bstep b1 hby
      have hzw : w1.heap.size ≤ wr.heap.size := hby.size
      clear HB HR HW HR0
      generalize G 64 = X at hY HBB
      have hY0 : wr.heap[w1.heap.size]? = some (arrO (mixS X S 0)) := hY
      clear hY
      go_wp2_with fail
      go_loopw [10] (fun iv wy => ∃ k : Nat, iv = .int .i64 k ∧ k ≤ 8 ∧ wy.heap[w1.heap.size]? = some (arrO (mixS X S k)) ∧ Below w1.heap.size w1 wy) (fun iv _ => 8 - (intOf iv).toNat)
      case atStart => exact ⟨0, rfl, by omega, hY0, hby⟩
      case round =>
        obtain ⟨k, rfl, hk8, hYk, hbk⟩ := hrel
        clear hsX hsZ hbw hzw hY0 hby
        by_cases hlt8 : k < 8
        · obtain ⟨cP, fP, hnext⟩ := mixA_cell hYk hlt8
          have cS := arrS_cell ((hbk.block w.heap.size (by omega)).trans rX1) hlt8
          have x5 : ∀ a b : UInt32, IntKind.u32.wrap ((a.toNat : Int) + (b.toNat : Int)) = ((addW a b).toNat : Int) := W_addk
          have x6 : ∀ a b : UInt32, ((a.toNat : Int) + (b.toNat : Int)) % (4294967296 : Int) = ((addW a b).toNat : Int) := W_add
          have y1 : (k : Int) < 8 := by omega
          have bW : Hid (∀ v, Below w1.heap.size w1 ((wr.drew).setCell ⟨w1.heap.size, k, none⟩ v)) := Lib.hid (fun v => hbk.drew.setCell (Nat.le_refl _) v)
          have HNX := Lib.hid hnext
          clear hnext
          go_upto_region 12 with fail
          go_region
          all_goals go_wp2_with fail
          all_goals
            go_roundw
            case rel => exact ⟨k + 1, by go_num, by omega, HNX.out, bW.out _⟩
            case measure => simp [intOf]; omega
        · have hk88 : k = 8 := by omega
          subst hk88
          rw [HBB.out] at hYk
          obtain ⟨Y, HYe⟩ : ∃ Y, Hid (blockS S (bs.take 64) = Y) := ⟨_, Lib.hid rfl⟩
          rw [HYe.out] at hYk
          have hsZ : wr.heap[w.heap.size + 1]? = some (arrO zSt) := ((hbk.block (w.heap.size + 1) (by omega)).trans rZ1).trans (by rw [zO])
          have hbw : Below w.heap.size w wr := bstep b1 hbk
          obtain ⟨q0, q1, q2, q3, q4, q5, q6, q7⟩ := arrCells hYk
          obtain ⟨z0, z1, z2, z3, z4, z5, z6, z7⟩ := arrCells hsZ
          have HF := Lib.hid (arr_set8 (Y := Y) hsZ (Nat.le_succ _) hbw)
          have hfz : ∀ j, wr.frozen? ⟨w.heap.size + 1, j, none⟩ = false := fun j => by simp [World.frozen?, hsZ]
          have f0 := hfz 0
          have f1 := hfz 1
          have f2 := hfz 2
          have f3 := hfz 3
          have f4 := hfz 4
          have f5 := hfz 5
          have f6 := hfz 6
          have f7 := hfz 7
          clear hfz hk8 hlt8 HBB rZ1 rX1
          go_wp2_with fail
          obtain ⟨hfin, hbf⟩ := HF.out
          generalize World.setCell _ _ _ = W9 at hfin hbf ⊢
          obtain ⟨k0, k1, k2, k3, k4, k5, k6, k7⟩ := arrCells hfin
          exact bodyPost_ret (v := arrV Y) (by simp [results, Tryd.results42, go_sem, k0, k1, k2, k3, k4, k5, k6, k7]) rfl ⟨by rw [HYe.out], hbf⟩
end Go.Proofs.YtjkcdnangmjoeaaDoor
