/-
  What is proved here: version.Right finds a state with one level of fitting tables right, at this seat's numbers. Conditions: they fit, their numbers are unlike, each stands ahead of the next one.
  version.Apply lays a list of fitting tables into an empty state; what Overlap and Lookup tell of that state, at this seat's numbers. Conditions: the tables fit.
  what Overlap and Lookup of package version tell of a state with one level, at this seat's numbers. Conditions: the level's length.
-/
import Derived.Test.YtchjknbideoieaaGreatDoorK36
import Derived.Test.YtchjknbideoieaaGreatDoorK28
import Derived.Test.YtchjknbideoieaaGreatDoorK44
namespace Go.Proofs.YtchjknbideoieaaGreatDoor
open Go.RowKit Go.Great Go.Proofs
structure MsOk (N : Nat) (ms : List Md) : Prop where
  len : ms.length ≤ 1000
  fit : ∀ x ∈ ms, FitM N x.1
  uniq : ms.Pairwise (fun x y => x.1.n ≠ y.1.n)
  up : ∀ i (h : i + 1 < ms.length), ltB ms[i].1.mx.toList ms[i + 1].1.mn.toList = true
theorem MsOk.nil_ (N : Nat) : MsOk N [] := ⟨by simp, fun x hx => by (cases hx), List.Pairwise.nil, fun i h => by simp at h⟩
def lvL (ms : List Md) (i : Nat) : List Md := if i = 1 then ms else []
def dnL (ms : List Md) (i : Nat) : List Md := if i ≤ 1 then [] else ms
def seenL (ms : List Md) : List (Nat × Value) := ms.map (fun x => (x.1.n, Value.int .i64 1))
theorem dnL_step (ms : List Md) (i : Nat) : dnL ms (i + 1) = dnL ms i ++ lvL ms i := by
  unfold dnL lvL
  by_cases h0 : i = 0
  · subst h0; rfl
  · by_cases h1 : i = 1
    · subst h1; rfl
    · rw [if_neg (by omega), if_neg (by omega), if_neg h1, List.append_nil]
theorem lv_sg {ms : List Md} {w : World} {B : Nat} {v : Value} (h : SG mdC 40 w B v ms) (i : Nat) : SG mdC 40 w B (lvV v i) (lvL ms i) := by
  unfold lvV lvL
  split
  · exact h
  · exact SG.nil_ _ _ _ _
theorem lv_ok {N : Nat} {ms : List Md} (h : MsOk N ms) (i : Nat) : MsOk N (lvL ms i) := by
  unfold lvL
  split
  · exact h
  · exact MsOk.nil_ N
theorem dn_apart {N : Nat} {ms : List Md} (h : MsOk N ms) (i : Nat) : (dnL ms i ++ lvL ms i).Pairwise (fun x y => x.1.n ≠ y.1.n) ∧ (dnL ms i ++ lvL ms i).length ≤ 1000 := by
  unfold dnL lvL
  by_cases h1 : i = 1
  · subst h1; simpa using ⟨h.uniq, h.len⟩
  · by_cases h0 : i ≤ 1
    · rw [if_pos h0, if_neg h1]; simp
    · rw [if_neg h0, if_neg h1, List.append_nil]; exact ⟨h.uniq, h.len⟩
structure RtAt (w wr : World) (Bm N : Nat) (v : Value) (L : List (Nat × Value)) : Prop where
  b : Below w.heap.size w wr
  s : wr.heap[w.heap.size]? = some (.cells (stC v N).toArray 40 (0, 0))
  m : MapU wr Bm L
theorem RtAt.on {w wr w' : World} {Bm N : Nat} {v : Value} {L : List (Nat × Value)} (h : RtAt w wr Bm N v L) (hb : Below wr.heap.size wr w') : RtAt w w' Bm N v L :=
  ⟨bstep h.b hb, (hb.block _ (Array.getElem?_eq_some_iff.1 h.s).1).trans h.s, h.m.on hb⟩
set_option maxRecDepth 100000 in
theorem zero_int (W : World) : (zeroValue 3).run Tryz.prog W = .ok (.int .i64 0) W := by rfl
theorem seen_new {D L : List Md} {i : Nat} (h : (D ++ L).Pairwise (fun x y => x.1.n ≠ y.1.n)) (hi : i < L.length) : ∀ p ∈ seenL (D ++ L.take i), p.1 ≠ L[i].1.n := by
  intro p hp
  obtain ⟨x, hx, rfl⟩ := List.mem_map.1 hp
  rw [List.pairwise_append] at h
  rcases List.mem_append.1 hx with hx | hx
  · exact h.2.2 x hx _ (List.getElem_mem hi)
  · obtain ⟨j, hj, rfl⟩ := List.getElem_of_mem hx
    rw [List.length_take] at hj
    have := List.pairwise_iff_getElem.1 h.2.1 j i (by omega) hi (by omega)
    simpa using this
theorem seen_one {D L : List Md} {i : Nat} (hi : i < L.length) : seenL (D ++ L.take i) ++ [(L[i].1.n, Value.int .i64 1)] = seenL (D ++ L.take (i + 1)) := by
  rw [List.take_succ_eq_append_getElem hi]
  simp only [seenL, List.map_append, List.map_cons, List.map_nil, List.append_assoc]
theorem mdC_one (X : Md) : ∀ v ∈ mdC X, v.oneCell' = true := by
  intro v hv
  unfold mdC mtC at hv
  rcases List.mem_append.1 hv with h | h
  · simp only [List.mem_cons, List.not_mem_nil, or_false] at h
    rcases h with h | h | h | h | h | h | h | h <;> (rw [h]; rfl)
  · exact bv_one _ v h
set_option maxRecDepth 100000 in
theorem exec_lookU {o : Oper} {a : Act} {w : World} {v : Value} (t : TypeId) (m x : Operand) (ho : o.op = .lookup t m x false) (b n : Nat) (hm : a.eval m = .map (some b)) (hx : a.eval x = .int .u64 (n : Int)) (hr : (Instr.lookup t (.map (some b)) (.int .u64 (n : Int)) false).run Tryz.prog w = .ok v w) : (execOp a.eval o).run Tryz.prog w = .ok (.value v) w := by
  unfold execOp
  simp only [ho, hm, hx, Sem.run_bind, Sem.run_pure, Result.andThen_ok, hr]
set_option maxRecDepth 100000 in
set_option maxHeartbeats 4000000 in
theorem kRight_st (v : Value) (N : Nat) (ms : List Md) (w : World) (hv : SG mdC 40 w w.heap.size v ms) (hok : MsOk N ms) (hN : N < 18446744073709551616) (cs : Array Value) (hcs : cs = (stC v N).toArray) :
    Calls Tryz.prog 22 #[.agg cs] w fun e w' => e = .returned (.bool true) ∧ Below w.heap.size w w' := by
  have HC := Lib.hid hcs
  have HV := Lib.hid hv
  have HOK := Lib.hid hok
  have hv1 : v.oneCell' = true := by obtain ⟨A, k, rfl, _⟩ := hv; rfl
  have HX := Lib.hid (fun i (h : i < 5) => run_idx5s v hv1 i h)
  clear hcs hv hok
  go_enter Tryz.func22, Tryz.ntmps22
  go_upto_region 1 with fail
  have rS := heap_alloc_new w (.cells cs 40)
  have bA := balloc (bself w) (.cells cs 40)
  have zA : (w.alloc (.cells cs 40)).heap.size = w.heap.size + 1 := by simp
  generalize World.alloc _ _ = wA at rS bA zA ⊢
  rw [HC.out] at rS
  have x0 : wA.cell? ⟨w.heap.size, 0, none⟩ = some (.slice none 0 0) := cell_of_row _ _ 0 _ _ _ rS
  have x1 : wA.cell? ⟨w.heap.size, 1, none⟩ = some v := cell_of_row _ _ 1 _ _ _ rS
  have x2 : wA.cell? ⟨w.heap.size, 2, none⟩ = some (.slice none 0 0) := cell_of_row _ _ 2 _ _ _ rS
  have x3 : wA.cell? ⟨w.heap.size, 3, none⟩ = some (.slice none 0 0) := cell_of_row _ _ 3 _ _ _ rS
  have x4 : wA.cell? ⟨w.heap.size, 4, none⟩ = some (.slice none 0 0) := cell_of_row _ _ 4 _ _ _ rS
  have x5 : wA.cell? ⟨w.heap.size, 5, none⟩ = some (.int .u64 0) := cell_of_row _ _ 5 _ _ _ rS
  have x6 : wA.cell? ⟨w.heap.size, 6, none⟩ = some (.int .u64 (N : Int)) := cell_of_row _ _ 6 _ _ _ rS
  have x7 : wA.cell? ⟨w.heap.size, 7, none⟩ = some (.int .u64 0) := cell_of_row _ _ 7 _ _ _ rS
  have x8 : wA.cell? ⟨w.heap.size, 8, none⟩ = some (.int .u64 0) := cell_of_row _ _ 8 _ _ _ rS
  have i1 : ¬ (N : Int) < 0 := by omega
  have hwm := fun W => run_makeMap (P := Tryz.prog) 135 W
  go_upto_region 4 with fail
  have hMp := MapU.new wA
  have bM := balloc bA (.map #[] 0)
  have b1 := balloc (bself wA) (.map #[] 0)
  have zM : (wA.alloc (.map #[] 0)).heap.size = wA.heap.size + 1 := by simp
  have HS : Hid (∀ W, Below wA.heap.size wA W → W.heap[w.heap.size]? = some (.cells (stC v N).toArray 40 (0, 0))) := Lib.hid (fun W hW => (hW.block _ (by omega)).trans rS)
  have HS0 := HS.out _ b1
  obtain ⟨Bm, hBm⟩ : ∃ Bm, Bm = w.heap.size + 1 := ⟨_, rfl⟩
  generalize World.alloc wA (.map #[] 0) = wM at hMp bM b1 zM HS0 ⊢
  rw [zA, ← hBm] at hMp zM HS
  rw [← hBm]
  have hBm1 : w.heap.size < Bm := by omega
  clear rS x0 x1 x2 x3 x4 x5 x6 x7 x8 hwm hBm zA b1
  have x0 : wM.cell? ⟨w.heap.size, 0, none⟩ = some (.slice none 0 0) := cell_of_row _ _ 0 _ _ _ HS0
  have x1 : wM.cell? ⟨w.heap.size, 1, none⟩ = some v := cell_of_row _ _ 1 _ _ _ HS0
  have x2 : wM.cell? ⟨w.heap.size, 2, none⟩ = some (.slice none 0 0) := cell_of_row _ _ 2 _ _ _ HS0
  have x3 : wM.cell? ⟨w.heap.size, 3, none⟩ = some (.slice none 0 0) := cell_of_row _ _ 3 _ _ _ HS0
  have x4 : wM.cell? ⟨w.heap.size, 4, none⟩ = some (.slice none 0 0) := cell_of_row _ _ 4 _ _ _ HS0
  have hR0 : RtAt w wM Bm N v (seenL (dnL ms 0 ++ (lvL ms 0).take 0)) := ⟨bM, HS0, hMp⟩
  clear HS0
  go_wp2_with fail
  clear x0 x1 x2 x3 x4 bM hMp HS zM i1
  go_loopw [4, 25] (fun lv kv wr => ∃ k : Nat, kv = .int .i64 (k : Int) ∧ k ≤ 5 ∧ lv = .int .i64 ((1024 - (dnL ms k).length : Nat) : Int) ∧ Hid (RtAt w wr Bm N v (seenL (dnL ms k)))) (fun _ kv _ => 5 - (intOf kv).toNat)
  case atStart => exact ⟨0, rfl, by omega, rfl, Lib.hid (by simpa using hR0)⟩
  case round =>
    obtain ⟨k, rfl, hk, rfl, HR⟩ := hrel
    have hdn := dn_apart HOK.out k
    have hstep := dnL_step ms k
    by_cases hlt : k < 5
    · obtain ⟨Lk, hLk⟩ : ∃ Lk, Lk = lvL ms k := ⟨_, rfl⟩
      obtain ⟨Dk, hDk⟩ : ∃ Dk, Dk = dnL ms k := ⟨_, rfl⟩
      rw [← hLk, ← hDk] at hdn hstep
      rw [← hDk] at HR ⊢
      obtain ⟨nk, hnk⟩ : ∃ nk, nk = Lk.length := ⟨_, rfl⟩
      obtain ⟨dk, hdk⟩ : ∃ dk, dk = Dk.length := ⟨_, rfl⟩
      have hnd : dk + nk ≤ 1000 := by have := hdn.2; rw [List.length_append] at this; omega
      rw [← hdk]
      have hidx := HX.out k hlt
      have hsg := lv_sg HV.out k
      rw [← hLk] at hsg
      have hokk := lv_ok HOK.out k
      rw [← hLk] at hokk
      obtain ⟨vk, hvk⟩ : ∃ vk, vk = lvV v k := ⟨_, rfl⟩
      rw [← hvk] at hidx hsg
      obtain ⟨Ak, ck, rfl, hck, _⟩ := hsg.form
      rw [← hnk] at hidx hsg hck
      have hki : (k : Int) < 5 := by omega
      have g1 : ¬ ((1024 - dk : Nat) : Int) < (nk : Int) := by omega
      have g2 : ((1024 - dk : Nat) : Int) - (nk : Int) = ((1024 - (dk + nk) : Nat) : Int) := by omega
      have g3 : IntKind.i64.wrap ((1024 - (dk + nk) : Nat) : Int) = ((1024 - (dk + nk) : Nat) : Int) := by rw [IntKind.wrap_i64]; omega
      have hlv1 : ∀ x ∈ Lk, k = 1 := fun x hx => by
        rw [hLk] at hx
        unfold lvL at hx
        split at hx
        · assumption
        · cases hx
      have HALL := Lib.hid (And.intro hLk (And.intro hDk (And.intro hnk (And.intro hdk (And.intro hdn (And.intro hstep (And.intro hsg (And.intro hokk hlv1))))))))
      obtain ⟨dd, hdd⟩ : ∃ dd : Nat, dd = 1024 - dk := ⟨_, rfl⟩
      obtain ⟨de, hde⟩ : ∃ de : Nat, de = 1024 - (dk + nk) := ⟨_, rfl⟩
      rw [← hdd, ← hde] at g2
      rw [← hdd] at g1 ⊢
      rw [← hde] at g3
      have HDE := Lib.hid (And.intro hdd hde)
      clear hLk hDk hnk hdk hdn hstep hsg hokk hvk hlv1 hdd hde
      go_wp2_with fail
      go_loopw [39] (fun iv wi => ∃ i : Nat, iv = .int .i64 (i : Int) ∧ i ≤ nk ∧ Hid (RtAt w wi Bm N v (seenL (Dk ++ Lk.take i)))) (fun iv _ => nk - (intOf iv).toNat)
      case atStart => exact ⟨0, rfl, by omega, Lib.hid (by simpa using HR.out)⟩
      case round =>
        obtain ⟨i, rfl, hi, HRi⟩ := hrel
        by_cases hin : i < nk
        · obtain ⟨q1, q2, q3, q4, q5, q6, q7, q8, q9⟩ := HALL.out
          have hiL : i < Lk.length := by omega
          have hk1 := q9 _ (List.getElem_mem hiL)
          obtain ⟨b, o, kk, e, hb, hr⟩ := (q7.below HRi.out.b).at_ mdC_length (by omega)
          injection e with e1 e2 e3
          subst e1; subst e3
          have HK1 := Lib.hid (And.intro hk1 e2)
          have HK1i : Hid ((k : Int) = 1) := Lib.hid (by omega)
          clear e2 hk1
          have hnew := seen_new (D := Dk) q5.1 hiL
          have hone := seen_one (D := Dk) hiL
          have hfit := q8.fit _ (List.getElem_mem hiL)
          obtain ⟨X, hX⟩ : ∃ X, X = Lk[i] := ⟨_, rfl⟩
          have hrX := hr i hiL
          rw [← hX] at hnew hone hfit hrX
          obtain ⟨xc, hxc⟩ : ∃ xc, (mdC X).toArray = xc := ⟨_, rfl⟩
          have HXP : Hid (xc.size = 40 ∧ ∀ v ∈ xc.toList, v.oneCell' = true) := Lib.hid (by rw [← hxc]; exact ⟨by simp [mdC_length], fun v hv => mdC_one X v (by simpa using hv)⟩)
          have HXC := Lib.hid hxc
          have HHR := Lib.hid hr
          have HNew := Lib.hid (And.intro hnew (And.intro hone (And.intro hfit hX)))
          have hii : (i : Int) < (nk : Int) := by omega
          clear q1 q2 q3 q4 q5 q6 q7 q8 q9 hxc hr hnew hone hfit hX
          go_upto_region 14 with (first | (refine wpList_load_mid rfl 55 (.tmp 42) rfl b (o + i * 40) rfl (mdC X) _ hrX Tryz.underlying55 rfl (by rw [mdC_length]; exact infoMd) ?_; rw [HXC.out]) | (refine wl_storeT 55 (n := 40) infoMd rfl (.tmp 8) (.tmp 43) rfl _ rfl _ xc rfl (heap_alloc_new _ _) (by rfl) HXP.out.1 HXP.out.2 ?_))
          simp only [Act.put]
          generalize hW1 : World.setRow _ _ _ = w1
          have hX1 : w1.heap[wr.heap.size]? = some (.cells xc 55 (0, 0)) := by rw [← hW1]; exact setRow_heap _ _ _ _ _ _ (heap_alloc_new _ _)
          have b1 : Below wr.heap.size wr w1 := by rw [← hW1]; exact below_setRow (balloc (bself wr) _) (Nat.le_refl _) _
          have z1 : wr.heap.size < w1.heap.size := (Array.getElem?_eq_some_iff.1 hX1).1
          have HR1 := HRi.out.on b1
          have zB := HRi.out.m.lt
          have zS := HRi.out.b.size
          clear hW1
          obtain ⟨xn, hxn⟩ : ∃ xn, xn = X.1.n := ⟨_, rfl⟩
          have c3 : w1.cell? ⟨wr.heap.size, 3, none⟩ = some (.int .u64 (xn : Int)) := (cell_of_row _ _ 3 _ _ _ hX1).trans (by rw [← HXC.out, hxn]; rfl)
          have hnw := HNew.out.1
          rw [← hxn] at hnw
          have hlk := HR1.m.look0 Tryz.underlying135 Tryz.underlying23 (.int .i64 0) zero_int xn hnw
          have HW1 := Lib.hid (And.intro hX1 (And.intro b1 (And.intro HR1 (And.intro hxn hnw))))
          clear hX1 b1 HR1 hxn hnw
          go_upto_region 15 with (at_mapUpdate; refine wl_mapU rfl (.tmp 44) (.tmp 46) (.tmp 48) 135 rfl Tryz.underlying135 Tryz.underlying23 Bm _ rfl HW1.out.2.2.1.m xn rfl (.int .i64 1) rfl HW1.out.2.2.2.2 ?_; intro w2 hm2 hg2)
          simp only [Act.put]
          have hX2 : w2.heap[wr.heap.size]? = some (.cells xc 55 (0, 0)) := (hg2.block _ z1 (by intro e; injection e with e; omega)).trans HW1.out.1
          have HR2 : RtAt w w2 Bm N v (seenL (Dk ++ Lk.take (i + 1))) := ⟨below_grown HW1.out.2.2.1.b hg2 (by omega) (fun g hg => by injection hg with hg; omega), (hg2.block _ (by omega) (by intro e; injection e with e; omega)).trans HW1.out.2.2.1.s, by
            have := HNew.out.2.1
            rw [HW1.out.2.2.2.1] at hm2
            rw [this] at hm2
            exact hm2⟩
          have z2 := hg2.size
          have d0 : w2.cell? ⟨wr.heap.size, 0, none⟩ = some (.int .u8 1) := (cell_of_row _ _ 0 _ _ _ hX2).trans (by rw [← HXC.out]; show some (Value.int .u8 (X.1.lv : Int)) = _; rw [HNew.out.2.2.1.lv]; rfl)
          have d3 : w2.cell? ⟨wr.heap.size, 3, none⟩ = some (.int .u64 (xn : Int)) := (cell_of_row _ _ 3 _ _ _ hX2).trans (by rw [← HXC.out, HW1.out.2.2.2.1]; rfl)
          have HR2' := Lib.hid HR2
          have HFit : Hid (∀ W, Below w2.heap.size w2 W → Calls Tryz.prog 66 #[.pointer (some ⟨w.heap.size, 0, none⟩), .agg xc] W fun e w' => e = .returned (.bool true) ∧ Below W.heap.size W w') := Lib.hid (fun W hW => by
            have := kFits_any X w.heap.size N v W HNew.out.2.2.1 hN ((HR2'.out.on hW).s)
            rw [HXC.out] at this
            exact this)
          have HLook : Hid (∀ W, MapU W Bm (seenL (Dk ++ Lk.take (i + 1))) → (Instr.lookup 135 (.map (some Bm)) (.int .u64 (xn : Int)) false).run Tryz.prog W = .ok (.int .i64 1) W) := Lib.hid (fun W hW => by
            refine hW.look Tryz.underlying135 Tryz.underlying23 xn (.int .i64 1) (fun p hp _ => ?_) ⟨(X.1.n, .int .i64 1), ?_, HW1.out.2.2.2.1.symm⟩
            · obtain ⟨x, _, rfl⟩ := List.mem_map.1 hp; rfl
            · rw [← HNew.out.2.1]; simp)
          have zX2 : wr.heap.size < w2.heap.size := by omega
          have hbw2 : b < w2.heap.size := by omega
          have b2d := bdrew (bself w2)
          have hgb2 : w2.heap[b]? = w1.heap[b]? := hg2.block b (by omega) (by intro e; injection e with e; omega)
          clear HR2 hm2 hg2
          rcases Nat.eq_zero_or_pos i with h0 | h0
          · subst h0
            have KS : Hid (∀ W, Below w2.heap.size w2 W → (W.heap[wr.heap.size]? = some (.cells xc 55 (0, 0)) ∧ MapU W Bm (seenL (Dk ++ Lk.take (0 + 1))) ∧ W.cell? ⟨wr.heap.size, 0, none⟩ = some (.int .u8 1) ∧ W.cell? ⟨wr.heap.size, 3, none⟩ = some (.int .u64 (xn : Int)))) := Lib.hid (fun W hW => ⟨(hW.block _ zX2).trans hX2, HR2'.out.m.on hW, (hW.cell (p := ⟨wr.heap.size, 0, none⟩) zX2).trans d0, (hW.cell (p := ⟨wr.heap.size, 3, none⟩) zX2).trans d3⟩)
            clear hX2 d0 d3
            go_upto_region 15 with fail
            refine wp_region_noPanic ?_
            refine wp_region_held_drew (S := fun W => True ∧ (W.heap[wr.heap.size]? = some (.cells xc 55 (0, 0)) ∧ MapU W Bm (seenL (Dk ++ Lk.take (0 + 1))) ∧ W.cell? ⟨wr.heap.size, 0, none⟩ = some (.int .u8 1) ∧ W.cell? ⟨wr.heap.size, 3, none⟩ = some (.int .u64 (xn : Int)))) (by kernel_rfl) ⟨trivial, KS.out _ b2d⟩ (fun hHeld => ?_)
            refine rtk 0 ?_ ?_ ?_
            rotate_left
            · (intro wq hSq; (try dsimp only at hSq); go_split_ands; go_simp; (try with_reducible rfl))
            try simp only [Act.put, q1, q2, q3]
            refine rtk 1 ?_ ?_ ?_
            rotate_left
            · (intro wq hSq; (try dsimp only at hSq); go_split_ands; go_simp; (try with_reducible rfl))
            try simp only [Act.put, q1, q2, q3]
            refine rtk 2 ?_ ?_ ?_
            rotate_left
            · (intro wq hSq; (try dsimp only at hSq); go_split_ands; go_simp; (try with_reducible rfl))
            try simp only [Act.put, q1, q2, q3]
            refine rtk 3 ?_ ?_ ?_
            rotate_left
            · (intro wq hSq; (try dsimp only at hSq); go_split_ands; go_simp; (try with_reducible rfl))
            try simp only [Act.put, q1, q2, q3]
            refine reg_take 4 (v := .bool false) (by rfl) (by kernel_rfl) (by kernel_rfl) (by kernel_rfl) (fun _ _ _ h => h) (by rfl) ?_ (by assumption) ?_
            · (intro wq hSq; (go_simp; simp [HK1i.out]; decide))
            try simp only [Act.put, q1, q2, q3]
            refine rtk 5 ?_ ?_ ?_
            rotate_left
            · (intro wq hSq; (try dsimp only at hSq); go_split_ands; go_simp; (try with_reducible rfl))
            try simp only [Act.put, q1, q2, q3]
            refine reg_take 6 (v := .agg xc) (by rfl) (by kernel_rfl) (by kernel_rfl) (by kernel_rfl) (fun _ _ _ h => h) (by rfl) ?_ (by assumption) ?_
            · (intro wq hSq; exact exec_loadRow 55 Tryz.underlying55 rfl infoMd (.tmp 8) rfl _ rfl xc hSq.2.1 HXP.out.1)
            try simp only [Act.put, q1, q2, q3]
            refine reg_one 7 (by rfl) (by kernel_rfl) (by rfl) (fun K hK => ?_)
            (go_simp; go_at_call 66; refine (HFit.out _ b2d).mono ?_; rintro _ w5 ⟨rfl, hb5⟩; have b5 := bstep b2d hb5; go_wp2_with fail)
            refine hK.out _ _ ?_ (fun hHeld => ?_)
            · exact ⟨trivial, KS.out _ b5⟩
            clear hK K
            try simp only [Act.put, q1, q2, q3]
            refine rtk 8 ?_ ?_ ?_
            rotate_left
            · (intro wq hSq; (try dsimp only at hSq); go_split_ands; go_simp; (try with_reducible rfl))
            try simp only [Act.put, q1, q2, q3]
            refine rtk 9 ?_ ?_ ?_
            rotate_left
            · (intro wq hSq; (try dsimp only at hSq); go_split_ands; go_simp; (try with_reducible rfl))
            try simp only [Act.put, q1, q2, q3]
            refine rtk 10 ?_ ?_ ?_
            rotate_left
            · (intro wq hSq; (try dsimp only at hSq); go_split_ands; go_simp; (try with_reducible rfl))
            try simp only [Act.put, q1, q2, q3]
            refine rtk 11 ?_ ?_ ?_
            rotate_left
            · (intro wq hSq; (try dsimp only at hSq); go_split_ands; go_simp; (try with_reducible rfl))
            try simp only [Act.put, q1, q2, q3]
            refine rtk 12 ?_ ?_ ?_
            rotate_left
            · (intro wq hSq; (try dsimp only at hSq); go_split_ands; go_simp; (try with_reducible rfl))
            try simp only [Act.put, q1, q2, q3]
            refine rtk 13 ?_ ?_ ?_
            rotate_left
            · (intro wq hSq; (try dsimp only at hSq); go_split_ands; go_simp; (try with_reducible rfl))
            try simp only [Act.put, q1, q2, q3]
            refine reg_take 14 (v := .int .i64 1) (by rfl) (by kernel_rfl) (by kernel_rfl) (by kernel_rfl) (fun _ _ _ h => h) (by rfl) ?_ (by assumption) ?_
            · (intro wq hSq; exact exec_lookU 135 (.tmp 60) (.tmp 62) rfl Bm xn rfl rfl (HLook.out _ hSq.2.2.1))
            try simp only [Act.put, q1, q2, q3]
            refine rtk 15 ?_ ?_ ?_
            rotate_left
            · (intro wq hSq; (try dsimp only at hSq); go_split_ands; go_simp; (try with_reducible rfl))
            try simp only [Act.put, q1, q2, q3]
            refine rtk 16 ?_ ?_ ?_
            rotate_left
            · (intro wq hSq; (try dsimp only at hSq); go_split_ands; go_simp; (try with_reducible rfl))
            try simp only [Act.put, q1, q2, q3]
            refine rtk 17 ?_ ?_ ?_
            rotate_left
            · (intro wq hSq; (try dsimp only at hSq); go_split_ands; go_simp; (try with_reducible rfl))
            try simp only [Act.put, q1, q2, q3]
            refine rtk 18 ?_ ?_ ?_
            rotate_left
            · (intro wq hSq; (try dsimp only at hSq); go_split_ands; go_simp; (try with_reducible rfl))
            try simp only [Act.put, q1, q2, q3]
            refine rtk 19 ?_ ?_ ?_
            rotate_left
            · (intro wq hSq; (try dsimp only at hSq); go_split_ands; go_simp; (try with_reducible rfl))
            try simp only [Act.put, q1, q2, q3]
            refine rtk 20 ?_ ?_ ?_
            rotate_left
            · (intro wq hSq; (try dsimp only at hSq); go_split_ands; go_simp; (try with_reducible rfl))
            try simp only [Act.put, q1, q2, q3]
            refine reg_skip 21 (by rfl) (by kernel_rfl) (by kernel_rfl) (by kernel_rfl) (fun _ _ _ h => h) (by rfl) (by assumption) ?_
            try simp only [Act.put, q1, q2, q3]
            refine reg_skip 22 (by rfl) (by kernel_rfl) (by kernel_rfl) (by kernel_rfl) (fun _ _ _ h => h) (by rfl) (by assumption) ?_
            try simp only [Act.put, q1, q2, q3]
            refine reg_skip 23 (by rfl) (by kernel_rfl) (by kernel_rfl) (by kernel_rfl) (fun _ _ _ h => h) (by rfl) (by assumption) ?_
            try simp only [Act.put, q1, q2, q3]
            refine reg_skip 24 (by rfl) (by kernel_rfl) (by kernel_rfl) (by kernel_rfl) (fun _ _ _ h => h) (by rfl) (by assumption) ?_
            try simp only [Act.put, q1, q2, q3]
            refine reg_skip 25 (by rfl) (by kernel_rfl) (by kernel_rfl) (by kernel_rfl) (fun _ _ _ h => h) (by rfl) (by assumption) ?_
            try simp only [Act.put, q1, q2, q3]
            refine reg_skip 26 (by rfl) (by kernel_rfl) (by kernel_rfl) (by kernel_rfl) (fun _ _ _ h => h) (by rfl) (by assumption) ?_
            try simp only [Act.put, q1, q2, q3]
            refine reg_skip 27 (by rfl) (by kernel_rfl) (by kernel_rfl) (by kernel_rfl) (fun _ _ _ h => h) (by rfl) (by assumption) ?_
            try simp only [Act.put, q1, q2, q3]
            refine reg_skip 28 (by rfl) (by kernel_rfl) (by kernel_rfl) (by kernel_rfl) (fun _ _ _ h => h) (by rfl) (by assumption) ?_
            try simp only [Act.put, q1, q2, q3]
            refine rtk 29 ?_ ?_ ?_
            rotate_left
            · (intro wq hSq; (try dsimp only at hSq); go_split_ands; go_simp; (try with_reducible rfl))
            try simp only [Act.put, q1, q2, q3]
            refine rtk 30 ?_ ?_ ?_
            rotate_left
            · (intro wq hSq; (try dsimp only at hSq); go_split_ands; go_simp; (try with_reducible rfl))
            try simp only [Act.put, q1, q2, q3]
            refine wpAnyH_done (by kernel_rfl) (noPanic_mk ?_) _
            clear hHeld
            go_wp2_with fail
            go_roundw
            case rel => exact ⟨0 + 1, by go_num, by omega, Lib.hid (HR2'.out.on b5)⟩
            case measure => simp [intOf]; omega
          · obtain ⟨p, rfl⟩ : ∃ p, i = p + 1 := ⟨i - 1, by omega⟩
            have hpL : p < Lk.length := by omega
            obtain ⟨Y, hY⟩ : ∃ Y : Md, Y = Lk[p] := ⟨_, rfl⟩
            have hrY := HHR.out p (by omega)
            rw [← hY] at hrY
            obtain ⟨yc, hyc⟩ : ∃ yc, (mdC Y).toArray = yc := ⟨_, rfl⟩
            have HStd : Hid (∀ W, Calls Tryz.prog 67 #[.agg yc, .agg xc] W fun e w' => e = .returned (.bool true) ∧ Below W.heap.size W w') := Lib.hid (fun W => by
              have h := kStands_any Y.1 X.1 yc xc hyc HXC.out W
              have hok := HALL.out.2.2.2.2.2.2.2.1
              have h1 := (hok.fit Y (by rw [hY]; exact List.getElem_mem _)).lv
              have h2 := hok.up p (by omega)
              rw [← hY, ← HNew.out.2.2.2] at h2
              unfold standsF at h
              rw [if_neg (by omega), h2] at h
              exact h)
            have HYC := Lib.hid hyc
            have hrY2 : w2.rangeAt b (o + p * 40) (mdC Y) := fun j u hu => by
              have hb1 : b < wr.heap.size := by omega
              exact (World.cell?_of_block (a := ⟨b, o + p * 40 + j, none⟩) (hgb2.trans (HW1.out.2.1.block b hb1))).trans (hrY j u hu)
            have KS : Hid (∀ W, Below w2.heap.size w2 W → (W.heap[wr.heap.size]? = some (.cells xc 55 (0, 0)) ∧ MapU W Bm (seenL (Dk ++ Lk.take (p + 1 + 1))) ∧ W.cell? ⟨wr.heap.size, 0, none⟩ = some (.int .u8 1) ∧ W.cell? ⟨wr.heap.size, 3, none⟩ = some (.int .u64 (xn : Int)) ∧ W.rangeAt b (o + p * 40) (mdC Y))) := Lib.hid (fun W hW => ⟨(hW.block _ zX2).trans hX2, HR2'.out.m.on hW, (hW.cell (p := ⟨wr.heap.size, 0, none⟩) zX2).trans d0, (hW.cell (p := ⟨wr.heap.size, 3, none⟩) zX2).trans d3, SGr hW hbw2 hrY2⟩)
            have hp0 : (0 : Int) < (p : Int) + 1 := by omega
            have gp : (p : Int) + 1 - 1 = (p : Int) := by omega
            have gpw : IntKind.i64.wrap (p : Int) = (p : Int) := by rw [IntKind.wrap_i64]; omega
            have hpl : (p : Int) < (nk : Int) := by omega
            clear hX2 d0 d3 hY hrY hyc hrY2 h0
            go_upto_region 15 with fail
            refine wp_region_noPanic ?_
            refine wp_region_held_drew (S := fun W => True ∧ (W.heap[wr.heap.size]? = some (.cells xc 55 (0, 0)) ∧ MapU W Bm (seenL (Dk ++ Lk.take (p + 1 + 1))) ∧ W.cell? ⟨wr.heap.size, 0, none⟩ = some (.int .u8 1) ∧ W.cell? ⟨wr.heap.size, 3, none⟩ = some (.int .u64 (xn : Int)) ∧ W.rangeAt b (o + p * 40) (mdC Y))) (by kernel_rfl) ⟨trivial, KS.out _ b2d⟩ (fun hHeld => ?_)
            refine rtk 0 ?_ ?_ ?_
            rotate_left
            · (intro wq hSq; (try dsimp only at hSq); go_split_ands; go_simp; (try with_reducible rfl))
            try simp only [Act.put, q1, q2, q3]
            refine rtk 1 ?_ ?_ ?_
            rotate_left
            · (intro wq hSq; (try dsimp only at hSq); go_split_ands; go_simp; (try with_reducible rfl))
            try simp only [Act.put, q1, q2, q3]
            refine rtk 2 ?_ ?_ ?_
            rotate_left
            · (intro wq hSq; (try dsimp only at hSq); go_split_ands; go_simp; (try with_reducible rfl))
            try simp only [Act.put, q1, q2, q3]
            refine rtk 3 ?_ ?_ ?_
            rotate_left
            · (intro wq hSq; (try dsimp only at hSq); go_split_ands; go_simp; (try with_reducible rfl))
            try simp only [Act.put, q1, q2, q3]
            refine reg_take 4 (v := .bool false) (by rfl) (by kernel_rfl) (by kernel_rfl) (by kernel_rfl) (fun _ _ _ h => h) (by rfl) ?_ (by assumption) ?_
            · (intro wq hSq; (go_simp; simp [HK1i.out]; decide))
            try simp only [Act.put, q1, q2, q3]
            refine rtk 5 ?_ ?_ ?_
            rotate_left
            · (intro wq hSq; (try dsimp only at hSq); go_split_ands; go_simp; (try with_reducible rfl))
            try simp only [Act.put, q1, q2, q3]
            refine reg_take 6 (v := .agg xc) (by rfl) (by kernel_rfl) (by kernel_rfl) (by kernel_rfl) (fun _ _ _ h => h) (by rfl) ?_ (by assumption) ?_
            · (intro wq hSq; exact exec_loadRow 55 Tryz.underlying55 rfl infoMd (.tmp 8) rfl _ rfl xc hSq.2.1 HXP.out.1)
            try simp only [Act.put, q1, q2, q3]
            refine reg_one 7 (by rfl) (by kernel_rfl) (by rfl) (fun K hK => ?_)
            (go_simp; go_at_call 66; refine (HFit.out _ b2d).mono ?_; rintro _ w5 ⟨rfl, hb5⟩; have b5 := bstep b2d hb5; go_wp2_with fail)
            refine hK.out _ _ ?_ (fun hHeld => ?_)
            · exact ⟨trivial, KS.out _ b5⟩
            clear hK K
            try simp only [Act.put, q1, q2, q3]
            refine rtk 8 ?_ ?_ ?_
            rotate_left
            · (intro wq hSq; (try dsimp only at hSq); go_split_ands; go_simp; (try with_reducible rfl))
            try simp only [Act.put, q1, q2, q3]
            refine rtk 9 ?_ ?_ ?_
            rotate_left
            · (intro wq hSq; (try dsimp only at hSq); go_split_ands; go_simp; (try with_reducible rfl))
            try simp only [Act.put, q1, q2, q3]
            refine rtk 10 ?_ ?_ ?_
            rotate_left
            · (intro wq hSq; (try dsimp only at hSq); go_split_ands; go_simp; (try with_reducible rfl))
            try simp only [Act.put, q1, q2, q3]
            refine rtk 11 ?_ ?_ ?_
            rotate_left
            · (intro wq hSq; (try dsimp only at hSq); go_split_ands; go_simp; (try with_reducible rfl))
            try simp only [Act.put, q1, q2, q3]
            refine rtk 12 ?_ ?_ ?_
            rotate_left
            · (intro wq hSq; (try dsimp only at hSq); go_split_ands; go_simp; (try with_reducible rfl))
            try simp only [Act.put, q1, q2, q3]
            refine rtk 13 ?_ ?_ ?_
            rotate_left
            · (intro wq hSq; (try dsimp only at hSq); go_split_ands; go_simp; (try with_reducible rfl))
            try simp only [Act.put, q1, q2, q3]
            refine reg_take 14 (v := .int .i64 1) (by rfl) (by kernel_rfl) (by kernel_rfl) (by kernel_rfl) (fun _ _ _ h => h) (by rfl) ?_ (by assumption) ?_
            · (intro wq hSq; exact exec_lookU 135 (.tmp 60) (.tmp 62) rfl Bm xn rfl rfl (HLook.out _ hSq.2.2.1))
            try simp only [Act.put, q1, q2, q3]
            refine rtk 15 ?_ ?_ ?_
            rotate_left
            · (intro wq hSq; (try dsimp only at hSq); go_split_ands; go_simp; (try with_reducible rfl))
            try simp only [Act.put, q1, q2, q3]
            refine rtk 16 ?_ ?_ ?_
            rotate_left
            · (intro wq hSq; (try dsimp only at hSq); go_split_ands; go_simp; (try with_reducible rfl))
            try simp only [Act.put, q1, q2, q3]
            refine rtk 17 ?_ ?_ ?_
            rotate_left
            · (intro wq hSq; (try dsimp only at hSq); go_split_ands; go_simp; (try with_reducible rfl))
            try simp only [Act.put, q1, q2, q3]
            refine rtk 18 ?_ ?_ ?_
            rotate_left
            · (intro wq hSq; (try dsimp only at hSq); go_split_ands; go_simp; (try with_reducible rfl))
            try simp only [Act.put, q1, q2, q3]
            refine rtk 19 ?_ ?_ ?_
            rotate_left
            · (intro wq hSq; (try dsimp only at hSq); go_split_ands; go_simp; (try with_reducible rfl))
            try simp only [Act.put, q1, q2, q3]
            refine rtk 20 ?_ ?_ ?_
            rotate_left
            · (intro wq hSq; (try dsimp only at hSq); go_split_ands; go_simp; (try with_reducible rfl))
            try simp only [Act.put, q1, q2, q3]
            refine rtk 21 ?_ ?_ ?_
            rotate_left
            · (intro wq hSq; (try dsimp only at hSq); go_split_ands; go_simp; (try with_reducible rfl))
            try simp only [Act.put, q1, q2, q3]
            refine rtk 22 ?_ ?_ ?_
            rotate_left
            · (intro wq hSq; (try dsimp only at hSq); go_split_ands; go_simp; (try with_reducible rfl))
            try simp only [Act.put, q1, q2, q3]
            refine rtk 23 ?_ ?_ ?_
            rotate_left
            · (intro wq hSq; (try dsimp only at hSq); go_split_ands; go_simp; (try with_reducible rfl))
            try simp only [Act.put, q1, q2, q3]
            refine rtk 24 ?_ ?_ ?_
            rotate_left
            · (intro wq hSq; (try dsimp only at hSq); go_split_ands; go_simp; (try with_reducible rfl))
            try simp only [Act.put, q1, q2, q3]
            refine reg_take 25 (v := .agg (mdC Y).toArray) (by rfl) (by kernel_rfl) (by kernel_rfl) (by kernel_rfl) (fun _ _ _ h => h) (by rfl) ?_ (by assumption) ?_
            · (intro wq hSq; exact exec_loadG 55 Tryz.underlying55 rfl infoMd (.tmp 73) rfl b (o + p * 40) rfl (mdC Y) (mdC_length Y) hSq.2.2.2.2.2)
            try simp only [Act.put, q1, q2, q3]
            rw [HYC.out]
            refine reg_take 26 (v := .agg xc) (by rfl) (by kernel_rfl) (by kernel_rfl) (by kernel_rfl) (fun _ _ _ h => h) (by rfl) ?_ (by assumption) ?_
            · (intro wq hSq; exact exec_loadRow 55 Tryz.underlying55 rfl infoMd (.tmp 8) rfl _ rfl xc hSq.2.1 HXP.out.1)
            try simp only [Act.put, q1, q2, q3]
            refine reg_one 27 (by rfl) (by kernel_rfl) (by rfl) (fun K hK => ?_)
            (go_simp; go_at_call 67; refine (HStd.out _).mono ?_; rintro _ w6 ⟨rfl, hb6⟩; have b6 := bstep b5 hb6; go_wp2_with fail)
            refine hK.out _ _ ?_ (fun hHeld => ?_)
            · exact ⟨trivial, KS.out _ b6⟩
            clear hK K
            try simp only [Act.put, q1, q2, q3]
            refine rtk 28 ?_ ?_ ?_
            rotate_left
            · (intro wq hSq; (try dsimp only at hSq); go_split_ands; go_simp; (try with_reducible rfl))
            try simp only [Act.put, q1, q2, q3]
            refine rtk 29 ?_ ?_ ?_
            rotate_left
            · (intro wq hSq; (try dsimp only at hSq); go_split_ands; go_simp; (try with_reducible rfl))
            try simp only [Act.put, q1, q2, q3]
            refine rtk 30 ?_ ?_ ?_
            rotate_left
            · (intro wq hSq; (try dsimp only at hSq); go_split_ands; go_simp; (try with_reducible rfl))
            try simp only [Act.put, q1, q2, q3]
            refine wpAnyH_done (by kernel_rfl) (noPanic_mk ?_) _
            clear hHeld
            go_wp2_with fail
            go_roundw
            case rel => exact ⟨p + 1 + 1, by go_num, by omega, Lib.hid (HR2'.out.on b6)⟩
            case measure => simp [intOf]; omega
        · obtain rfl : nk = i := by omega
          have hii : ¬ (nk : Int) < (nk : Int) := by omega
          go_wp2_with fail
          go_roundw
          case rel =>
            obtain ⟨q1, q2, q3, q4, q5, q6, q7, _⟩ := HALL.out
            refine ⟨k + 1, by go_num, by omega, ?_, Lib.hid ?_⟩
            · rw [q6, List.length_append, ← q3, ← q4, ← HDE.out.2]
            · rw [q6]
              have := HRi.out
              rw [q3, List.take_length] at this
              exact this
          case measure => simp [intOf]; omega
    · obtain rfl : k = 5 := by omega
      go_wp2_with fail
      go_ret
      exact ⟨rfl, HR.out.b⟩
end Go.Proofs.YtchjknbideoieaaGreatDoor
namespace Go.Proofs.YtchjknbideoieaaGreatDoor
open Go.RowKit Go.Great Go.Proofs
set_option maxRecDepth 100000 in
theorem infoSt14 : (Tryz.prog.info? 40).map (·.size) = some 14 := by kernel_rfl
set_option maxRecDepth 100000 in
theorem infoEd11 : (Tryz.prog.info? 46).map (·.size) = some 11 := by kernel_rfl
theorem stC_one {v : Value} (hv : v.oneCell' = true) (N : Nat) : ∀ u ∈ (stC v N).toArray.toList, u.oneCell' = true := by
  intro u hu
  simp only [stC, List.mem_cons, List.not_mem_nil, or_false] at hu
  rcases hu with h | h | h | h | h | h | h | h | h | h | h | h | h | h <;> (rw [h]; first | exact hv | rfl)
set_option maxRecDepth 100000 in
theorem wl_loadRowG {ops : Array Oper} {rest : List Oper} {o : Oper} {a : Act} {w : World} {Q : Exit → Act → World → Prop} (hgd : Region.wanted o (yielded ops a.tmps) = true) (ty : TypeId) (x : Operand) (ho : o.op = .load ty x)
    (g : Nat) (hx : a.eval x = .pointer (some ⟨g, 0, none⟩)) (t : TypeId) (cs : Array Value) (fr : Nat × Nat) (d : TypeDesc) (hg : w.heap[g]? = some (.cells cs t fr))
    (hd : d.isRow = true) (hu : Tryz.prog.underlying ty = some d) (hi : (Tryz.prog.info? ty).map (·.size) = some cs.size)
    (h : wpList Tryz.prog ops Q rest (a.put o.dst (.agg cs)) w) : wpList Tryz.prog ops Q (o :: rest) a w :=
  wl_of hgd fun K hK => wp_load_row ty x ho g hx t cs fr d hg hu (by cases d <;> first | rfl | exact hd) hi (hK _ _ h)
theorem alloc3b (w : World) (a b c : Obj) : (((w.alloc a).alloc b).alloc c).heap[w.heap.size]? = some a ∧ (((w.alloc a).alloc b).alloc c).heap[w.heap.size + 1]? = some b ∧ (((w.alloc a).alloc b).alloc c).heap[w.heap.size + 1 + 1]? = some c ∧ (((w.alloc a).alloc b).alloc c).heap.size = w.heap.size + 1 + 1 + 1 ∧ Below w.heap.size w (((w.alloc a).alloc b).alloc c) := by
  refine ⟨?_, ?_, ?_, by simp, balloc (balloc (balloc (bself w) _) _) _⟩
  · rw [heap_alloc_old _ _ (by simp only [World.size_alloc]; omega), heap_alloc_old _ _ (by simp only [World.size_alloc]; omega)]
    exact heap_alloc_new w a
  · rw [heap_alloc_old _ _ (by simp only [World.size_alloc]; omega)]
    exact heap_alloc2_new w a b
  · have h := heap_alloc_new ((w.alloc a).alloc b) c
    simp only [World.size_alloc] at h
    exact h
set_option maxRecDepth 100000 in
theorem infoMdz : (Tryz.prog.info? 55).map (fun i => (i.zero, i.size, i.bytes)) = some (some (.agg ([Value.int .u8 0, .int .u64 0, .int .u64 0, .int .u64 0, .int .i64 0, .int .i64 0, .string .empty, .string .empty] ++ bv (List.replicate 32 0)).toArray), 40, 112) := by kernel_rfl
structure AptAt (w wr : World) (X N : Nat) (v : Value) (L : List Md) : Prop where
  b : Below X w wr
  x : wr.heap[X]? = some (.cells (stC v N).toArray 40 (0, 0))
  o : OG 55 mdC 40 wr (X + 1) v L
theorem AptAt.on {w wr w' : World} {X N : Nat} {v : Value} {L : List Md} (h : AptAt w wr X N v L) (hb : Below wr.heap.size wr w') : AptAt w w' X N v L := by
  have hl := (Array.getElem?_eq_some_iff.1 h.x).1
  exact ⟨h.b.trans (hb.mono (by omega)), (hb.block _ hl).trans h.x, h.o.below hb (Nat.le_refl _)⟩
theorem stC_set {v u : Value} {N k : Nat} (hk : k < 5) (h : u = lvV v k) : (stC v N).toArray.setIfInBounds k u = (stC v N).toArray := by
  subst h
  match k, hk with
  | 0, _ | 1, _ | 2, _ | 3, _ | 4, _ => rfl
theorem stC_set1 (v u : Value) (N : Nat) : (stC v N).toArray.setIfInBounds 1 u = (stC u N).toArray := rfl
theorem AptAt.setk {w wr : World} {X N k : Nat} {v u : Value} {L : List Md} (h : AptAt w wr X N v L) (hk : k < 5) (hu : u = lvV v k) : AptAt w (wr.setCell ⟨X, k, none⟩ u) X N v L := by
  refine ⟨h.b.setCell (Nat.le_refl _) _, ?_, h.o.grown (grown_set wr (g := X) rfl u) ?_⟩
  · simp only [World.setCell, Array.getElem?_modify, h.x]
    simp only [if_true, Option.map_some, Option.isSome_none, Bool.false_eq_true, if_false]
    rw [stC_set hk hu]
  · rcases e : v.ownBlock with _ | j
    · exact .inl rfl
    · refine .inr fun e2 => ?_
      injection e2 with e2
      have := (h.o.lt j e).1
      omega
theorem AptAt.set1 {w wr w' : World} {X N : Nat} {v v' : Value} {L L' : List Md} (h : AptAt w wr X N v L) (hb : Below (X + 1) wr w') (ho : OG 55 mdC 40 w' (X + 1) v' L') : AptAt w (w'.setCell ⟨X, 1, none⟩ v') X N v' L' := by
  refine ⟨(h.b.trans (hb.mono (by omega))).setCell (Nat.le_refl _) _, ?_, ho.grown (grown_set w' (g := X) rfl v') ?_⟩
  · have hx := (hb.block X (by omega)).trans h.x
    simp only [World.setCell, Array.getElem?_modify, hx]
    simp only [if_true, Option.map_some, Option.isSome_none, Bool.false_eq_true, if_false]
    rw [stC_set1]
  · rcases e : v'.ownBlock with _ | j
    · exact .inl rfl
    · refine .inr fun e2 => ?_
      injection e2 with e2
      have := (ho.lt j e).1
      omega
theorem AptAt.cellk {w wr : World} {X N k : Nat} {v : Value} {L : List Md} (h : AptAt w wr X N v L) (hk : k < 5) : wr.cell? ⟨X, k, none⟩ = some (lvV v k) ∧ wr.frozen? ⟨X, k, none⟩ = false :=
  ⟨(cell_of_row _ _ k _ _ _ h.x).trans (by rw [List.getElem?_toArray]; exact stC_lv v N k hk), by simp [World.frozen?, h.x]⟩
theorem results_ct {P : Program} {fn : Func} {p u : Tmp} {ty : TypeId} (h : fn.results = #[.cell p ty, .tmp u]) (tmps : Array Value) (w : World) (g : Nat) (t : TypeId) (cs : Array Value) (fr : Nat × Nat) (d : TypeDesc)
    (hp : tmps.getD p undef = .pointer (some ⟨g, 0, none⟩)) (hg : w.heap[g]? = some (.cells cs t fr))
    (hu : P.underlying ty = some d) (hd : (match d with | .struct _ | .array _ _ => true | _ => false) = true) (hi : (P.info? ty).map (·.size) = some cs.size) :
    (results fn tmps).run P w = .ok (.tuple #[.agg cs, tmps.getD u undef]) w := by
  have hp' : tmps[p]?.getD undef = .pointer (some ⟨g, 0, none⟩) := by simpa using hp
  simp [results, h, hp', asAddr, run_loadVar_row w g t ty cs fr d hg hu hd hi]
theorem fz_rowA {w : World} {g : Nat} {c : Array Value} {t : TypeId} (h : w.heap[g]? = some (.cells c t (0, 0))) (k : Nat) : w.frozen? ⟨g, k, none⟩ = false := by simp [World.frozen?, h]
theorem grown_cell {w w1 : World} {row : Option Nat} (hg : w.grownBy w1 row) {g : Nat} (hl : g < w.heap.size) (hne : some g ≠ row) (k : Nat) : w1.cell? ⟨g, k, none⟩ = w.cell? ⟨g, k, none⟩ ∧ w1.frozen? ⟨g, k, none⟩ = w.frozen? ⟨g, k, none⟩ := by
  have h := hg.block g hl hne
  exact ⟨World.cell?_of_block (a := ⟨g, k, none⟩) h, by simp only [World.frozen?, h]⟩
theorem ms_up {N : Nat} {ms : List Md} (h : MsOk N ms) : ∀ (i j : Nat) (hij : i < j) (hj : j < ms.length), ltB (ms[i]'(by omega)).1.mn.toList ms[j].1.mn.toList = true := by
  intro i j hij
  induction j with
  | zero => omega
  | succ j ih =>
    intro hj
    have hst : ltB (ms[j]'(by omega)).1.mn.toList ms[j + 1].1.mn.toList = true := ltB_of_le (h.fit _ (List.getElem_mem (show j < ms.length by omega))).ord (h.up j hj)
    rcases Nat.lt_or_ge i j with h1 | h1
    · exact ltB_trans _ _ _ (ih h1 (by omega)) hst
    · obtain rfl : i = j := by omega
      exact hst
set_option maxRecDepth 100000 in
set_option maxHeartbeats 4000000 in
theorem kApply_any (v : Value) (N : Nat) (ms : List Md) (w : World) (hv : SG mdC 40 w w.heap.size v ms) (hok : MsOk N ms) (hN : N < 18446744073709551616) (c0 ce : Array Value) (hc0 : c0 = (stC (.slice none 0 0) 0).toArray) (hce : ce = (edC v N).toArray) :
    Calls Tryz.prog 11 #[.agg c0, .agg ce] w fun e w' => ∃ v' , e = .returned (.tuple #[.agg (stC v' N).toArray, .int .i64 0]) ∧ SG mdC 40 w' w'.heap.size v' ms ∧ Below w.heap.size w w' := by
  have HV := Lib.hid hv
  have HOK := Lib.hid hok
  have HC := Lib.hid (And.intro hc0 hce)
  have H0 : Hid (c0.size = 14 ∧ ce.size = 11) := Lib.hid (by rw [hc0, hce]; exact ⟨rfl, rfl⟩)
  obtain ⟨Av, cv, rfl, hcv, hcv2⟩ := hv.form
  have hlm := hok.len
  obtain ⟨n, hn⟩ : ∃ n, n = ms.length := ⟨_, rfl⟩
  rw [← hn] at hcv hlm HV HC
  have HN := Lib.hid hn
  clear hv hok hc0 hce hn
  have HRight0 : Hid (∀ W, Calls Tryz.prog 22 #[.agg c0] W fun e w' => e = .returned (.bool true) ∧ Below W.heap.size W w') := Lib.hid (fun W => kRight_st (.slice none 0 0) 0 [] W (SG.nil_ _ _ _ _) (MsOk.nil_ 0) (by omega) c0 HC.out.1)
  have HBef : Hid (∀ W, Calls Tryz.prog 23 #[.agg c0, .agg ce] W fun e w' => e = .returned (.bool false) ∧ Below W.heap.size W w') := Lib.hid (fun W => kBefore_any _ _ 0 N (by omega) hN c0 ce HC.out.1 HC.out.2 W)
  go_enter Tryz.func11, Tryz.ntmps11
  go_upto_region 1 with fail
  obtain ⟨r0, r1, r2, zA, bA⟩ := alloc3b w (.cells c0 40) (.cells ce 46) (.cells (stC (.slice none 0 0) 0).toArray 40)
  simp only [stC] at r0 r1 r2 zA bA
  generalize World.alloc _ _ = wA at r0 r1 r2 zA bA ⊢
  have HK : Hid (∀ W, Below wA.heap.size wA W → W.heap[w.heap.size]? = some (.cells c0 40 (0, 0)) ∧ W.heap[w.heap.size + 1]? = some (.cells ce 46 (0, 0)) ∧ W.heap[w.heap.size + 1 + 1]? = some (.cells (stC (.slice none 0 0) 0).toArray 40 (0, 0)) ∧ w.heap.size + 1 + 1 + 1 ≤ W.heap.size) := Lib.hid (fun W hW => ⟨(hW.block _ (by omega)).trans r0, (hW.block _ (by omega)).trans r1, (hW.block _ (by omega)).trans r2, by have := hW.size; omega⟩)
  clear r0 r1 r2
  have r0 := (HK.out _ (bself wA)).1
  have s0 := infoSt14
  go_upto_region 3 with (first | (refine wpList_load_row rfl 40 (.tmp 2) rfl _ rfl _ c0 (0, 0) _ r0 Tryz.underlying40 rfl (by rw [H0.out.1]; exact infoSt14) ?_) | (go_at_call 22; refine (HRight0.out _).mono ?_; rintro _ w1 ⟨rfl, hb1⟩))
  obtain ⟨k0, k1, _, z1⟩ := HK.out _ hb1
  have k1' := k1
  rw [HC.out.2] at k1'
  have y0 : w1.cell? ⟨w.heap.size + 1, 0, none⟩ = some (.int .u64 0) := cell_of_row _ _ 0 _ _ _ k1'
  have y1 : w1.cell? ⟨w.heap.size + 1, 1, none⟩ = some (.int .u64 (N : Int)) := cell_of_row _ _ 1 _ _ _ k1'
  have y9 : w1.cell? ⟨w.heap.size + 1, 9, none⟩ = some (.slice Av n cv) := cell_of_row _ _ 9 _ _ _ k1'
  have y10 : w1.cell? ⟨w.heap.size + 1, 10, none⟩ = some (.slice none 0 0) := cell_of_row _ _ 10 _ _ _ k1'
  have hn1 : ¬ (1024 : Int) < (n : Int) := by omega
  clear r0
  go_upto_region 5 with (first | (refine wl_loadRowG rfl 40 (.tmp 2) rfl _ rfl _ c0 (0, 0) _ k0 rfl Tryz.underlying40 (by rw [H0.out.1]; exact infoSt14) ?_) | (refine wl_loadRowG rfl 46 (.tmp 3) rfl _ rfl _ ce (0, 0) _ k1 rfl Tryz.underlying46 (by rw [H0.out.2]; exact infoEd11) ?_) | (go_at_call 23; refine (HBef.out _).mono ?_; rintro _ w2 ⟨rfl, hb2⟩))
  have b2 := bstep hb1 hb2
  obtain ⟨k0, k1, _, z2⟩ := HK.out _ b2
  rw [HC.out.1] at k0
  rw [HC.out.2] at k1
  clear y0 y1 y9 y10
  have y0 : w2.cell? ⟨w.heap.size + 1, 0, none⟩ = some (.int .u64 0) := cell_of_row _ _ 0 _ _ _ k1
  have y1 : w2.cell? ⟨w.heap.size + 1, 1, none⟩ = some (.int .u64 (N : Int)) := cell_of_row _ _ 1 _ _ _ k1
  have y2 : w2.cell? ⟨w.heap.size + 1, 2, none⟩ = some (.int .u64 0) := cell_of_row _ _ 2 _ _ _ k1
  have y3 : w2.cell? ⟨w.heap.size + 1, 3, none⟩ = some (.int .u64 0) := cell_of_row _ _ 3 _ _ _ k1
  have y4 : w2.cell? ⟨w.heap.size + 1, 4, none⟩ = some (.int .u64 0) := cell_of_row _ _ 4 _ _ _ k1
  have y5 : w2.cell? ⟨w.heap.size + 1, 5, none⟩ = some (.int .u64 0) := cell_of_row _ _ 5 _ _ _ k1
  have y6 : w2.cell? ⟨w.heap.size + 1, 6, none⟩ = some (.int .u64 0) := cell_of_row _ _ 6 _ _ _ k1
  have y7 : w2.cell? ⟨w.heap.size + 1, 7, none⟩ = some (.int .u64 0) := cell_of_row _ _ 7 _ _ _ k1
  have y8 : w2.cell? ⟨w.heap.size + 1, 8, none⟩ = some (.int .u64 0) := cell_of_row _ _ 8 _ _ _ k1
  have x0 : w2.cell? ⟨w.heap.size, 0, none⟩ = some (.slice none 0 0) := cell_of_row _ _ 0 _ _ _ k0
  have x1 : w2.cell? ⟨w.heap.size, 1, none⟩ = some (.slice none 0 0) := cell_of_row _ _ 1 _ _ _ k0
  have x2 : w2.cell? ⟨w.heap.size, 2, none⟩ = some (.slice none 0 0) := cell_of_row _ _ 2 _ _ _ k0
  have x3 : w2.cell? ⟨w.heap.size, 3, none⟩ = some (.slice none 0 0) := cell_of_row _ _ 3 _ _ _ k0
  have x4 : w2.cell? ⟨w.heap.size, 4, none⟩ = some (.slice none 0 0) := cell_of_row _ _ 4 _ _ _ k0
  clear k0 k1
  go_upto_region 6 with fail
  have hA0 : AptAt w2 (w2.alloc (.cells (stC (.slice none 0 0) N).toArray 40)) w2.heap.size N (.slice none 0 0) [] := ⟨balloc (bself w2) _, heap_alloc_new w2 _, OG.nil_ _ _ _ _ _⟩
  obtain ⟨X, hX⟩ : ∃ X, X = w2.heap.size := ⟨_, rfl⟩
  simp only [stC] at hA0
  rw [← hX] at hA0 z2 ⊢
  generalize World.alloc w2 _ = wB at hA0 ⊢
  have hzX : w.heap.size + 1 + 1 < X := by omega
  have HX := Lib.hid (And.intro hX (And.intro b2 (And.intro hb1 hb2)))
  have HKB : Hid (∀ W, Below X w2 W → W.heap[w.heap.size]? = some (.cells c0 40 (0, 0)) ∧ W.heap[w.heap.size + 1]? = some (.cells ce 46 (0, 0)) ∧ W.heap[w.heap.size + 1 + 1]? = some (.cells (stC (.slice none 0 0) 0).toArray 40 (0, 0))) := Lib.hid (fun W hW => by
    have hb : Below wA.heap.size wA W := HX.out.2.1.trans (hW.mono (by rw [HX.out.1]; exact HX.out.2.1.size))
    obtain ⟨q1, q2, q3, _⟩ := HK.out W hb
    exact ⟨q1, q2, q3⟩)
  have HBW : Hid (∀ W, Below X w2 W → Below w.heap.size w W) := Lib.hid (fun W hW => (bstep bA HX.out.2.1).trans (hW.mono (by omega)))
  clear y0 y1 y2 y3 y4 y5 y6 y7 y8 x0 x1 x2 x3 x4 hX b2 hb1 hb2 z1 z2 zA HBef HRight0 hn1 HK s0
  go_wp2_with fail
  go_loopw [49] (fun kv wr => ∃ k : Nat, kv = .int .i64 (k : Int) ∧ k ≤ 5 ∧ Hid (AptAt w2 wr X N (.slice none 0 0) [])) (fun kv _ => 5 - (intOf kv).toNat)
  case atStart => exact ⟨0, rfl, by omega, Lib.hid hA0⟩
  case round =>
    obtain ⟨k, rfl, hk, HA⟩ := hrel
    by_cases hlt : k < 5
    · have hki : (k : Int) < 5 := by omega
      obtain ⟨ck, fk⟩ := HA.out.cellk hlt
      have hnk : lvV (.slice none 0 0) k = .slice none 0 0 := by unfold lvV; split <;> rfl
      rw [hnk] at ck
      have hXl := (Array.getElem?_eq_some_iff.1 HA.out.x).1
      go_wp2_with (go_at_call 24; refine (kCloneNil _).mono ?_; rintro _ w3 ⟨rfl, hb3⟩; have HA3 := Lib.hid (HA.out.on hb3); obtain ⟨_, fk3⟩ := HA3.out.cellk hlt; have ck3 := (HA3.out.cellk hlt).1; rw [hnk] at ck3)
      go_roundw
      case rel => exact ⟨k + 1, by go_num, by omega, Lib.hid (HA3.out.setk hlt hnk.symm)⟩
      case measure => simp [intOf]; omega
    · have hki : ¬ (k : Int) < 5 := by omega
      obtain ⟨q0, q1, _⟩ := HKB.out _ HA.out.b
      rw [HC.out.2] at q1
      have y9 : wr.cell? ⟨w.heap.size + 1, 9, none⟩ = some (.slice Av n cv) := cell_of_row _ _ 9 _ _ _ q1
      have y10 : wr.cell? ⟨w.heap.size + 1, 10, none⟩ = some (.slice none 0 0) := cell_of_row _ _ 10 _ _ _ q1
      clear q0 q1
      obtain ⟨wo, hwo⟩ : ∃ wo, wo = wr := ⟨_, rfl⟩
      subst hwo
      go_wp2_with fail
      go_loopw [64] (fun iv wi => iv = .int .i64 0 ∧ wi = wo) (fun _ _ => 0)
      case atStart => exact ⟨rfl, by first | rfl | trivial⟩
      case round =>
        obtain ⟨rfl, rfl⟩ := hrel
        go_wp2_with fail
        go_loopw [97] (fun iv wi => ∃ (i : Nat) (v' : Value), iv = .int .i64 (i : Int) ∧ i ≤ n ∧ Hid (AptAt w2 wi X N v' (ms.take i))) (fun iv _ => n - (intOf iv).toNat)
        case atStart => exact ⟨0, .slice none 0 0, rfl, by omega, Lib.hid (by simpa using HA.out)⟩
        case round =>
          obtain ⟨i, v', rfl, hi, HAi⟩ := hrel
          by_cases hin : i < n
          · have hiL : i < ms.length := by rw [← HN.out]; exact hin
            obtain ⟨b, o, kk, e, hb, hr⟩ := (HV.out.below (HBW.out _ HAi.out.b)).at_ mdC_length (by omega)
            injection e with e1 e2 e3
            subst e1; subst e3
            obtain ⟨Y, hY⟩ : ∃ Y : Md, Y = ms[i] := ⟨_, rfl⟩
            have hrY := hr i hiL
            rw [← hY] at hrY
            obtain ⟨xc, hxc⟩ : ∃ xc, (mdC Y).toArray = xc := ⟨_, rfl⟩
            have HXP : Hid (xc.size = 40 ∧ ∀ v ∈ xc.toList, v.oneCell' = true) := Lib.hid (by rw [← hxc]; exact ⟨by simp [mdC_length], fun v hv => mdC_one Y v (by simpa using hv)⟩)
            have HXC := Lib.hid (And.intro hxc (And.intro hY e2))
            have hii : (i : Int) < (n : Int) := by omega
            have hin2 : i < n := hin
            clear hr hxc hY e2
            go_upto_region 25 with (first | (refine wpList_load_mid rfl 55 (.tmp 99) rfl b (o + i * 40) rfl (mdC Y) _ hrY Tryz.underlying55 rfl (by rw [mdC_length]; exact infoMd) ?_; rw [HXC.out.1]) | (refine wl_storeT 55 (n := 40) infoMd rfl (.tmp 13) (.tmp 100) rfl _ rfl _ xc rfl (heap_alloc_new _ _) (by rfl) HXP.out.1 HXP.out.2 ?_))
            simp only [Act.put]
            generalize hW1 : World.setRow _ _ _ = w1
            have hX1 : w1.heap[wr.heap.size]? = some (.cells xc 55 (0, 0)) := by rw [← hW1]; exact setRow_heap _ _ _ _ _ _ (heap_alloc_new _ _)
            have b1 : Below wr.heap.size wr w1 := by rw [← hW1]; exact below_setRow (balloc (bself wr) _) (Nat.le_refl _) _
            have z1 : wr.heap.size < w1.heap.size := (Array.getElem?_eq_some_iff.1 hX1).1
            have HA1 := Lib.hid (HAi.out.on b1)
            have zX := (Array.getElem?_eq_some_iff.1 HAi.out.x).1
            have d0 : w1.cell? ⟨wr.heap.size, 0, none⟩ = some (.int .u8 1) := (cell_of_row _ _ 0 _ _ _ hX1).trans (by rw [← HXC.out.1]; show some (Value.int .u8 (Y.1.lv : Int)) = _; rw [(HOK.out.fit Y (by rw [HXC.out.2.1]; exact List.getElem_mem _)).lv]; rfl)
            clear hW1 hrY
            go_upto_region 27 with fail
            have ck := HA1.out.cellk (k := 1) (by omega)
            have hv1 : lvV v' 1 = v' := rfl
            rw [hv1] at ck
            obtain ⟨A', k', rfl, hk'1, hk'2⟩ := HA1.out.o.sg.form
            have hTl : (ms.take i).length = i := by rw [List.length_take]; omega
            rw [hTl] at HA1 HAi ck hk'1
            have hod : OG 55 mdC 40 w1.drew (X + 1) (.slice A' i k') (ms.take i) := HA1.out.o
            have hX1d : w1.drew.heap[wr.heap.size]? = some (.cells xc 55 (0, 0)) := hX1
            have hod2 : OG 55 mdC 40 (w1.drew.alloc (.cells xc 55)) (X + 1) (.slice A' i k') (ms.take i) := hod.alloc _
            have hsrc : SG mdC 40 (w1.drew.alloc (.cells xc 55)) (w1.drew.heap.size + 1) (.slice (some ⟨w1.drew.heap.size, 0, none⟩) 1 1) [Y] := by rw [← HXC.out.1]; exact SG.new1 w1.drew mdC 40 55 Y (mdC_length Y) rfl (Nat.lt_succ_self _)
            have hbz : X + 1 ≤ (w1.drew.alloc (.cells xc 55)).heap.size := by rw [World.size_alloc]; show X + 1 ≤ w1.heap.size + 1; omega
            have f0 : w1.drew.heap[wr.heap.size]? = some (.cells xc 55 (0, 0)) ∧ w1.drew.cell? ⟨wr.heap.size, 0, none⟩ = some (.int .u8 1) ∧ w1.drew.cell? ⟨X, 1, none⟩ = some (.slice A' i k') := ⟨hX1, d0, ck.1⟩
            have f1 : (w1.drew.alloc (.cells xc 55)).heap[wr.heap.size]? = some (.cells xc 55 (0, 0)) ∧ (w1.drew.alloc (.cells xc 55)).cell? ⟨wr.heap.size, 0, none⟩ = some (.int .u8 1) ∧ (w1.drew.alloc (.cells xc 55)).cell? ⟨X, 1, none⟩ = some (.slice A' i k') :=
              ⟨(heap_alloc_old w1.drew _ z1).trans hX1, (World.cell?_alloc_lt w1.drew _ _ z1).trans d0, (World.cell?_alloc_lt w1.drew _ _ (show X < w1.heap.size by omega)).trans ck.1⟩
            have hones : ∀ x ∈ [Y], ∀ u ∈ mdC x, u.oneCell' = true := fun x hx u hu => by rw [List.mem_singleton.1 hx] at hu; exact mdC_one Y u hu
            have hmx : (ms.take i).length + [Y].length ≤ maxLen := by simp [maxLen, hTl]; omega
            have hby : ((ms.take i).length + [Y].length) * 112 ≤ 140737488355328 := by simp [hTl]; omega
            have HF1 := Lib.hid (And.intro f1 (And.intro hod2 (And.intro hsrc (And.intro hbz (And.intro hones (And.intro hmx hby))))))
            clear hX1 d0 ck f1 hod hod2 hsrc hbz hones hmx hby hX1d
            refine wp_region_noPanic ?_
            refine wp_regionG (fun W => W.heap[wr.heap.size]? = some (.cells xc 55 (0, 0)) ∧ W.cell? ⟨wr.heap.size, 0, none⟩ = some (.int .u8 1) ∧ W.cell? ⟨X, 1, none⟩ = some (.slice A' i k')) [11, 12] (by kernel_rfl) f0 (fun hHeld => ?_)
            refine regG_pure 0 (v := ?_) (by rfl) (by kernel_rfl) (by kernel_rfl) (by kernel_rfl) (by kernel_rfl) (fun _ _ _ h => h) (by rfl) ?_ (by assumption) ?_
            rotate_left
            · (intro wq; go_simp; (try with_reducible rfl))
            try simp only [Act.put, q1, q2, q3]
            refine regG_pure 2 (v := ?_) (by rfl) (by kernel_rfl) (by kernel_rfl) (by kernel_rfl) (by kernel_rfl) (fun _ _ _ h => h) (by rfl) ?_ (by assumption) ?_
            rotate_left
            · (intro wq; go_simp; (try with_reducible rfl))
            try simp only [Act.put, q1, q2, q3]
            refine regG_pure 4 (v := ?_) (by rfl) (by kernel_rfl) (by kernel_rfl) (by kernel_rfl) (by kernel_rfl) (fun _ _ _ h => h) (by rfl) ?_ (by assumption) ?_
            rotate_left
            · (intro wq; go_simp; (try with_reducible rfl))
            try simp only [Act.put, q1, q2, q3]
            refine regG_pure 10 (v := ?_) (by rfl) (by kernel_rfl) (by kernel_rfl) (by kernel_rfl) (by kernel_rfl) (fun _ _ _ h => h) (by rfl) ?_ (by assumption) ?_
            rotate_left
            · (intro wq; go_simp; (try with_reducible rfl))
            try simp only [Act.put, q1, q2, q3]
            refine regG_take 1 (v := ?_) (by rfl) (by kernel_rfl) (by kernel_rfl) (by kernel_rfl) (by kernel_rfl) (by kernel_rfl) (fun _ _ _ h => h) (by rfl) ?_ (by assumption) ?_
            rotate_left
            · (intro wq hSq; (try dsimp only at hSq); go_split_ands; go_simp; (try with_reducible rfl))
            try simp only [Act.put, q1, q2, q3]
            refine regG_take 3 (v := ?_) (by rfl) (by kernel_rfl) (by kernel_rfl) (by kernel_rfl) (by kernel_rfl) (by kernel_rfl) (fun _ _ _ h => h) (by rfl) ?_ (by assumption) ?_
            rotate_left
            · (intro wq hSq; (try dsimp only at hSq); go_split_ands; go_simp; (try with_reducible rfl))
            try simp only [Act.put, q1, q2, q3]
            refine regG_take 5 (v := ?_) (by rfl) (by kernel_rfl) (by kernel_rfl) (by kernel_rfl) (by kernel_rfl) (by kernel_rfl) (fun _ _ _ h => h) (by rfl) ?_ (by assumption) ?_
            rotate_left
            · (intro wq hSq; (try dsimp only at hSq); go_split_ands; go_simp; (try with_reducible rfl))
            try simp only [Act.put, q1, q2, q3]
            refine regG_take 6 (v := ?_) (by rfl) (by kernel_rfl) (by kernel_rfl) (by kernel_rfl) (by kernel_rfl) (by kernel_rfl) (fun _ _ _ h => h) (by rfl) ?_ (by assumption) ?_
            rotate_left
            · (intro wq hSq; (try dsimp only at hSq); go_split_ands; go_simp; (try with_reducible rfl))
            try simp only [Act.put, q1, q2, q3]
            refine regG_take 7 (v := .agg xc) (by rfl) (by kernel_rfl) (by kernel_rfl) (by kernel_rfl) (by kernel_rfl) (by kernel_rfl) (fun _ _ _ h => h) (by rfl) ?_ (by assumption) ?_
            · (intro wq hSq; exact exec_loadRow 55 Tryz.underlying55 rfl infoMd (.tmp 13) rfl _ rfl xc hSq.1 HXP.out.1)
            try simp only [Act.put, q1, q2, q3]
            refine regG_one 8 (by rfl) (by kernel_rfl) (by rfl) (fun K hK => ?_)
            (refine wp_buildG 30 55 _ 112 infoMdz Tryz.underlying30 (by omega) (by omega) (by omega) (.tmp 112) rfl xc rfl HXP.out.1 ?_)
            refine hK.out _ _ ?_ (fun hHeld => ?_)
            · exact HF1.out.1
            clear hK K
            try simp only [Act.put, q1, q2, q3]
            have hown := HAi.out.o.lt
            have hneM : some wr.heap.size ≠ (Value.slice A' i k').ownBlock := fun e => by have := (hown _ e.symm).2; omega
            have hneX : some X ≠ (Value.slice A' i k').ownBlock := fun e => by have := (hown _ e.symm).1; omega
            have HNe := Lib.hid (And.intro hneM hneX)
            clear hown hneM hneX
            refine regG_one 9 (by rfl) (by kernel_rfl) (by rfl) (fun K hK => ?_)
            (refine wp_appG 30 55 _ 112 infoMdz Tryz.underlying30 rfl (by omega) (.tmp 111) (.tmp 113) rfl (X + 1) (.slice A' i k') (ms.take i) rfl HF1.out.2.1 (w1.drew.heap.size + 1) _ [Y] HF1.out.2.2.2.2.1 rfl HF1.out.2.2.1 HF1.out.2.2.2.2.2.1 HF1.out.2.2.2.2.2.2 HF1.out.2.2.2.1 ?_; intro v4 w4 ho4 hg4 hf4 hb4; obtain ⟨g4, k4, rfl⟩ := ho4.form0 (by simp); have hl4 : (ms.take i ++ [Y]).length = i + 1 := (by simp [hTl]); rw [hl4] at ho4; rw [hl4]; have HO4 := Lib.hid ho4; have hM4 : wr.heap.size < (w1.drew.alloc (.cells xc 55)).heap.size := (by rw [World.size_alloc]; show wr.heap.size < w1.heap.size + 1; omega); have hX4 : X < (w1.drew.alloc (.cells xc 55)).heap.size := (by rw [World.size_alloc]; show X < w1.heap.size + 1; omega); have f4 : w4.heap[wr.heap.size]? = some (.cells xc 55 (0, 0)) ∧ w4.cell? ⟨wr.heap.size, 0, none⟩ = some (.int .u8 1) ∧ w4.cell? ⟨X, 1, none⟩ = some (.slice A' i k') := ⟨(hg4.block _ hM4 HNe.out.1).trans HF1.out.1.1, (grown_cell hg4 hM4 HNe.out.1 0).1.trans HF1.out.1.2.1, (grown_cell hg4 hX4 HNe.out.2 1).1.trans HF1.out.1.2.2⟩)
            refine hK.out _ _ ?_ (fun hHeld => ?_)
            · exact f4
            clear hK K
            try simp only [Act.put, q1, q2, q3]
            have hb14 : Below (X + 1) w1 w4 := ((Below.alloc (bdrew' (Below.refl (X + 1) w1)) (show X + 1 ≤ w1.heap.size by omega) _).trans hb4)
            have hA5 := HA1.out.set1 hb14 HO4.out
            have fz4 : w4.frozen? ⟨X, 1, none⟩ = false := (fz_rowA ((hb14.block X (by omega)).trans HA1.out.x) 1)
            have HA5 := Lib.hid hA5
            have c4 := f4.2.2
            clear hA5 hg4 hf4 hb4 ho4 hl4 hM4 hX4 f4 f0
            refine regG_last (S := fun _ => True ∧ True) 11 (by rfl) (by kernel_rfl) (by rfl) (by kernel_rfl) (fun K hK => ?_)
            (go_simp)
            refine hK.out _ _ ?_ (fun hHeld => ?_)
            · exact ⟨trivial, trivial⟩
            clear hK K
            try simp only [Act.put, q1, q2, q3]
            refine reg_one 12 (by rfl) (by kernel_rfl) (by rfl) (fun K hK => ?_)
            (go_simp)
            refine hK.out _ _ ?_ (fun hHeld => ?_)
            · exact ⟨trivial, trivial⟩
            clear hK K
            try simp only [Act.put, q1, q2, q3]
            refine wpAnyH_done (by kernel_rfl) (noPanic_mk ?_) _
            clear hHeld
            go_wp2_with fail
            go_roundw
            case rel => exact ⟨i + 1, _, by go_num, by omega, Lib.hid (by rw [List.take_succ_eq_append_getElem hiL, ← HXC.out.2.1]; exact HA5.out)⟩
            case measure => simp [intOf]; omega
          · obtain rfl : n = i := by omega
            obtain ⟨Ax, kx, rfl, hkx1, hkx2⟩ := HAi.out.o.sg.form
            have hTl : (ms.take n).length = n := by rw [List.length_take]; have := HN.out; omega
            have hTn : ms.take n = ms := by rw [HN.out, List.take_length]
            rw [hTl] at HAi hkx1
            rw [hTn] at HAi
            have x0 : wr.cell? ⟨X, 0, none⟩ = some (.slice none 0 0) := (HAi.out.cellk (k := 0) (by omega)).1
            have x1 : wr.cell? ⟨X, 1, none⟩ = some (.slice Ax n kx) := (HAi.out.cellk (k := 1) (by omega)).1
            have x2 : wr.cell? ⟨X, 2, none⟩ = some (.slice none 0 0) := (HAi.out.cellk (k := 2) (by omega)).1
            have x3 : wr.cell? ⟨X, 3, none⟩ = some (.slice none 0 0) := (HAi.out.cellk (k := 3) (by omega)).1
            have x4 : wr.cell? ⟨X, 4, none⟩ = some (.slice none 0 0) := (HAi.out.cellk (k := 4) (by omega)).1
            obtain ⟨wo, hwo⟩ : ∃ wo, wo = wr := ⟨_, rfl⟩
            subst hwo
            go_wp2_with fail
            clear x0 x1 x2 x3 x4
            have HIX := Lib.hid (fun k (h : k < 5) => run_idx5s (.slice Ax n kx) rfl k h)
            go_loopw [120] (fun kv wi => ∃ k : Nat, kv = .int .i64 (k : Int) ∧ k ≤ 5 ∧ Below wo.heap.size wo wi) (fun kv _ => 5 - (intOf kv).toNat)
            case atStart => exact ⟨0, rfl, by omega, bself wo⟩
            case round =>
              obtain ⟨k, rfl, hk, hbk⟩ := hrel
              by_cases hlt : k < 5
              · have hidx := HIX.out k hlt
                have hki : (k : Int) < 5 := by omega
                have hsgk := lv_sg HAi.out.o.sg k
                obtain ⟨vk, hvk⟩ : ∃ vk, vk = lvV (.slice Ax n kx) k := ⟨_, rfl⟩
                rw [← hvk] at hidx hsgk
                obtain ⟨Ak, ck, rfl, hck, _⟩ := hsgk.form
                obtain ⟨nk, hnk⟩ : ∃ nk, nk = (lvL ms k).length := ⟨_, rfl⟩
                rw [← hnk] at hidx hsgk hck
                have HNK := Lib.hid (And.intro hnk hsgk)
                clear hvk hnk hsgk
                go_upto_region 32 with fail
                have rI := heap_alloc_new wr (.cells #[.int .i64 (k : Int)] 3)
                have bI := balloc hbk (.cells #[.int .i64 (k : Int)] 3)
                have bI' := balloc (bself wr) (.cells #[.int .i64 (k : Int)] 3)
                generalize World.alloc wr _ = w3 at rI bI bI' ⊢
                have HSort : Hid (Calls Tryz.prog 28 #[.slice Ak nk ck, .func (.func 29) #[] #[.pointer (some ⟨wr.heap.size, 0, none⟩)]] w3 fun e w' => e = .returned (.tuple #[]) ∧ Below w3.heap.size w3 w') := Lib.hid (by
                  have hok := lv_ok HOK.out k
                  have hIl := (Array.getElem?_eq_some_iff.1 rI).1
                  refine kSortStable_any (lvL ms k) nk Ak ck _ w3 HNK.out.1 (by rw [HNK.out.1]; exact hok.len) (HNK.out.2.on bI) (fun i j hij hj W hW => ?_)
                  have hk1 : k = 1 := by
                    by_cases h1 : k = 1
                    · exact h1
                    · have : lvL ms k = [] := by unfold lvL; rw [if_neg h1]
                      rw [this] at hj; simp at hj
                  refine kCmpMd _ _ wr.heap.size W (ms_up hok i j hij hj) ?_ (by have := hW.size; omega)
                  rw [(hW.cell (p := ⟨wr.heap.size, 0, none⟩) hIl), cell_of_row _ _ 0 _ _ _ rI, hk1]
                  rfl)
                clear rI bI'
                go_wp2_with (go_at_call 28; refine HSort.out.mono ?_; rintro _ w5 ⟨rfl, hb5⟩)
                go_roundw
                case rel => exact ⟨k + 1, by go_num, by omega, bstep bI hb5⟩
                case measure => simp [intOf]; omega
              · have hki : ¬ (k : Int) < 5 := by omega
                have HAf := Lib.hid (HAi.out.on hbk)
                have hXr := HAf.out.x
                obtain ⟨cf, hcf⟩ : ∃ cf, cf = (stC (.slice Ax n kx) N).toArray := ⟨_, rfl⟩
                rw [← hcf] at hXr
                have HCF := Lib.hid hcf
                have HCFp : Hid (cf.size = 14 ∧ ∀ v ∈ cf.toList, v.oneCell' = true) := Lib.hid (by rw [hcf]; exact ⟨rfl, stC_one rfl N⟩)
                have HRf : Hid (Calls Tryz.prog 22 #[.agg cf] wr fun e w' => e = .returned (.bool true) ∧ Below wr.heap.size wr w') := Lib.hid (kRight_st (.slice Ax n kx) N ms wr HAf.out.o.sg HOK.out hN cf hcf)
                clear hcf
                go_upto_region 36 with (first | (refine wpList_load_row rfl 40 (.tmp 6) rfl _ rfl _ cf (0, 0) _ hXr Tryz.underlying40 rfl (by rw [HCFp.out.1]; exact infoSt14) ?_) | (go_at_call 22; refine HRf.out.mono ?_; rintro _ w7 ⟨rfl, hb7⟩))
                have HAg := Lib.hid (HAf.out.on hb7)
                have hXg := HAg.out.x
                rw [← HCF.out] at hXg
                have hRg := (HKB.out _ HAg.out.b).2.2
                clear hXr HRf
                go_wp2_with (first | (refine wpList_load_row rfl 40 (.tmp 6) rfl _ rfl _ cf (0, 0) _ hXg Tryz.underlying40 rfl (by rw [HCFp.out.1]; exact infoSt14) ?_) | (refine wl_storeT 40 (n := 14) infoSt14 rfl (.tmp 4) (.tmp 132) rfl _ rfl _ cf rfl hRg (by rfl) HCFp.out.1 HCFp.out.2 ?_))
                have hb9 : Below w.heap.size w (World.setRow w7 (w.heap.size + 1 + 1) cf) := below_setRow (HBW.out _ HAg.out.b) (by omega) _
                have hsg9 : SG mdC 40 (World.setRow w7 (w.heap.size + 1 + 1) cf) (World.setRow w7 (w.heap.size + 1 + 1) cf).heap.size (.slice Ax n kx) ms := by
                  have hgr : w7.grownBy (World.setRow w7 (w.heap.size + 1 + 1) cf) (some (w.heap.size + 1 + 1)) := ⟨rfl, rfl, rfl, (below_setRow (Below.refl (w.heap.size + 1 + 1) w7) (Nat.le_refl _) cf).size, fun g _ hne => setRow_other _ _ _ _ (fun e => hne (by rw [e]))⟩
                  refine (HAg.out.o.grown hgr ?_).sg
                  rcases e : (Value.slice Ax n kx).ownBlock with _ | j
                  · exact .inl rfl
                  · refine .inr fun e2 => ?_
                    injection e2 with e2
                    have := (HAg.out.o.lt j e).1
                    omega
                refine bodyPost_ret (results_ct Tryz.results11 _ _ (w.heap.size + 1 + 1) 40 cf (0, 0) _ rfl (setRow_heap _ _ _ cf _ _ hRg) Tryz.underlying40 rfl (by rw [HCFp.out.1]; exact infoSt14)) rfl ?_
                exact ⟨_, by rw [HCF.out]; rfl, hsg9, hb9⟩
end Go.Proofs.YtchjknbideoieaaGreatDoor
namespace Go.Proofs.YtchjknbideoieaaGreatDoor
open Go.RowKit Go.Great Go.Proofs
def hasM (u : ByteArray) (x : Md) : Bool := !ltB x.1.mx.toList u.toList && !ltB u.toList x.1.mn.toList
section
variable {α : Type} {f : α → List Value} {c : Nat}
variable {ops : Array Oper} {rest : List Oper} {o : Oper} {a : Act} {Q : Exit → Act → World → Prop} {w : World}
set_option maxRecDepth 100000 in
theorem wl_appG (hgd : Region.wanted o (yielded ops a.tmps) = true) (ts t : TypeId) (z : Value) (by_ : Nat) (hinf : (Tryz.prog.info? t).map (fun i => (i.zero, i.size, i.bytes)) = some (some z, c, by_)) (hut : Tryz.prog.underlying ts = some (.slice t)) (hzs : z.cells.size = c) (hc0 : 0 < c) (s x : Operand)
    (ho : o.op = .call { callee := .builtin .append, args := #[s, x], argTypes := #[ts, ts] })
    (base : Nat) (v : Value) (l : List α) (hs : a.eval s = v) (hown : OG t f c w base v l)
    (B : Nat) (u : Value) (m : List α) (h1 : ∀ x ∈ m, ∀ u ∈ f x, u.oneCell' = true) (hx : a.eval x = u) (hr : SG f c w B u m) (hlen : l.length + m.length ≤ maxLen) (hby : (l.length + m.length) * by_ ≤ 140737488355328) (hbase : base ≤ w.heap.size)
    (h : ∀ v' w', OG t f c w' base v' (l ++ m) → w.grownBy w' v.ownBlock → (v'.ownBlock = v.ownBlock ∨ v'.ownBlock = some w.heap.size) → Below base w w' → wpList Tryz.prog ops Q rest (a.put o.dst v') w') : wpList Tryz.prog ops Q (o :: rest) a w :=
  wl_of hgd fun _K hK => wp_appG ts t z by_ hinf hut hzs hc0 s x ho base v l hs hown B u m h1 hx hr hlen hby hbase fun v' w' a b c d => hK _ _ (h v' w' a b c d)
set_option maxRecDepth 100000 in
theorem wl_buildG (hgd : Region.wanted o (yielded ops a.tmps) = true) (ts t : TypeId) (zl : Array Value) (by_ : Nat) (hinf : (Tryz.prog.info? t).map (fun i => (i.zero, i.size, i.bytes)) = some (some (.agg zl), c, by_)) (hut : Tryz.prog.underlying ts = some (.slice t)) (hc0 : 0 < c) (hc1 : c ≤ 1000) (hby : by_ ≤ 1000) (x : Operand) (ho : o.op = .buildSlice ts 1 #[(0, x)]) (cs : Array Value) (hx : a.eval x = .agg cs) (hc : cs.size = c)
    (h : wpList Tryz.prog ops Q rest (a.put o.dst (.slice (some ⟨w.heap.size, 0, none⟩) 1 1)) (w.alloc (.cells cs t))) : wpList Tryz.prog ops Q (o :: rest) a w :=
  wl_of hgd fun _K hK => wp_buildG ts t zl by_ hinf hut hc0 hc1 hby x ho cs hx hc (hK _ _ h)
end
set_option maxRecDepth 100000 in
set_option maxHeartbeats 4000000 in
theorem kOverlap_any (k : Nat) (hk : k < 5) (v : Value) (N : Nat) (ms : List Md) (user : ByteArray) (w : World) (hv : SG mdC 40 w w.heap.size v ms) (hlm : ms.length ≤ 1000) (cs : Array Value) (hcs : cs = (stC v N).toArray) :
    Calls Tryz.prog 32 #[.agg cs, .int .i64 (k : Int), .string user, .string user] w fun e w' => ∃ r, e = .returned r ∧ OG 55 mdC 40 w' w.heap.size r ((lvL ms k).filter (hasM user)) ∧ Below w.heap.size w w' := by
  have hsg := lv_sg hv k
  have hcell : (stC v N)[k]? = some (lvV v k) := stC_lv v N k hk
  obtain ⟨L, hL⟩ : ∃ L, L = lvL ms k := ⟨_, rfl⟩
  have hLl : L.length ≤ 1000 := by rw [hL]; unfold lvL; split; exact hlm; simp
  rw [← hL] at hsg ⊢
  obtain ⟨vk, hvk⟩ : ∃ vk, vk = lvV v k := ⟨_, rfl⟩
  rw [← hvk] at hsg hcell
  obtain ⟨Ak, ck, rfl, hck, _⟩ := hsg.form
  obtain ⟨n, hn⟩ : ∃ n, n = L.length := ⟨_, rfl⟩
  rw [← hn] at hsg hcell hck hLl
  have HC := Lib.hid hcs
  have HSG := Lib.hid hsg
  have HN := Lib.hid hn
  have HCell := Lib.hid hcell
  have hki0 : ¬ (k : Int) < 0 := by omega
  have hki5 : ¬ (5 : Int) ≤ (k : Int) := by omega
  have hki : (k : Int) < 5 := by omega
  clear hcs hsg hn hcell hvk hL hv hlm
  go_enter Tryz.func32, Tryz.ntmps32
  go_upto_region 1 with fail
  have rS := heap_alloc_new w (.cells cs 40)
  have bA := balloc (bself w) (.cells cs 40)
  generalize World.alloc _ _ = wA at rS bA ⊢
  rw [HC.out] at rS
  have ckk : wA.cell? ⟨w.heap.size, k, none⟩ = some (.slice Ak n ck) := (cell_of_row _ _ k _ _ _ rS).trans (by rw [List.getElem?_toArray]; exact HCell.out)
  clear rS
  go_wp2_with fail
  go_loopw [9, 23] (fun ov iv wi => ∃ (i : Nat) (A : Option Addr) (m c : Nat) (l : List Md), iv = .int .i64 (i : Int) ∧ ov = .slice A m c ∧ i ≤ n ∧ m ≤ i ∧ Hid (m = l.length ∧ l = (L.take i).filter (hasM user) ∧ OG 55 mdC 40 wi w.heap.size (.slice A m c) l) ∧ Below w.heap.size w wi) (fun _ iv _ => n - (intOf iv).toNat)
  case atStart => exact ⟨0, none, 0, 0, [], rfl, rfl, by omega, by omega, Lib.hid ⟨rfl, rfl, OG.nil_ _ _ _ _ _⟩, bA⟩
  case round =>
    obtain ⟨i, A, m, c, l, rfl, rfl, hi, hmi, HO, hbi⟩ := hrel
    by_cases hin : i < n
    · have hiL : i < L.length := by rw [← HN.out]; exact hin
      obtain ⟨b, o, kk, e, hb, hr⟩ := (HSG.out.below hbi).at_ mdC_length (by omega)
      injection e with e1 e2 e3
      subst e1; subst e3
      obtain ⟨Y, hY⟩ : ∃ Y : Md, Y = L[i] := ⟨_, rfl⟩
      have hrY := hr i hiL
      rw [← hY] at hrY
      obtain ⟨xc, hxc⟩ : ∃ xc, (mdC Y).toArray = xc := ⟨_, rfl⟩
      have HXP : Hid (xc.size = 40 ∧ ∀ v ∈ xc.toList, v.oneCell' = true) := Lib.hid (by rw [← hxc]; exact ⟨by simp [mdC_length], fun v hv => mdC_one Y v (by simpa using hv)⟩)
      have HXC := Lib.hid (And.intro hxc (And.intro hY e2))
      have hii : (i : Int) < (n : Int) := by omega
      clear hr hxc hY e2
      go_upto_region 7 with (first | (refine wpList_load_mid rfl 55 (.tmp 25) rfl b (o + i * 40) rfl (mdC Y) _ hrY Tryz.underlying55 rfl (by rw [mdC_length]; exact infoMd) ?_; rw [HXC.out.1]) | (refine wl_storeT 55 (n := 40) infoMd rfl (.tmp 11) (.tmp 26) rfl _ rfl _ xc rfl (heap_alloc_new _ _) (by rfl) HXP.out.1 HXP.out.2 ?_))
      simp only [Act.put]
      generalize hW1 : World.setRow _ _ _ = w1
      have hX1 : w1.heap[wr.heap.size]? = some (.cells xc 55 (0, 0)) := by rw [← hW1]; exact setRow_heap _ _ _ _ _ _ (heap_alloc_new _ _)
      have b1 : Below wr.heap.size wr w1 := by rw [← hW1]; exact below_setRow (balloc (bself wr) _) (Nat.le_refl _) _
      have z1 : wr.heap.size < w1.heap.size := (Array.getElem?_eq_some_iff.1 hX1).1
      obtain ⟨mn, hmn⟩ : ∃ mn, mn = Y.1.mn := ⟨_, rfl⟩
      obtain ⟨mx, hmx⟩ : ∃ mx, mx = Y.1.mx := ⟨_, rfl⟩
      have d6 : w1.cell? ⟨wr.heap.size, 6, none⟩ = some (.string mn) := (cell_of_row _ _ 6 _ _ _ hX1).trans (by rw [← HXC.out.1, hmn]; rfl)
      have d7 : w1.cell? ⟨wr.heap.size, 7, none⟩ = some (.string mx) := (cell_of_row _ _ 7 _ _ _ hX1).trans (by rw [← HXC.out.1, hmx]; rfl)
      have HM := Lib.hid (And.intro hmn hmx)
      have bw1 := bstep hbi b1
      have HPL : Hid (∀ q, hasM user Y = q → (L.take (i + 1)).filter (hasM user) = l ++ (if q then [Y] else [])) := Lib.hid (fun q hq => by
        rw [List.take_succ_eq_append_getElem hiL, List.filter_append, ← HO.out.2.1, ← HXC.out.2.1, List.filter_cons, hq]
        cases q <;> rfl)
      have hu : ∀ q, (!ltB mx.toList user.toList && !ltB user.toList mn.toList) = q → hasM user Y = q := fun q h => by unfold hasM; rw [← HM.out.1, ← HM.out.2]; exact h
      have HU := Lib.hid hu
      clear hW1 hrY hmn hmx hu
      cases h1 : ltB mx.toList user.toList with
      | true =>
        have HQ := Lib.hid (HPL.out false (HU.out false (by rw [h1]; rfl)))
        go_wp2_with fail
        go_roundw
        case rel => exact ⟨i + 1, A, m, c, l, by go_num, rfl, by omega, by omega, Lib.hid ⟨HO.out.1, by rw [HQ.out]; simp, HO.out.2.2.below b1 (Nat.le_refl _)⟩, bw1⟩
        case measure => simp [intOf]; omega
      | false =>
        cases h2 : ltB user.toList mn.toList with
        | true =>
          have HQ := Lib.hid (HPL.out false (HU.out false (by rw [h1, h2]; rfl)))
          have h3 := ltB_asymm _ _ h2
          have h4 : (mn.toList == user.toList) = false := by rw [beq_eq_false_iff_ne]; intro e; rw [e, ltB_irr] at h2; cases h2
          go_wp2_with fail
          go_roundw
          case rel => exact ⟨i + 1, A, m, c, l, by go_num, rfl, by omega, by omega, Lib.hid ⟨HO.out.1, by rw [HQ.out]; simp, HO.out.2.2.below b1 (Nat.le_refl _)⟩, bw1⟩
          case measure => simp [intOf]; omega
        | false =>
          have HQ := Lib.hid (HPL.out true (HU.out true (by rw [h1, h2]; rfl)))
          have hrow := hX1
          have HL := Lib.hid (show l.length ≤ 1000 by have := HO.out.1; omega)
          cases h3 : ltB mn.toList user.toList with
          | true =>
            go_upto_region 9 with (first | (refine wpList_load_row rfl 55 (.tmp 11) rfl _ rfl _ xc (0, 0) _ hrow Tryz.underlying55 rfl (by rw [HXP.out.1]; exact infoMd) ?_) | (refine wl_buildG rfl 30 55 _ 112 infoMdz Tryz.underlying30 (by omega) (by omega) (by omega) (.tmp 38) rfl xc rfl HXP.out.1 ?_) | (at_builtin; refine wl_appG rfl 30 55 _ 112 infoMdz Tryz.underlying30 rfl (by omega) (.tmp 37) (.tmp 39) rfl w.heap.size (.slice A m c) l rfl ((HO.out.2.2.below b1 (Nat.le_refl _)).alloc _) (w1.heap.size + 1) _ [Y] (fun x hx u hu => by rw [List.mem_singleton.1 hx] at hu; exact mdC_one Y u hu) rfl (by rw [← HXC.out.1]; exact SG.new1 w1 mdC 40 55 Y (mdC_length Y) rfl (Nat.lt_succ_self _)) (by have := HL.out; simp [maxLen]; omega) (by have := HL.out; simp; omega) (by have := bw1.size; rw [World.size_alloc]; omega) ?_; intro v4 w4 ho4 hg4 hf4 hb4; obtain ⟨g4, k4, rfl⟩ := ho4.form0 (by simp); obtain ⟨m4, hm4⟩ : ∃ m4, m4 = (l ++ [Y]).length := ⟨_, rfl⟩; rw [← hm4] at ho4 ⊢; have HM4 := Lib.hid hm4; clear hm4; have HO4 := Lib.hid ho4; have hb4' : Below w.heap.size w w4 := (balloc bw1 _).trans hb4; clear ho4 hg4 hf4 hb4))
            go_wp2_with fail
            go_roundw
            case rel => exact ⟨i + 1, _, m4, _, l ++ [Y], by go_num, rfl, by omega, by have h5 := HM4.out; have := HO.out.1; simp at h5; omega, Lib.hid ⟨HM4.out, by rw [HQ.out]; rfl, HO4.out⟩, hb4'⟩
            case measure => simp [intOf]; omega
          | false =>
            have h4 : (mn.toList == user.toList) = true := by rw [ltB_tri _ _ h3 h2]; simp
            go_upto_region 9 with (first | (refine wpList_load_row rfl 55 (.tmp 11) rfl _ rfl _ xc (0, 0) _ hrow Tryz.underlying55 rfl (by rw [HXP.out.1]; exact infoMd) ?_) | (refine wl_buildG rfl 30 55 _ 112 infoMdz Tryz.underlying30 (by omega) (by omega) (by omega) (.tmp 38) rfl xc rfl HXP.out.1 ?_) | (at_builtin; refine wl_appG rfl 30 55 _ 112 infoMdz Tryz.underlying30 rfl (by omega) (.tmp 37) (.tmp 39) rfl w.heap.size (.slice A m c) l rfl ((HO.out.2.2.below b1 (Nat.le_refl _)).alloc _) (w1.heap.size + 1) _ [Y] (fun x hx u hu => by rw [List.mem_singleton.1 hx] at hu; exact mdC_one Y u hu) rfl (by rw [← HXC.out.1]; exact SG.new1 w1 mdC 40 55 Y (mdC_length Y) rfl (Nat.lt_succ_self _)) (by have := HL.out; simp [maxLen]; omega) (by have := HL.out; simp; omega) (by have := bw1.size; rw [World.size_alloc]; omega) ?_; intro v4 w4 ho4 hg4 hf4 hb4; obtain ⟨g4, k4, rfl⟩ := ho4.form0 (by simp); obtain ⟨m4, hm4⟩ : ∃ m4, m4 = (l ++ [Y]).length := ⟨_, rfl⟩; rw [← hm4] at ho4 ⊢; have HM4 := Lib.hid hm4; clear hm4; have HO4 := Lib.hid ho4; have hb4' : Below w.heap.size w w4 := (balloc bw1 _).trans hb4; clear ho4 hg4 hf4 hb4))
            go_wp2_with fail
            go_roundw
            case rel => exact ⟨i + 1, _, m4, _, l ++ [Y], by go_num, rfl, by omega, by have h5 := HM4.out; have := HO.out.1; simp at h5; omega, Lib.hid ⟨HM4.out, by rw [HQ.out]; rfl, HO4.out⟩, hb4'⟩
            case measure => simp [intOf]; omega
    · have hii : ¬ (i : Int) < (n : Int) := by omega
      go_wp2_with fail
      go_ret
      obtain ⟨_, q2, q3⟩ := HO.out
      refine ⟨_, rfl, ?_, hbi⟩
      rw [q2, show i = L.length by have := HN.out; omega, List.take_length] at q3
      exact q3
set_option maxRecDepth 100000 in
set_option maxHeartbeats 4000000 in
theorem kLookup_any (v : Value) (N : Nat) (ms : List Md) (user : ByteArray) (w : World) (hv : SG mdC 40 w w.heap.size v ms) (hlm : ms.length ≤ 1000) (cs : Array Value) (hcs : cs = (stC v N).toArray) :
    Calls Tryz.prog 12 #[.agg cs, .string user] w fun e w' => ∃ r, e = .returned r ∧ OG 55 mdC 40 w' w.heap.size r (ms.filter (hasM user)) ∧ Below w.heap.size w w' := by
  have HOv : Hid (∀ k : Nat, k < 5 → ∀ W, Below w.heap.size w W → Calls Tryz.prog 32 #[.agg cs, .int .i64 (k : Int), .string user, .string user] W fun e w' => ∃ r, e = .returned r ∧ OG 55 mdC 40 w' W.heap.size r ((lvL ms k).filter (hasM user)) ∧ Below W.heap.size W w') := Lib.hid (fun k hk W hW => kOverlap_any k hk v N ms user W (hv.on hW) hlm cs hcs)
  have HCS : Hid (cs.size = 14) := Lib.hid (by rw [hcs]; rfl)
  have HLM := Lib.hid hlm
  clear hv hcs hlm
  go_enter Tryz.func12, Tryz.ntmps12
  go_upto_region 1 with fail
  have rS := heap_alloc_new w (.cells cs 40)
  have bA := balloc (bself w) (.cells cs 40)
  generalize World.alloc _ _ = wA at rS bA ⊢
  go_wp2_with fail
  go_loopw [5, 7] (fun ov kv wi => ∃ (k : Nat) (A : Option Addr) (m c : Nat) (l : List Md), kv = .int .i64 (k : Int) ∧ ov = .slice A m c ∧ k ≤ 5 ∧ m ≤ 1000 ∧ Hid (m = l.length ∧ l = (dnL ms k).filter (hasM user) ∧ OG 55 mdC 40 wi (w.heap.size + 1) (.slice A m c) l) ∧ Below w.heap.size w wi ∧ Hid (wi.heap[w.heap.size]? = some (.cells cs 40 (0, 0)))) (fun _ kv _ => 5 - (intOf kv).toNat)
  case atStart => exact ⟨0, none, 0, 0, [], rfl, rfl, by omega, by omega, Lib.hid ⟨rfl, rfl, OG.nil_ _ _ _ _ _⟩, bA, Lib.hid rS⟩
  case round =>
    obtain ⟨k, A, m, c, l, rfl, rfl, hk, hm, HO, hbk, HRS⟩ := hrel
    by_cases hlt : k < 5
    · have hki : (k : Int) < 5 := by omega
      have hrS := HRS.out
      have HO1 := Lib.hid (HOv.out k hlt wr hbk)
      have HNo : Hid (some w.heap.size ≠ (Value.slice A m c).ownBlock) := Lib.hid (fun e => by have := (HO.out.2.2.lt _ e.symm).1; omega)
      have hsl := (Array.getElem?_eq_some_iff.1 HRS.out).1
      have HD : Hid ((dnL ms (k + 1)).filter (hasM user) = l ++ (lvL ms k).filter (hasM user) ∧ ((lvL ms k).filter (hasM user)).length ≤ 1000) := Lib.hid (by
        refine ⟨by rw [dnL_step, List.filter_append, ← HO.out.2.1], ?_⟩
        have h1 := List.length_filter_le (hasM user) (lvL ms k)
        have h2 : (lvL ms k).length ≤ ms.length := by unfold lvL; split; omega; simp
        have := HLM.out
        omega)
      have hDl : ((dnL ms (k + 1)).filter (hasM user)).length ≤ 1000 := by
        have h1 := List.length_filter_le (hasM user) (dnL ms (k + 1))
        have h2 : (dnL ms (k + 1)).length ≤ ms.length := by unfold dnL; split; simp; omega
        have := HLM.out
        omega
      have HDl := Lib.hid hDl
      clear hDl
      go_wp2_with (first | (refine wpList_load_row rfl 40 (.tmp 2) rfl _ rfl _ cs (0, 0) _ hrS Tryz.underlying40 rfl (by rw [HCS.out]; exact infoSt14) ?_) | (go_at_call 32; refine HO1.out.mono ?_; rintro _ w2 ⟨r2, rfl, ho2, hb2⟩) | (at_builtin; refine wl_appG rfl 30 55 _ 112 infoMdz Tryz.underlying30 rfl (by omega) (.tmp 10) (.tmp 15) rfl (w.heap.size + 1) (.slice A m c) l rfl (HO.out.2.2.below hb2 (Nat.le_refl _)) w2.heap.size _ ((lvL ms k).filter (hasM user)) (fun x _ u hu => mdC_one x u hu) rfl ho2.sg (by have := HO.out.1; have := HD.out.2; simp [maxLen]; omega) (by have := HO.out.1; have := HD.out.2; omega) (by have := hb2.size; omega) ?_; intro v4 w4 ho4 hg4 hf4 hb4; obtain ⟨A4, k4, rfl, _, _⟩ := ho4.sg.form; obtain ⟨m4, hm4⟩ : ∃ m4, m4 = (l ++ (lvL ms k).filter (hasM user)).length := ⟨_, rfl⟩; rw [← hm4] at ho4 ⊢; have HM4 := Lib.hid hm4; clear hm4; have HO4 := Lib.hid ho4; have hb4' : Below w.heap.size w w4 := (bstep hbk hb2).trans (hb4.mono (by omega)); have HRS4 : Hid (w4.heap[w.heap.size]? = some (.cells cs 40 (0, 0))) := Lib.hid ((hg4.block _ (by have := hb2.size; omega) HNo.out).trans ((hb2.block _ hsl).trans HRS.out)); clear ho4 hg4 hf4 hb4))
      go_roundw
      case rel => exact ⟨k + 1, A4, m4, k4, _, by go_num, rfl, by omega, by have h5 := HM4.out; rw [← HD.out.1] at h5; have := HDl.out; omega, Lib.hid ⟨HM4.out, HD.out.1.symm, HO4.out⟩, hb4', HRS4⟩
      case measure => simp [intOf]; omega
    · have hki : ¬ (k : Int) < 5 := by omega
      go_wp2_with fail
      go_ret
      obtain ⟨_, q2, q3⟩ := HO.out
      refine ⟨_, rfl, ?_, hbk⟩
      rw [q2, show k = 5 by omega] at q3
      exact q3.rebase (by omega)
end Go.Proofs.YtchjknbideoieaaGreatDoor
