/-
  What is proved here: what take of package block comes to, at this seat's numbers. Conditions: the texts' lengths.
-/
import Derived.Test.YtoccmedadiangaaBlockW7
import Derived.Test.YtoccmedadiangaaIkeyW3
import Derived.Deep.DeepCutAuto
namespace Go.Proofs.Ytoccmedadiangaa
open Go.RowKit

theorem sNum_len (s : Rs) : (sNum s).2.1.length ≤ s.1.length := by
  unfold sNum
  split
  · simp
  · exact Nat.le_refl _
theorem below_g {w w' : World} (b : Below w.heap.size w w') (R : Nat) : w.grownBy w' (some R) := ⟨b.os, b.tape, b.output, b.size, fun x hx _ => b.block x hx⟩
theorem RdrAt.set {w : World} {R : Nat} {rest : List UInt8} {bad : Nat} (h : RdrAt w R rest bad) {M k : Nat} (hp : R < M) (u : Value) : RdrAt (w.setCell ⟨M, k, none⟩ u) R rest bad :=
  h.far (grown_set (p := ⟨M, k, none⟩) w rfl u) (fun g e => by have e2 : M = g := (by injection e); omega)
theorem iTake_any (s : ByteArray) (w : World) (hm : s.size ≤ 140737488355328) :
    Calls Try.prog 49 #[.string s] w fun en w' => en = .returned (takeV s.data.toList) ∧ Below w.heap.size w w' := by
  by_cases h : s.size < 8
  · exact iTake_short s w h
  · exact iTake_long s w (by omega) hm
theorem key_of (last : ByteArray) (t : List UInt8) (n : Nat) : (last.extract 0 n ++ (⟨t.toArray⟩ : ByteArray)).data.toList = last.data.toList.take n ++ t := by
  simp [Lib.extract_data]
/-- an entry with another value -/
def withV (e : Ent) (l : List UInt8) : Ent := ⟨e.user, e.seq, e.kind, ⟨l.toArray⟩⟩
theorem takeB1_of {s last : List UInt8} {n1 n2 n3 b1 b2 b3 : Nat} {s1 s2 s3 : List UInt8} (e1 : sNum (s, 0) = (n1, s1, b1)) (e2 : sNum (s1, b1) = (n2, s2, b2)) (e3 : sNum (s2, b2) = (n3, s3, b3)) :
    takeB1 (s, 0) last = if b3 ≠ 0 ∨ last.length < n1 ∨ s3.length < n2 ∨ s3.length - n2 < n3 then none
      else if isKey (last.take n1 ++ s3.take n2) then some (withV (takeE (last.take n1 ++ s3.take n2)) ((s3.drop n2).take n3), last.take n1 ++ s3.take n2, s3.drop (n2 + n3)) else none := by
  unfold takeB1
  simp only [e1, e2, e3]
  rfl
set_option maxRecDepth 100000 in
set_option maxHeartbeats 1000000 in
theorem kTake_any (R : Nat) (s : List UInt8) (last : ByteArray) (w : World) (h : RdrAt w R s 0) (hs : s.length ≤ 1099511627776) (hl : last.size ≤ 1099511627776) :
    Calls Try.prog 33 #[.pointer (some ⟨R, 0, none⟩), .string last] w fun en w' => ∃ e kv ok r, en = .returned (.tuple #[entV e, .string kv, .bool ok]) ∧ w.grownBy w' (some R) ∧
      Hid (takeB1 (s, 0) last.data.toList = (if ok = true then some (e, kv.data.toList, r) else none) ∧ (ok = true → RdrAt w' R r 0)) := by
  have hRlt := h.lt
  obtain ⟨n1, s1, b1, e1⟩ : ∃ n1 s1 b1, sNum (s, 0) = (n1, s1, b1) := ⟨_, _, _, rfl⟩
  obtain ⟨n2, s2, b2, e2⟩ : ∃ n2 s2 b2, sNum (s1, b1) = (n2, s2, b2) := ⟨_, _, _, rfl⟩
  obtain ⟨n3, s3, b3, e3⟩ : ∃ n3 s3 b3, sNum (s2, b2) = (n3, s3, b3) := ⟨_, _, _, rfl⟩
  have hT := takeB1_of (last := last.data.toList) e1 e2 e3
  have l1 := sNum_len (s, 0)
  have l2 := sNum_len (s1, b1)
  have l3 := sNum_len (s2, b2)
  have m1 := sNum_lt (s, 0)
  have m2 := sNum_lt (s1, b1)
  have m3 := sNum_lt (s2, b2)
  rw [e1] at l1 m1
  rw [e2] at l2 m2
  rw [e3] at l3 m3
  dsimp only at l1 l2 l3 m1 m2 m3
  have hs3 : s3.length ≤ 1099511627776 := by omega
  rw [toList_size] at hT
  have HT := Lib.hid hT
  have C1 := Lib.hid (fun W (hr : RdrAt W R s 0) => mNum_any R s 0 W hr)
  have C2 := Lib.hid (fun W (hr : RdrAt W R s1 b1) => mNum_any R s1 b1 W hr)
  have C3 := Lib.hid (fun W (hr : RdrAt W R s2 b2) => mNum_any R s2 b2 W hr)
  rw [e1] at C1
  rw [e2] at C2
  rw [e3] at C3
  clear l1 l2 l3 e1 e2 e3 hT
  go_enter Try.func33, Try.ntmps33
  go_wp2_with fail
  have h0 := h.on (balloc (bself w) (.cells #[.string .empty, .int .u64 0, .int .u8 0, .string .empty] 40)) (Nat.le_refl _)
  refine (C1.out _ h0).mono ?_
  rintro _ w1 ⟨rfl, hr1, hg1⟩
  try dsimp only at hr1
  go_wp2_with fail
  refine (C2.out _ hr1).mono ?_
  rintro _ w2 ⟨rfl, hr2, hg2⟩
  try dsimp only at hr2
  go_wp2_with fail
  refine (C3.out _ hr2).mono ?_
  rintro _ w3 ⟨rfl, hr3, hg3⟩
  try dsimp only at hr3
  have hz3 : w3.heap[w.heap.size]? = some (.cells #[.string ⟨#[]⟩, .int .u64 0, .int .u8 0, .string ⟨#[]⟩] 40 (0, 0)) :=
    (((hg1.trans hg2).trans hg3).block _ (by simp) (fun e => by injection e with e; omega)).trans (heap_alloc_new w _)
  have g3 : w.grownBy w3 (some R) := (below_g (balloc (bself w) _) R).trans ((hg1.trans hg2).trans hg3)
  have gw : IntKind.u64.wrap (s3.length : Int) = (s3.length : Int) := by rw [IntKind.wrap_u64]; omega
  have gl : IntKind.u64.wrap (last.size : Int) = (last.size : Int) := by rw [IntKind.wrap_u64]; omega
  clear C1 C2 C3 hg1 hg2 hg3 hr1 hr2 h0 h
  go_upto_region 3 with (go_at_call 47; refine (mLeft_any R s3 b3 _ hr3).mono ?_; rintro _ w3 ⟨rfl, rfl⟩)
  have HF := Lib.hid (mFault_any R s3 b3 w3 hr3)
  obtain ⟨⟨x0, x1, x2, x3⟩, y0, y1, y2, y3⟩ := cells4 hz3
  by_cases hb : b3 = 0
  case neg =>
    have hb' : (((b3 : Int)) == 0) = false := by rw [beq_eq_false_iff_ne]; omega
    go_wp2_with (go_at_call 32; refine HF.out.mono ?_; rintro _ w3 ⟨rfl, rfl⟩)
    exact bodyPost_ret (v := .tuple #[.agg #[.string .empty, .int .u64 0, .int .u8 0, .string .empty], .string .empty, .bool false]) (by simp [results, Try.results33, go_sem, x0, x1, x2, x3] <;> rfl) rfl ⟨⟨.empty, 0, 0, .empty⟩, .empty, false, [], rfl, grown_beside (grown_beside (grown_beside (grown_beside g3 (Nat.le_refl _)) (Nat.le_refl _)) (Nat.le_refl _)) (Nat.le_refl _), Lib.hid ⟨by rw [HT.out, if_pos (.inl hb)]; rfl, fun h => by cases h⟩⟩
  subst hb
  by_cases k1 : last.size < n1
  · have k1' : decide ((last.size : Int) < (n1 : Int)) = true := by simp; omega
    go_wp2_with (go_at_call 32; refine HF.out.mono ?_; rintro _ w3 ⟨rfl, rfl⟩)
    exact bodyPost_ret (v := .tuple #[.agg #[.string .empty, .int .u64 0, .int .u8 0, .string .empty], .string .empty, .bool false]) (by simp [results, Try.results33, go_sem, x0, x1, x2, x3] <;> rfl) rfl ⟨⟨.empty, 0, 0, .empty⟩, .empty, false, [], rfl, grown_beside (grown_beside (grown_beside (grown_beside g3 (Nat.le_refl _)) (Nat.le_refl _)) (Nat.le_refl _)) (Nat.le_refl _), Lib.hid ⟨by rw [HT.out, if_pos (.inr (.inl k1))]; rfl, fun h => by cases h⟩⟩
  have k1' : decide ((last.size : Int) < (n1 : Int)) = false := by simp; omega
  by_cases k2 : s3.length < n2
  · have k2' : decide ((s3.length : Int) < (n2 : Int)) = true := by simp; omega
    go_wp2_with (go_at_call 32; refine HF.out.mono ?_; rintro _ w3 ⟨rfl, rfl⟩)
    exact bodyPost_ret (v := .tuple #[.agg #[.string .empty, .int .u64 0, .int .u8 0, .string .empty], .string .empty, .bool false]) (by simp [results, Try.results33, go_sem, x0, x1, x2, x3] <;> rfl) rfl ⟨⟨.empty, 0, 0, .empty⟩, .empty, false, [], rfl, grown_beside (grown_beside (grown_beside (grown_beside g3 (Nat.le_refl _)) (Nat.le_refl _)) (Nat.le_refl _)) (Nat.le_refl _), Lib.hid ⟨by rw [HT.out, if_pos (.inr (.inr (.inl k2)))]; rfl, fun h => by cases h⟩⟩
  have k2' : decide ((s3.length : Int) < (n2 : Int)) = false := by simp; omega
  have gs : IntKind.u64.wrap ((s3.length : Int) - (n2 : Int)) = (s3.length : Int) - (n2 : Int) := by rw [IntKind.wrap_u64]; omega
  by_cases k3 : s3.length - n2 < n3
  · have k3' : decide ((s3.length : Int) - (n2 : Int) < (n3 : Int)) = true := by simp; omega
    go_wp2_with (go_at_call 32; refine HF.out.mono ?_; rintro _ w3 ⟨rfl, rfl⟩)
    exact bodyPost_ret (v := .tuple #[.agg #[.string .empty, .int .u64 0, .int .u8 0, .string .empty], .string .empty, .bool false]) (by simp [results, Try.results33, go_sem, x0, x1, x2, x3] <;> rfl) rfl ⟨⟨.empty, 0, 0, .empty⟩, .empty, false, [], rfl, grown_beside (grown_beside (grown_beside (grown_beside g3 (Nat.le_refl _)) (Nat.le_refl _)) (Nat.le_refl _)) (Nat.le_refl _), Lib.hid ⟨by rw [HT.out, if_pos (.inr (.inr (.inr k3)))]; rfl, fun h => by cases h⟩⟩
  have k3' : decide ((s3.length : Int) - (n2 : Int) < (n3 : Int)) = false := by simp; omega
  go_upto_region 5 with (go_at_call 32; refine HF.out.mono ?_; rintro _ w3 ⟨rfl, rfl⟩)
  clear k1' k2' k3' gs gl gw HF x0 x1 x2 x3 y0 y1 y2 y3
  have HTe : Hid (takeB1 (s, 0) last.data.toList = if isKey (last.data.toList.take n1 ++ s3.take n2) then some (withV (takeE (last.data.toList.take n1 ++ s3.take n2)) ((s3.drop n2).take n3), last.data.toList.take n1 ++ s3.take n2, s3.drop (n2 + n3)) else none) := Lib.hid (by rw [HT.out, if_neg (by omega)])
  have hko := key_of last (s3.take n2) n1
  obtain ⟨kb, hkb⟩ : ∃ kb, kb = last.extract 0 n1 ++ (⟨(s3.take n2).toArray⟩ : ByteArray) := ⟨_, rfl⟩
  have q1 := hkb.symm
  rw [q1] at hko
  rw [← hko] at HTe
  have hks : kb.size ≤ 140737488355328 := by
    rw [← toList_size, hko, List.length_append, List.length_take, List.length_take, toList_size]
    omega
  have HKO := Lib.hid hko
  clear hkb hko HT
  have kn1 : (n1 : Int) ≤ (last.size : Int) := by omega
  have kn2 : min n2 s3.length = n2 := by omega
  have f1 : ¬ 9223372036854775807 < min n1 last.size + n2 := by omega
  have HX := Lib.hid (kText_any R s3 n2 w3.drew (hr3.drewN 1) (by omega) (by omega))
  refine wp_region_noPanic ?_
  refine wp_region_held_drew (S := fun _ => True) (by kernel_rfl) trivial (fun hHeld => ?_)
  refine reg_take 0 (v := ?_) (by rfl) (by kernel_rfl) (by kernel_rfl) (by kernel_rfl) (fun _ _ _ h => h) (by rfl) ?_ (by assumption) ?_
  rotate_left
  · (intro wq hSq; (try dsimp only at hSq); go_split_ands; go_simp; (try with_reducible rfl))
  try simp only [Act.put, List.setIfInBounds_toArray, List.set_cons_zero, List.set_cons_succ]
  refine reg_take 1 (v := ?_) (by rfl) (by kernel_rfl) (by kernel_rfl) (by kernel_rfl) (fun _ _ _ h => h) (by rfl) ?_ (by assumption) ?_
  rotate_left
  · (intro wq hSq; (try dsimp only at hSq); go_split_ands; go_simp; (try with_reducible rfl))
  try simp only [Act.put, List.setIfInBounds_toArray, List.set_cons_zero, List.set_cons_succ]
  refine reg_take 2 (v := ?_) (by rfl) (by kernel_rfl) (by kernel_rfl) (by kernel_rfl) (fun _ _ _ h => h) (by rfl) ?_ (by assumption) ?_
  rotate_left
  · (intro wq hSq; (try dsimp only at hSq); go_split_ands; go_simp; (try with_reducible rfl))
  try simp only [Act.put, List.setIfInBounds_toArray, List.set_cons_zero, List.set_cons_succ]
  refine reg_take 3 (v := ?_) (by rfl) (by kernel_rfl) (by kernel_rfl) (by kernel_rfl) (fun _ _ _ h => h) (by rfl) ?_ (by assumption) ?_
  rotate_left
  · (intro wq hSq; (try dsimp only at hSq); go_split_ands; go_simp; (try with_reducible rfl))
  try simp only [Act.put, List.setIfInBounds_toArray, List.set_cons_zero, List.set_cons_succ]
  refine reg_take 4 (v := ?_) (by rfl) (by kernel_rfl) (by kernel_rfl) (by kernel_rfl) (fun _ _ _ h => h) (by rfl) ?_ (by assumption) ?_
  rotate_left
  · (intro wq hSq; (try dsimp only at hSq); go_split_ands; go_simp; (try with_reducible rfl))
  try simp only [Act.put, List.setIfInBounds_toArray, List.set_cons_zero, List.set_cons_succ]
  refine reg_one 5 (by rfl) (by kernel_rfl) (by rfl) (fun K hK => ?_)
  (go_simp; go_at_call 48; refine HX.out.mono ?_; rintro _ w4 ⟨rfl, hr4, hg4⟩; go_wp2_with fail)
  refine hK.out _ _ ?_ (fun hHeld => ?_)
  · exact trivial
  clear hK K
  try simp only [Act.put, List.setIfInBounds_toArray, List.set_cons_zero, List.set_cons_succ]
  refine reg_take 6 (v := ?_) (by rfl) (by kernel_rfl) (by kernel_rfl) (by kernel_rfl) (fun _ _ _ h => h) (by rfl) ?_ (by assumption) ?_
  rotate_left
  · (intro wq hSq; (try dsimp only at hSq); go_split_ands; go_simp; (try with_reducible rfl))
  try simp only [Act.put, List.setIfInBounds_toArray, List.set_cons_zero, List.set_cons_succ]
  refine reg_take 7 (v := ?_) (by rfl) (by kernel_rfl) (by kernel_rfl) (by kernel_rfl) (fun _ _ _ h => h) (by rfl) ?_ (by assumption) ?_
  rotate_left
  · (intro wq hSq; (try dsimp only at hSq); go_split_ands; go_simp; (try with_reducible rfl))
  try simp only [Act.put, List.setIfInBounds_toArray, List.set_cons_zero, List.set_cons_succ]
  refine wpAnyH_done (by kernel_rfl) (noPanic_mk ?_) _
  have hgd : w3.grownBy w4 (some R) := ⟨hg4.os, hg4.tape, hg4.output, hg4.size, hg4.block⟩
  have hzlt : w.heap.size < w3.heap.size := (Array.getElem?_eq_some_iff.1 hz3).1
  have hz4 := (hgd.block _ hzlt (fun e => by injection e with e; omega)).trans hz3
  have g4 := g3.trans hgd
  clear hHeld HX q1 HKO hg4 hgd hz3 hzlt hr3 g3 f1 kn2 kn1
  have HI := Lib.hid (iTake_any kb w4 hks)
  have hrl : (s3.drop n2).length = s3.length - n2 := List.length_drop
  have hn3 : n3 ≤ (s3.drop n2).length := by omega
  have hd2 : s3.drop (n2 + n3) = (s3.drop n2).drop n3 := by rw [List.drop_drop]
  rw [hd2] at HTe
  obtain ⟨t, ht⟩ : ∃ t, t = s3.drop n2 := ⟨_, rfl⟩
  rw [← ht] at hr4 HTe hn3
  have htl : t.length ≤ 140737488355328 := by rw [ht]; omega
  clear ht hrl hd2 hs3 k2 k3
  cases hik : isKey kb.data.toList with
  | true =>
    have htv : takeV kb.data.toList = .tuple #[entV (takeE kb.data.toList), .int .i64 0] := by unfold takeV; rw [if_pos hik]
    rw [htv] at HI
    rw [hik, if_pos rfl] at HTe
    obtain ⟨q, hq⟩ : ∃ q, q = takeE kb.data.toList := ⟨_, rfl⟩
    rw [← hq] at HI HTe
    clear hq htv hik
    go_wp2_with fail
    refine HI.out.mono ?_
    rintro _ w5 ⟨rfl, hb5⟩
    have hz4l : w.heap.size < w4.heap.size := (Array.getElem?_eq_some_iff.1 hz4).1
    have hz5 := (hb5.block _ hz4l).trans hz4
    have hr5 := (hr4.on hb5 (Nat.le_refl _)).on (balloc (bself w5) (.cells #[.string q.user, .int .u64 (q.seq.toNat : Int), .int .u8 (q.kind.toNat : Int), .string q.value] 40)) (Nat.le_refl _)
    have hz5b := (hr5.lt)
    have HX := Lib.hid (kText_any R t n3 _ hr5 hn3 htl)
    have hz5l := hb5.size
    have hq5 := heap_alloc_new w5 (.cells #[.string q.user, .int .u64 (q.seq.toNat : Int), .int .u8 (q.kind.toNat : Int), .string q.value] 40)
    have hz5' : (w5.alloc (.cells #[.string q.user, .int .u64 (q.seq.toNat : Int), .int .u8 (q.kind.toNat : Int), .string q.value] 40)).heap[w.heap.size]? = some (.cells #[.string ⟨#[]⟩, .int .u64 0, .int .u8 0, .string ⟨#[]⟩] 40 (0, 0)) := ((balloc (bself w5) _).block _ (by omega)).trans hz5
    have g5 := (g4.trans (below_g hb5 R)).trans (below_g (balloc (bself w5) (.cells #[.string q.user, .int .u64 (q.seq.toNat : Int), .int .u8 (q.kind.toNat : Int), .string q.value] 40)) R)
    have hRl5 : R < w5.heap.size := Nat.lt_of_lt_of_le hr4.lt hz5l
    clear HI hr4 hr5 hz4 hz5 hb5 hn3 htl hz5b g4
    go_wp2_with fail
    refine HX.out.mono ?_
    rintro _ w6 ⟨rfl, hr6, hg6⟩
    have hz6 := (hg6.block _ (by simp; omega) (fun e => by injection e with e; omega)).trans hz5'
    have hq6 := (hg6.block _ (by simp) (fun e => by injection e with e; omega)).trans hq5
    have g6 := g5.trans hg6
    clear HX hz5' hq5 g5 hg6
    obtain ⟨⟨x0, x1, x2, x3⟩, y0, y1, y2, y3⟩ := cells4 hz6
    obtain ⟨⟨z0, z1, z2, z3⟩, v0, v1, v2, v3⟩ := cells4 hq6
    have hrl := ((((hr6.set hRl5 (k := 3) (.string ⟨(t.take n3).toArray⟩)).set hRlt (k := 0) (.string q.user)).set hRlt (k := 1) (.int .u64 (q.seq.toNat : Int))).set hRlt (k := 2) (.int .u8 (q.kind.toNat : Int))).set hRlt (k := 3) (.string ⟨(t.take n3).toArray⟩)
    go_wp2_with fail
    exact bodyPost_ret (v := .tuple #[.agg #[.string q.user, .int .u64 (q.seq.toNat : Int), .int .u8 (q.kind.toNat : Int), .string ⟨(t.take n3).toArray⟩], .string kb, .bool true]) (by simp [results, Try.results33, go_sem, x0, x1, x2, x3] <;> rfl) rfl ⟨withV q (t.take n3), kb, true, t.drop n3, rfl, grown_beside (grown_beside (grown_beside (grown_beside (grown_beside g6 (by omega)) (Nat.le_refl _)) (Nat.le_refl _)) (Nat.le_refl _)) (Nat.le_refl _), Lib.hid ⟨HTe.out, (fun _ => hrl)⟩⟩
  | false =>
    have htv : takeV kb.data.toList = .tuple #[.agg #[.string .empty, .int .u64 0, .int .u8 0, .string .empty], .int .i64 80] := by unfold takeV; rw [hik]; rfl
    rw [htv] at HI
    rw [hik, if_neg (by decide)] at HTe
    clear htv hik
    go_wp2_with fail
    refine HI.out.mono ?_
    rintro _ w5 ⟨rfl, hb5⟩
    have hz4l : w.heap.size < w4.heap.size := (Array.getElem?_eq_some_iff.1 hz4).1
    have hz5 := (hb5.block _ hz4l).trans hz4
    have hr5 := (hr4.on hb5 (Nat.le_refl _)).on (balloc (bself w5) (.cells #[.string (⟨#[]⟩ : ByteArray), .int .u64 0, .int .u8 0, .string (⟨#[]⟩ : ByteArray)] 40)) (Nat.le_refl _)
    have hz5b := (hr5.lt)
    have HX := Lib.hid (kText_any R t n3 _ hr5 hn3 htl)
    have hz5l := hb5.size
    have hq5 := heap_alloc_new w5 (.cells #[.string (⟨#[]⟩ : ByteArray), .int .u64 0, .int .u8 0, .string (⟨#[]⟩ : ByteArray)] 40)
    have hz5' : (w5.alloc (.cells #[.string (⟨#[]⟩ : ByteArray), .int .u64 0, .int .u8 0, .string (⟨#[]⟩ : ByteArray)] 40)).heap[w.heap.size]? = some (.cells #[.string ⟨#[]⟩, .int .u64 0, .int .u8 0, .string ⟨#[]⟩] 40 (0, 0)) := ((balloc (bself w5) _).block _ (by omega)).trans hz5
    have g5 := (g4.trans (below_g hb5 R)).trans (below_g (balloc (bself w5) (.cells #[.string (⟨#[]⟩ : ByteArray), .int .u64 0, .int .u8 0, .string (⟨#[]⟩ : ByteArray)] 40)) R)
    have hRl5 : R < w5.heap.size := Nat.lt_of_lt_of_le hr4.lt hz5l
    clear HI hr4 hr5 hz4 hz5 hb5 hn3 htl hz5b g4
    go_wp2_with fail
    refine HX.out.mono ?_
    rintro _ w6 ⟨rfl, hr6, hg6⟩
    have hz6 := (hg6.block _ (by simp; omega) (fun e => by injection e with e; omega)).trans hz5'
    have hq6 := (hg6.block _ (by simp) (fun e => by injection e with e; omega)).trans hq5
    have g6 := g5.trans hg6
    clear HX hz5' hq5 g5 hg6
    obtain ⟨⟨x0, x1, x2, x3⟩, y0, y1, y2, y3⟩ := cells4 hz6
    obtain ⟨⟨z0, z1, z2, z3⟩, v0, v1, v2, v3⟩ := cells4 hq6
    have hrl := ((((hr6.set hRl5 (k := 3) (.string ⟨(t.take n3).toArray⟩)).set hRlt (k := 0) (.string (⟨#[]⟩ : ByteArray))).set hRlt (k := 1) (.int .u64 0)).set hRlt (k := 2) (.int .u8 0)).set hRlt (k := 3) (.string ⟨(t.take n3).toArray⟩)
    go_wp2_with fail
    exact bodyPost_ret (v := .tuple #[.agg #[.string (⟨#[]⟩ : ByteArray), .int .u64 0, .int .u8 0, .string ⟨(t.take n3).toArray⟩], .string kb, .bool false]) (by simp [results, Try.results33, go_sem, x0, x1, x2, x3] <;> rfl) rfl ⟨withV ⟨⟨#[]⟩, 0, 0, ⟨#[]⟩⟩ (t.take n3), kb, false, [], rfl, grown_beside (grown_beside (grown_beside (grown_beside (grown_beside g6 (by omega)) (Nat.le_refl _)) (Nat.le_refl _)) (Nat.le_refl _)) (Nat.le_refl _), Lib.hid ⟨HTe.out, (fun h => by cases h)⟩⟩
end Go.Proofs.Ytoccmedadiangaa
