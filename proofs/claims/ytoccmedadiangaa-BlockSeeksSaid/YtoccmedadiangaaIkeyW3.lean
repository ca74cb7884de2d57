/-
  What is proved here: what Lay and Take of ikey and of the reference come to, at this seat's numbers. Conditions: the texts' lengths.
-/
import Derived.Test.YtoccmedadiangaaIkeyW
import Derived.Test.YtoccmedadiangaaIkeyLaw
import Derived.Test.YtoccmedadiangaaRegion
import Derived.BigQuiet
import Derived.Test.YtoccmedadiangaaCodecW
import Derived.Test.YtoccmedadiangaaRefCodecW
import Derived.Test.YtoccmedadiangaaRefReaderW2
import Derived.Lib.IndexBytes
namespace Go.Proofs.Ytoccmedadiangaa
open Go.RowKit

theorem ret_str {a b : ByteArray} (h : a = b) : Ending.returned (.string a) = Ending.returned (.string b) := by rw [h]
theorem cells4 {w : World} {R : Nat} {a b c d : Value} {T : TypeId} (h : w.heap[R]? = some (.cells #[a, b, c, d] T (0, 0))) :
    (w.cell? ⟨R, 0, none⟩ = some a ∧ w.cell? ⟨R, 1, none⟩ = some b ∧ w.cell? ⟨R, 2, none⟩ = some c ∧ w.cell? ⟨R, 3, none⟩ = some d) ∧ w.frozen? ⟨R, 0, none⟩ = false ∧ w.frozen? ⟨R, 1, none⟩ = false ∧ w.frozen? ⟨R, 2, none⟩ = false ∧ w.frozen? ⟨R, 3, none⟩ = false := by
  refine ⟨⟨cell_of_row w R 0 _ _ _ h, cell_of_row w R 1 _ _ _ h, cell_of_row w R 2 _ _ _ h, cell_of_row w R 3 _ _ _ h⟩, ?_, ?_, ?_, ?_⟩ <;> simp [World.frozen?, h]
theorem seqKind (s : UInt64) (k : UInt8) : IntKind.u64.wrap (IntKind.u64.wrap ((s.toNat : Int) * 256) + (k.toNat : Int)) = (((s.toNat * 256 + k.toNat) % 18446744073709551616 : Nat) : Int) := by
  rw [IntKind.wrap_u64, IntKind.wrap_u64]; omega
set_option maxHeartbeats 1000000 in
theorem iLay_any (e : Ent) (w : World) (hu : e.user.size ≤ 140737488351232) :
    Calls Try.prog 41 #[entV e] w fun en w' => en = .returned (.string ⟨(layE e).toArray⟩) ∧ Below w.heap.size w w' := by
  have hs := u64_lt e.seq
  have hk := u8_lt e.kind
  go_enter Try.func41, Try.ntmps41
  go_wp2_with (first
    | (refine wl_s2b (o := ⟨some 5, _, _, _, _, _⟩) rfl (.tmp 4) rfl e.user rfl (by simp only [maxLen]; omega) ?_; intro v2 w2 hs2 _ hb2 _; obtain ⟨hc2, _⟩ := bcells hb2))
  rw [seqKind]
  have hb2' := bstep (balloc (bself w) _) hb2
  have hus := toList_size e.user
  have hfl := fix_length 8 ((e.seq.toNat * 256 + e.kind.toNat) % 18446744073709551616)
  refine (cFix_any v2 e.user.data.toList ((e.seq.toNat * 256 + e.kind.toNat) % 18446744073709551616) 8 w2 hs2 (by omega) (by omega) (by omega) (by omega)).mono ?_
  rintro e3 w3 ⟨x3, rfl, hown3, hb3⟩
  rw [fixN8] at hown3
  have hs3 := hown3.sb
  go_wp2_with (refine wl_b2s (o := ⟨some 14, _, _, _, _, _⟩) rfl (.tmp 13) rfl x3 rfl _ _ hs3 ?_)
  go_ret
  exact ⟨rfl, bstep hb2' hb3⟩
theorem add_bytes (s : ByteArray) (l : List UInt8) : s ++ (⟨l.toArray⟩ : ByteArray) = ⟨(s.data.toList ++ l).toArray⟩ := by
  apply ByteArray.ext
  simp
set_option maxHeartbeats 1000000 in
theorem rLay_any (e : Ent) (w : World) (hu : e.user.size ≤ 140737488351232) :
    Calls Try.prog 27 #[entV e] w fun en w' => en = .returned (.string ⟨(layE e).toArray⟩) ∧ Below w.heap.size w w' := by
  have hs := u64_lt e.seq
  have hk := u8_lt e.kind
  go_enter Try.func27, Try.ntmps27
  go_wp2_with fail
  obtain ⟨W, hW⟩ : ∃ W, W = w.alloc (.cells #[.string e.user, .int .u64 (e.seq.toNat : Int), .int .u8 (e.kind.toNat : Int), .string e.value] 40) := ⟨_, rfl⟩
  have hb : Below w.heap.size w W := by rw [hW]; exact balloc (bself w) _
  have a0 : W.cell? ⟨w.heap.size, 0, none⟩ = some (.string e.user) := by rw [hW]; go_simp
  have a1 : W.cell? ⟨w.heap.size, 1, none⟩ = some (.int .u64 (e.seq.toNat : Int)) := by rw [hW]; go_simp
  have a2 : W.cell? ⟨w.heap.size, 2, none⟩ = some (.int .u8 (e.kind.toNat : Int)) := by rw [hW]; go_simp
  have hWs : W.heap.size = w.heap.size + 1 := by rw [hW]; simp
  have keepS : ∀ w', Below W.heap.size W w' → (w'.cell? ⟨w.heap.size, 0, none⟩ = some (.string e.user) ∧ w'.cell? ⟨w.heap.size, 1, none⟩ = some (.int .u64 (e.seq.toNat : Int)) ∧ w'.cell? ⟨w.heap.size, 2, none⟩ = some (.int .u8 (e.kind.toNat : Int))) := fun w' h' =>
    ⟨(h'.cell (by simp; omega)).trans a0, (h'.cell (by simp; omega)).trans a1, (h'.cell (by simp; omega)).trans a2⟩
  have KS := Lib.hid keepS
  rw [← hW]
  clear hW hWs keepS a0 a1 a2
  have hsk := seqKind e.seq e.kind
  have hwk : IntKind.u64.wrap (e.kind.toNat : Int) = (e.kind.toNat : Int) := by rw [IntKind.wrap_u64]; omega
  obtain ⟨N, hN⟩ : ∃ N, N = (e.seq.toNat * 256 + e.kind.toNat) % 18446744073709551616 := ⟨_, rfl⟩
  have hNl : N < 18446744073709551616 := by omega
  rw [← hN] at hsk
  have HN := Lib.hid hN
  clear hN
  have hfl := fix_length 8 N
  obtain ⟨sv, hsv⟩ : ∃ sv : ByteArray, sv = ⟨(layE e).toArray⟩ := ⟨_, rfl⟩
  have q1 : e.user ++ (⟨(fix N 8).toArray⟩ : ByteArray) = sv := by rw [add_bytes, hsv, HN.out]; rfl
  have HV := Lib.hid hsv
  clear hsv
  have f1 : ¬ 9223372036854775807 < e.user.size + (fix N 8).length := by omega
  have f2 : ¬ 9223372036854775807 < e.user.size + 8 := by omega
  have HF := Lib.hid hfl
  clear hfl
  refine wp_region_noPanic ?_
  refine wp_region_held_drew (S := fun w' => w'.cell? ⟨w.heap.size, 0, none⟩ = some (.string e.user) ∧ w'.cell? ⟨w.heap.size, 1, none⟩ = some (.int .u64 (e.seq.toNat : Int)) ∧ w'.cell? ⟨w.heap.size, 2, none⟩ = some (.int .u8 (e.kind.toNat : Int))) (by kernel_rfl) (KS.out _ (bdrew (bself W))) (fun hHeld => ?_)
  refine reg_take 0 (v := ?_) (by rfl) (by kernel_rfl) (by kernel_rfl) (by kernel_rfl) (fun _ _ _ h => h) (by rfl) ?_ (by assumption) ?_
  rotate_left
  · (intro wq hSq; (try dsimp only at hSq); go_split_ands; go_simp; (try with_reducible rfl))
  try simp only [Act.put, List.setIfInBounds_toArray, List.set_cons_zero, List.set_cons_succ]
  refine reg_take 1 (v := ?_) (by rfl) (by kernel_rfl) (by kernel_rfl) (by kernel_rfl) (fun _ _ _ h => h) (by rfl) ?_ (by assumption) ?_
  rotate_left
  · (intro wq hSq; (try dsimp only at hSq); go_split_ands; go_simp; (try with_reducible rfl))
  try simp only [Act.put, List.setIfInBounds_toArray, List.set_cons_zero, List.set_cons_succ]
  refine reg_take 2 (v := ?_) (by rfl) (by kernel_rfl) (by kernel_rfl) (by kernel_rfl) (fun _ _ _ h => h) (by rfl) ?_ (by assumption) ?_
  rotate_left
  · (intro wq hSq; (try dsimp only at hSq); go_split_ands; go_simp; (try with_reducible rfl))
  try simp only [Act.put, List.setIfInBounds_toArray, List.set_cons_zero, List.set_cons_succ]
  refine reg_take 3 (v := ?_) (by rfl) (by kernel_rfl) (by kernel_rfl) (by kernel_rfl) (fun _ _ _ h => h) (by rfl) ?_ (by assumption) ?_
  rotate_left
  · (intro wq hSq; (try dsimp only at hSq); go_split_ands; go_simp; (try with_reducible rfl))
  try simp only [Act.put, List.setIfInBounds_toArray, List.set_cons_zero, List.set_cons_succ]
  refine reg_take 4 (v := ?_) (by rfl) (by kernel_rfl) (by kernel_rfl) (by kernel_rfl) (fun _ _ _ h => h) (by rfl) ?_ (by assumption) ?_
  rotate_left
  · (intro wq hSq; (try dsimp only at hSq); go_split_ands; go_simp; (try with_reducible rfl))
  try simp only [Act.put, List.setIfInBounds_toArray, List.set_cons_zero, List.set_cons_succ]
  refine reg_take 5 (v := ?_) (by rfl) (by kernel_rfl) (by kernel_rfl) (by kernel_rfl) (fun _ _ _ h => h) (by rfl) ?_ (by assumption) ?_
  rotate_left
  · (intro wq hSq; (try dsimp only at hSq); go_split_ands; go_simp; (try with_reducible rfl))
  try simp only [Act.put, List.setIfInBounds_toArray, List.set_cons_zero, List.set_cons_succ]
  refine reg_take 6 (v := ?_) (by rfl) (by kernel_rfl) (by kernel_rfl) (by kernel_rfl) (fun _ _ _ h => h) (by rfl) ?_ (by assumption) ?_
  rotate_left
  · (intro wq hSq; (try dsimp only at hSq); go_split_ands; go_simp; (try with_reducible rfl))
  try simp only [Act.put, List.setIfInBounds_toArray, List.set_cons_zero, List.set_cons_succ]
  refine reg_take 7 (v := ?_) (by rfl) (by kernel_rfl) (by kernel_rfl) (by kernel_rfl) (fun _ _ _ h => h) (by rfl) ?_ (by assumption) ?_
  rotate_left
  · (intro wq hSq; (try dsimp only at hSq); go_split_ands; go_simp; (try with_reducible rfl))
  try simp only [Act.put, List.setIfInBounds_toArray, List.set_cons_zero, List.set_cons_succ]
  refine reg_take 8 (v := ?_) (by rfl) (by kernel_rfl) (by kernel_rfl) (by kernel_rfl) (fun _ _ _ h => h) (by rfl) ?_ (by assumption) ?_
  rotate_left
  · (intro wq hSq; (try dsimp only at hSq); go_split_ands; go_simp; (try with_reducible rfl))
  try simp only [Act.put, List.setIfInBounds_toArray, List.set_cons_zero, List.set_cons_succ]
  refine reg_one 9 (by rfl) (by kernel_rfl) (by rfl) (fun K hK => ?_)
  (go_simp; go_at_call 29; refine (rFix_any N 8 _ hNl (by omega) (by omega)).mono ?_; rintro e5 w5 ⟨x5, rfl, hown5, hb5⟩; rw [fixN8] at hown5; go_wp2_with fail)
  refine hK.out _ _ ?_ (fun hHeld => ?_)
  · exact KS.out _ (bstep (bdrew (bself W)) hb5)
  clear hK K
  try simp only [Act.put, List.setIfInBounds_toArray, List.set_cons_zero, List.set_cons_succ]
  refine reg_add (fun w' => (convert 25 9 x5).run Try.prog w' = .ok (.string ⟨(fix N 8).toArray⟩) w') (by assumption) (run_b2s w5 x5 _ _ hown5.sb) (fun hHeld => ?_)
  refine reg_take 10 (v := ?_) (by rfl) (by kernel_rfl) (by kernel_rfl) (by kernel_rfl) (fun _ _ _ h => h) (by rfl) ?_ (by assumption) ?_
  rotate_left
  · (intro wq hSq; (try dsimp only at hSq); go_split_ands; go_simp; (try with_reducible rfl))
  try simp only [Act.put, List.setIfInBounds_toArray, List.set_cons_zero, List.set_cons_succ]
  refine reg_take 11 (v := ?_) (by rfl) (by kernel_rfl) (by kernel_rfl) (by kernel_rfl) (fun _ _ _ h => h) (by rfl) ?_ (by assumption) ?_
  rotate_left
  · (intro wq hSq; (try dsimp only at hSq); go_split_ands; go_simp; (try with_reducible rfl))
  try simp only [Act.put, List.setIfInBounds_toArray, List.set_cons_zero, List.set_cons_succ]
  refine reg_take 12 (v := ?_) (by rfl) (by kernel_rfl) (by kernel_rfl) (by kernel_rfl) (fun _ _ _ h => h) (by rfl) ?_ (by assumption) ?_
  rotate_left
  · (intro wq hSq; (try dsimp only at hSq); go_split_ands; go_simp; (try with_reducible rfl))
  try simp only [Act.put, List.setIfInBounds_toArray, List.set_cons_zero, List.set_cons_succ]
  refine wpAnyH_done (by kernel_rfl) (noPanic_mk ?_) _
  go_wp2
  go_ret
  exact ⟨ret_str HV.out, hb.trans ((bstep (bdrew (bself W)) hb5).mono hb.size)⟩
/-- what Take comes to -/
def takeV (s : List UInt8) : Value := if isKey s then .tuple #[entV (takeE s), .int .i64 0] else .tuple #[.agg #[.string .empty, .int .u64 0, .int .u8 0, .string .empty], .int .i64 80]
set_option maxHeartbeats 1000000 in
theorem iTake_short (s : ByteArray) (w : World) (hs : s.size < 8) :
    Calls Try.prog 49 #[.string s] w fun en w' => en = .returned (takeV s.data.toList) ∧ Below w.heap.size w w' := by
  go_enter Try.func49, Try.ntmps49
  go_wp2_with fail
  have hn : isKey s.data.toList = false := by
    have h := toList_size s
    have : decide (8 ≤ s.data.toList.length) = false := by rw [decide_eq_false_iff_not]; omega
    unfold isKey
    rw [this]
    rfl
  exact bodyPost_ret (v := .tuple #[.agg #[.string .empty, .int .u64 0, .int .u8 0, .string .empty], .int .i64 80]) (by simp [results, Try.results49, go_sem] <;> rfl) rfl ⟨by unfold takeV; rw [hn]; rfl, balloc (bself w) _⟩
set_option maxHeartbeats 1000000 in
theorem iTake_long (s : ByteArray) (w : World) (hs : 8 ≤ s.size) (hm : s.size ≤ 140737488355328) :
    Calls Try.prog 49 #[.string s] w fun en w' => en = .returned (takeV s.data.toList) ∧ Below w.heap.size w w' := by
  go_enter Try.func49, Try.ntmps49
  have hsz := toList_size s
  obtain ⟨T, hT⟩ : ∃ T, T = s.data.toList.drop (s.data.toList.length - 8) := ⟨_, rfl⟩
  have hx : (s.extract (s.size - 8) s.size).data.toList = T := by rw [Lib.extract_to_end, hT, hsz]
  have hTl : T.length = 8 := by rw [hT, List.length_drop]; omega
  have hxs : (s.extract (s.size - 8) s.size).size = 8 := by
    have h := toList_size (s.extract (s.size - 8) s.size)
    rw [hx, hTl] at h
    exact h.symm
  have es : sFix 8 (T, 0) = (leN T, [], 0) := by
    unfold sFix
    rw [if_neg (by simp), if_neg (by omega), if_neg (by simp only [hTl]; omega)]
    simp only
    rw [show (8 : Int).toNat = 8 from rfl, List.take_of_length_le (by omega), List.drop_eq_nil_of_le (by omega)]
  have hnl : leN T < 18446744073709551616 := by
    have h := leN_lt T
    rw [hTl] at h
    exact Nat.lt_of_lt_of_le h (by decide)
  have hu : s.extract 0 (s.size - 8) = ⟨(s.data.toList.take (s.data.toList.length - 8)).toArray⟩ := by
    apply ByteArray.ext
    apply Array.toList_inj.1
    rw [Lib.extract_data, hsz]
    simp
  obtain ⟨n, hn⟩ : ∃ n, n = leN T := ⟨_, rfl⟩
  obtain ⟨q, hq⟩ : ∃ q, q = takeE s.data.toList := ⟨_, rfl⟩
  have hq1 : entV q = .agg #[.string (s.extract 0 (s.size - 8)), .int .u64 ((n : Int) / 256), .int .u8 ((n : Int) % 256), .string ⟨#[]⟩] := by
    rw [hq, hn, hu]
    unfold takeE entV
    simp only [← hT]
    have h1 : ((UInt64.ofNat (leN T / 256)).toNat : Int) = (leN T : Int) / 256 := by rw [UInt64.toNat_ofNat']; omega
    have h2 : ((UInt8.ofNat (leN T % 256)).toNat : Int) = (leN T : Int) % 256 := by rw [UInt8.toNat_ofNat']; omega
    rw [h1, h2]
  have hqu : q.user.size ≤ 9223372036854775807 ∧ q.value.size ≤ 9223372036854775807 := by
    have h1 := toList_size q.user
    have h2 : q.value.size = 0 := by rw [hq]; rfl
    have h3 : q.user.data.toList.length ≤ s.data.toList.length := by rw [hq]; simp only [takeE]; exact List.length_take_le' _ _
    omega
  have hright := fun W => iRight_any q W hqu.1 hqu.2
  rw [hq1] at hright
  rw [← hn] at es hnl
  have hres : takeV s.data.toList = if rightE q then .tuple #[entV q, .int .i64 0] else .tuple #[.agg #[.string .empty, .int .u64 0, .int .u8 0, .string .empty], .int .i64 80] := by
    unfold takeV isKey
    rw [hq, show decide (8 ≤ s.data.toList.length) = true from by rw [decide_eq_true_eq]; omega, Bool.true_and]
  rw [hq1] at hres
  have HX := Lib.hid (And.intro hx (And.intro hxs hres))
  have HR := Lib.hid hright
  have HE := Lib.hid es
  have hTle : T.length ≤ 8 := by omega
  clear hx hxs hu hT hTl es hn hq hq1 hright hres hqu
  go_wp2_with (first
    | (refine wl_s2b (o := ⟨some 16, _, _, _, _, _⟩) rfl (.tmp 15) rfl (s.extract (s.size - 8) s.size) rfl (by rw [HX.out.2.1]; simp [maxLen]) ?_; intro v2 w2 hs2 _ hb2 _))
  rw [HX.out.1] at hs2
  refine (cNew_any v2 T w2 hs2 (by omega)).mono ?_
  rintro e w3 ⟨R, rfl, hR, hrd, hb3⟩
  go_wp2_with fail
  have hcall := mFix_any R T 0 8 w3 hrd.at_ (by omega) (by omega)
  rw [HE.out] at hcall
  refine hcall.mono ?_
  rintro e w4 ⟨rfl, hrd4, hg4⟩
  clear hcall
  go_wp2_with fail
  have hb2' := bstep (balloc (bself w) _) hb2
  have hb3' := bstep hb2' hb3
  have hR0 : w.heap.size < R := by have := hb2.size; simp at this; omega
  have hb4' : Below w.heap.size w w4 := hb3'.trans (gbelow hg4 (Nat.le_of_lt hrd.at_.lt) (by omega))
  have hr1 := heap_alloc_new w (.cells #[.string ⟨#[]⟩, .int .u64 0, .int .u8 0, .string ⟨#[]⟩] 40)
  have hr4 : w4.heap[w.heap.size]? = some (.cells #[.string ⟨#[]⟩, .int .u64 0, .int .u8 0, .string ⟨#[]⟩] 40 (0, 0)) :=
    ((hg4.block _ (by have := hb3'.size; have := hb2.size; have := hb3.size; simp at *; omega) (fun e => by injection e with e; omega)).trans ((hb3.block _ (by have := hb2.size; simp at this; omega)).trans (hb2.block _ (by simp)))).trans hr1
  have hz4 : w.heap.size < w4.heap.size := (Array.getElem?_eq_some_iff.1 hr4).1
  refine (HR.out _).mono ?_
  rintro e w5 ⟨rfl, hb5⟩
  have hr5 : w5.heap[w.heap.size]? = some (.cells #[.string ⟨#[]⟩, .int .u64 0, .int .u8 0, .string ⟨#[]⟩] 40 (0, 0)) :=
    (hb5.block _ (by simp; omega)).trans ((balloc (bself w4) _).block _ hz4 |>.trans hr4)
  have hq5 : w5.heap[w4.heap.size]? = some (.cells #[.string (s.extract 0 (s.size - 8)), .int .u64 ((n : Int) / 256), .int .u8 ((n : Int) % 256), .string ⟨#[]⟩] 40 (0, 0)) :=
    (hb5.block _ (by simp)).trans (heap_alloc_new w4 _)
  obtain ⟨⟨x0, x1, x2, x3⟩, y0, y1, y2, y3⟩ := cells4 hr5
  obtain ⟨⟨z0, z1, z2, z3⟩, _, _, _, _⟩ := cells4 hq5
  have hz5 := hb5.size
  simp at hz5
  have hb5' := bstep (balloc hb4' _) hb5
  clear hr5 hq5 hr4 hr1
  cases hrt : rightE q with
  | true =>
    have HX2 := HX.out.2.2
    rw [hrt] at HX2
    have HX3 := Lib.hid HX2
    clear HX2
    go_wp2_with fail
    exact bodyPost_ret (v := .tuple #[.agg #[.string (s.extract 0 (s.size - 8)), .int .u64 ((n : Int) / 256), .int .u8 ((n : Int) % 256), .string ⟨#[]⟩], .int .i64 0]) (by simp [results, Try.results49, go_sem, x0, x1, x2, x3]) rfl ⟨by rw [HX3.out]; rfl, (((hb5'.setCell (Nat.le_refl _) _).setCell (Nat.le_refl _) _).setCell (Nat.le_refl _) _).setCell (Nat.le_refl _) _⟩
  | false =>
    have HX2 := HX.out.2.2
    rw [hrt] at HX2
    have HX3 := Lib.hid HX2
    clear HX2
    go_wp2_with fail
    exact bodyPost_ret (v := .tuple #[.agg #[.string ⟨#[]⟩, .int .u64 0, .int .u8 0, .string ⟨#[]⟩], .int .i64 80]) (by simp [results, Try.results49, go_sem, x0, x1, x2, x3]) rfl ⟨by rw [HX3.out]; rfl, (((hb5'.setCell (Nat.le_refl _) _).setCell (Nat.le_refl _) _).setCell (Nat.le_refl _) _).setCell (Nat.le_refl _) _⟩
set_option maxHeartbeats 1000000 in
theorem rTake_short (s : ByteArray) (w : World) (hs : s.size < 8) :
    Calls Try.prog 51 #[.string s] w fun en w' => en = .returned (takeV s.data.toList) ∧ Below w.heap.size w w' := by
  go_enter Try.func51, Try.ntmps51
  go_wp2_with fail
  have hn : isKey s.data.toList = false := by
    have h := toList_size s
    have : decide (8 ≤ s.data.toList.length) = false := by rw [decide_eq_false_iff_not]; omega
    unfold isKey
    rw [this]
    rfl
  exact bodyPost_ret (v := .tuple #[.agg #[.string .empty, .int .u64 0, .int .u8 0, .string .empty], .int .i64 80]) (by simp [results, Try.results51, go_sem] <;> rfl) rfl ⟨by unfold takeV; rw [hn]; rfl, balloc (bself w) _⟩
set_option maxHeartbeats 1000000 in
theorem rTake_long (s : ByteArray) (w : World) (hs : 8 ≤ s.size) (hm : s.size ≤ 140737488355328) :
    Calls Try.prog 51 #[.string s] w fun en w' => en = .returned (takeV s.data.toList) ∧ Below w.heap.size w w' := by
  go_enter Try.func51, Try.ntmps51
  have hsz := toList_size s
  obtain ⟨T, hT⟩ : ∃ T, T = s.data.toList.drop (s.data.toList.length - 8) := ⟨_, rfl⟩
  have hx : (s.extract (s.size - 8) s.size).data.toList = T := by rw [Lib.extract_to_end, hT, hsz]
  have hTl : T.length = 8 := by rw [hT, List.length_drop]; omega
  have hxs : (s.extract (s.size - 8) s.size).size = 8 := by
    have h := toList_size (s.extract (s.size - 8) s.size)
    rw [hx, hTl] at h
    exact h.symm
  have es : sFix 8 (T, 0) = (leN T, [], 0) := by
    unfold sFix
    rw [if_neg (by simp), if_neg (by omega), if_neg (by simp only [hTl]; omega)]
    simp only
    rw [show (8 : Int).toNat = 8 from rfl, List.take_of_length_le (by omega), List.drop_eq_nil_of_le (by omega)]
  have hnl : leN T < 18446744073709551616 := by
    have h := leN_lt T
    rw [hTl] at h
    exact Nat.lt_of_lt_of_le h (by decide)
  have hu : s.extract 0 (s.size - 8) = ⟨(s.data.toList.take (s.data.toList.length - 8)).toArray⟩ := by
    apply ByteArray.ext
    apply Array.toList_inj.1
    rw [Lib.extract_data, hsz]
    simp
  obtain ⟨n, hn⟩ : ∃ n, n = leN T := ⟨_, rfl⟩
  obtain ⟨q, hq⟩ : ∃ q, q = takeE s.data.toList := ⟨_, rfl⟩
  have hq1 : entV q = .agg #[.string (s.extract 0 (s.size - 8)), .int .u64 ((n : Int) / 256), .int .u8 ((n : Int) % 256), .string ⟨#[]⟩] := by
    rw [hq, hn, hu]
    unfold takeE entV
    simp only [← hT]
    have h1 : ((UInt64.ofNat (leN T / 256)).toNat : Int) = (leN T : Int) / 256 := by rw [UInt64.toNat_ofNat']; omega
    have h2 : ((UInt8.ofNat (leN T % 256)).toNat : Int) = (leN T : Int) % 256 := by rw [UInt8.toNat_ofNat']; omega
    rw [h1, h2]
  have hqu : q.user.size ≤ 9223372036854775807 ∧ q.value.size ≤ 9223372036854775807 := by
    have h1 := toList_size q.user
    have h2 : q.value.size = 0 := by rw [hq]; rfl
    have h3 : q.user.data.toList.length ≤ s.data.toList.length := by rw [hq]; simp only [takeE]; exact List.length_take_le' _ _
    omega
  have hright := fun W => rRight_any q W hqu.1 hqu.2
  rw [hq1] at hright
  rw [← hn] at es hnl
  have hres : takeV s.data.toList = if rightE q then .tuple #[entV q, .int .i64 0] else .tuple #[.agg #[.string .empty, .int .u64 0, .int .u8 0, .string .empty], .int .i64 80] := by
    unfold takeV isKey
    rw [hq, show decide (8 ≤ s.data.toList.length) = true from by rw [decide_eq_true_eq]; omega, Bool.true_and]
  rw [hq1] at hres
  have HX := Lib.hid (And.intro hx (And.intro hxs hres))
  have HR := Lib.hid hright
  have HE := Lib.hid es
  have hTle : T.length ≤ 8 := by omega
  clear hx hxs hu hT hTl es hn hq hq1 hright hres hqu
  go_wp2_with (first
    | (refine wl_s2b (o := ⟨some 17, _, _, _, _, _⟩) rfl (.tmp 16) rfl (s.extract (s.size - 8) s.size) rfl (by rw [HX.out.2.1]; simp [maxLen]) ?_; intro v2 w2 hs2 ho2 hb2 hz2; rw [HX.out.1] at hs2; clear hz2 ho2; obtain ⟨A2, c2, rfl, hc2, hm2, hr2⟩ := hs2))
  have hbig := bstep (balloc (bself w) _) hb2
  obtain ⟨W3, hW3⟩ : ∃ W3, W3 = w2.alloc (.cells #[.slice A2 T.length c2, .int .i64 0, .int .i64 0] 65) := ⟨_, rfl⟩
  have hrf : RefAt W3 w2.heap.size w2.heap.size T 0 0 := by
    rw [hW3]
    exact ⟨A2, c2, heap_alloc_new w2 _, hc2, hm2, Nat.zero_le _, Nat.le_refl _, hr2.alloc (Nat.le_refl _) _⟩
  have hb23 : Below w2.heap.size w2 W3 := by rw [hW3]; exact balloc (bself w2) _
  have hcall := qFix_any w2.heap.size w2.heap.size T 0 0 8 W3 hrf (by omega) (by omega) (by omega)
  rw [List.drop_zero, HE.out] at hcall
  rw [← hW3]
  refine hcall.mono ?_
  rintro e w4 ⟨rfl, ⟨i4, hrf4, _⟩, hg4⟩
  have hz3 : W3.heap.size = w2.heap.size + 1 := by rw [hW3]; simp
  clear hcall hW3
  go_wp2_with fail
  have hb2' := bstep (balloc (bself w) _) hb2
  have hb3' := bstep hb2' hb23
  have hR0 : w.heap.size < w2.heap.size := by have := hb2.size; simp at this; omega
  have hb4' : Below w.heap.size w w4 := hb3'.trans (gbelow hg4 (by omega) (by omega))
  have hr1 := heap_alloc_new w (.cells #[.string ⟨#[]⟩, .int .u64 0, .int .u8 0, .string ⟨#[]⟩] 40)
  have hr4 : w4.heap[w.heap.size]? = some (.cells #[.string ⟨#[]⟩, .int .u64 0, .int .u8 0, .string ⟨#[]⟩] 40 (0, 0)) :=
    ((hg4.block _ (by omega) (fun e => by injection e with e; omega)).trans ((hb23.block _ hR0).trans (hb2.block _ (by simp)))).trans hr1
  have hz4 : w.heap.size < w4.heap.size := (Array.getElem?_eq_some_iff.1 hr4).1
  refine (HR.out _).mono ?_
  rintro e w5 ⟨rfl, hb5⟩
  have hr5 : w5.heap[w.heap.size]? = some (.cells #[.string ⟨#[]⟩, .int .u64 0, .int .u8 0, .string ⟨#[]⟩] 40 (0, 0)) :=
    (hb5.block _ (by simp; omega)).trans ((balloc (bself w4) _).block _ hz4 |>.trans hr4)
  have hq5 : w5.heap[w4.heap.size]? = some (.cells #[.string (s.extract 0 (s.size - 8)), .int .u64 ((n : Int) / 256), .int .u8 ((n : Int) % 256), .string ⟨#[]⟩] 40 (0, 0)) :=
    (hb5.block _ (by simp)).trans (heap_alloc_new w4 _)
  obtain ⟨⟨x0, x1, x2, x3⟩, y0, y1, y2, y3⟩ := cells4 hr5
  obtain ⟨⟨z0, z1, z2, z3⟩, _, _, _, _⟩ := cells4 hq5
  have hz5 := hb5.size
  simp at hz5
  have hb5' := bstep (balloc hb4' _) hb5
  clear hr5 hq5 hr4 hr1
  cases hrt : rightE q with
  | true =>
    have HX2 := HX.out.2.2
    rw [hrt] at HX2
    have HX3 := Lib.hid HX2
    clear HX2
    go_wp2_with fail
    exact bodyPost_ret (v := .tuple #[.agg #[.string (s.extract 0 (s.size - 8)), .int .u64 ((n : Int) / 256), .int .u8 ((n : Int) % 256), .string ⟨#[]⟩], .int .i64 0]) (by simp [results, Try.results51, go_sem, x0, x1, x2, x3]) rfl ⟨by rw [HX3.out]; rfl, (((hb5'.setCell (Nat.le_refl _) _).setCell (Nat.le_refl _) _).setCell (Nat.le_refl _) _).setCell (Nat.le_refl _) _⟩
  | false =>
    have HX2 := HX.out.2.2
    rw [hrt] at HX2
    have HX3 := Lib.hid HX2
    clear HX2
    go_wp2_with fail
    exact bodyPost_ret (v := .tuple #[.agg #[.string ⟨#[]⟩, .int .u64 0, .int .u8 0, .string ⟨#[]⟩], .int .i64 80]) (by simp [results, Try.results51, go_sem, x0, x1, x2, x3]) rfl ⟨by rw [HX3.out]; rfl, (((hb5'.setCell (Nat.le_refl _) _).setCell (Nat.le_refl _) _).setCell (Nat.le_refl _) _).setCell (Nat.le_refl _) _⟩
end Go.Proofs.Ytoccmedadiangaa
