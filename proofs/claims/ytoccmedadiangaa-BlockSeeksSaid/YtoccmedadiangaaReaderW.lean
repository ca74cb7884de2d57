/-
  What is proved here: what the codec's reader comes to, at this seat's numbers: New, number, and the reader's methods. Conditions: the bytes' length below 2^47.
-/
import Derived.Test.YtoccmedadiangaaCodecW
import Derived.Test.YtoccmedadiangaaReaderLaw
import Derived.Test.YtoccmedadiangaaEnt
import Derived.BigQuiet
namespace Go.Proofs.Ytoccmedadiangaa
open Go.RowKit

/-- BLOCK R IS A READER: what is left, its fault -/
def RdrAt (w : World) (R : Nat) (rest : List UInt8) (bad : Nat) : Prop :=
  ∃ A c, w.heap[R]? = some (.cells #[.slice A rest.length c, .int .i64 (bad : Int)] 76 (0, 0)) ∧ rest.length ≤ c ∧ c ≤ maxLen ∧ Rd w R 1 A rest.length (bv rest)
section
variable {w w' : World} {R B : Nat} {rest : List UInt8} {bad : Nat}
theorem RdrAt.lt (h : RdrAt w R rest bad) : R < w.heap.size := by
  obtain ⟨A, c, h, _⟩ := h
  exact (Array.getElem?_eq_some_iff.1 h).1
theorem RdrAt.on (h : RdrAt w R rest bad) (hb : Below B w w') (hB : w.heap.size ≤ B) : RdrAt w' R rest bad := by
  have hlt := h.lt
  obtain ⟨A, c, h1, h2, h3, h4⟩ := h
  exact ⟨A, c, (hb.block R (by omega)).trans h1, h2, h3, h4.keep fun p hp => hb.cell (by omega)⟩
theorem RdrAt.far (h : RdrAt w R rest bad) {row : Option Nat} (hg : w.grownBy w' row) (hr : ∀ g, row = some g → R < g) : RdrAt w' R rest bad := by
  have hlt := h.lt
  obtain ⟨A, c, h1, h2, h3, h4⟩ := h
  refine ⟨A, c, (hg.block R hlt (fun e => by have := hr R e.symm; omega)).trans h1, h2, h3, h4.keep fun p hp => World.cell?_of_block (hg.block p.block (by omega) (fun e => by have := hr _ e.symm; omega))⟩
theorem RdrAt.drewN (h : RdrAt w R rest bad) (k : Nat) : RdrAt (w.drewN k) R rest bad := h
end
theorem set0 {w : World} {R : Nat} {a b u : Value} {T : TypeId} (h : w.heap[R]? = some (.cells #[a, b] T (0, 0))) : (w.setCell ⟨R, 0, none⟩ u).heap[R]? = some (.cells #[u, b] T (0, 0)) := by
  simp [World.setCell, Array.getElem?_modify, h]
theorem set1 {w : World} {R : Nat} {a b u : Value} {T : TypeId} (h : w.heap[R]? = some (.cells #[a, b] T (0, 0))) : (w.setCell ⟨R, 1, none⟩ u).heap[R]? = some (.cells #[a, u] T (0, 0)) := by
  simp [World.setCell, Array.getElem?_modify, h]
theorem cells2 {w : World} {R : Nat} {a b : Value} {T : TypeId} (h : w.heap[R]? = some (.cells #[a, b] T (0, 0))) : w.cell? ⟨R, 0, none⟩ = some a ∧ w.cell? ⟨R, 1, none⟩ = some b ∧ w.frozen? ⟨R, 0, none⟩ = false ∧ w.frozen? ⟨R, 1, none⟩ = false := by
  refine ⟨cell_of_row w R 0 _ _ _ h, cell_of_row w R 1 _ _ _ h, ?_, ?_⟩ <;> simp [World.frozen?, h]

/-- block R is a reader, as far as the blocks from L on stand -/
def RdrFrom (L : Nat) (w : World) (R : Nat) (rest : List UInt8) (bad : Nat) : Prop :=
  ∀ w' : World, (∀ g, L ≤ g → g < w.heap.size → w'.heap[g]? = w.heap[g]?) → RdrAt w' R rest bad
theorem RdrFrom.at_ {L : Nat} {w : World} {R : Nat} {rest : List UInt8} {bad : Nat} (h : RdrFrom L w R rest bad) : RdrAt w R rest bad := h w fun _ _ _ => rfl
theorem RdrFrom.far {L : Nat} {w w' : World} {R : Nat} {rest : List UInt8} {bad g : Nat} (h : RdrFrom L w R rest bad) (hg : w.grownBy w' (some g)) (hL : g < L) : RdrFrom L w' R rest bad := fun w2 h2 =>
  h w2 fun k hk hs => (h2 k hk (Nat.lt_of_lt_of_le hs hg.size)).trans (hg.block k hs (fun e => by injection e with e; omega))
theorem cNew_any (v : Value) (bs : List UInt8) (w : World) (hv : SB w w.heap.size v bs) (hm : bs.length ≤ 140737488355328) :
    Calls Try.prog 30 #[v] w fun e w' => ∃ R, e = .returned (.pointer (some ⟨R, 0, none⟩)) ∧ w.heap.size ≤ R ∧ RdrFrom w.heap.size w' R bs 0 ∧ Below w.heap.size w w' := by
  go_enter Try.func30, Try.ntmps30
  go_wp2_with (at_builtin; refine wl_appB rfl (.tmp 3) (.tmp 4) rfl w.heap.size _ [] rfl (OB.lit0 w (Nat.le_refl _)) w.heap.size v bs rfl (hv.alloc (Nat.le_refl _) _) (by simp; omega) (by simp) ?_; intro v1 w1 hown1 _ _ hb1; have hlt1 := hown1.lt; obtain ⟨A1, c1, rfl, hc1, hm1, hr1⟩ := hown1.sb)
  go_ret
  have hb : Below w.heap.size w w1 := ((Below.refl _ _).alloc (Nat.le_refl _) _).trans hb1
  refine ⟨w1.heap.size, rfl, hb.size, fun w2 h2 => ⟨A1, c1, (h2 _ hb.size (by simp)).trans (heap_alloc_new w1 _), hc1, hm1, hr1.1, hr1.2.1, fun ad e hn => ?_⟩, balloc hb _⟩
  have hr2 := hr1.alloc (Nat.le_refl _) (.cells #[.slice A1 bs.length c1, .int .i64 0] 76 (0, 0))
  obtain ⟨hs, hbl, hcell⟩ := hr2.2.2 ad e hn
  refine ⟨hs, hbl, fun j u hu => (World.cell?_of_block (a := ⟨ad.block, ad.off + j, none⟩) (h2 ad.block ?_ (by simp; omega))).trans (hcell j u hu)⟩
  exact (hlt1 ad.block (by rw [e]; rfl)).1

theorem and127 : ∀ a : Nat, a < 256 → a &&& 127 = a % 128 := by decide +kernel
theorem u8_and127 (x : UInt8) : bits .and .u8 (x.toNat : Int) 127 = ((x.toNat % 128 : Nat) : Int) := by
  have h := u8_lt x
  rw [show (127 : Int) = ((127 : Nat) : Int) from rfl, u8_and_nat _ _ h (by omega), and127 _ h]

theorem pow128 (k : Nat) : (128 : Nat) ^ k = 2 ^ (7 * k) := by rw [Nat.pow_mul]
set_option maxRecDepth 100000 in
/-- a group of seven bits laid over what was gathered -/
theorem or_step (n k : Nat) (x : UInt8) (hn : n < 128 ^ k) (hk : k ≤ 9) (hx : k = 9 → x.toNat ≤ 1) :
    bits .or .u64 (n : Int) (IntKind.u64.wrap ((x.toNat : Int) % 128 * 2 ^ (7 * k))) = ((n + x.toNat % 128 * 128 ^ k : Nat) : Int) := by
  have hb : x.toNat % 128 * 128 ^ k + 128 ^ k ≤ 18446744073709551616 := by
    rcases Nat.lt_or_ge k 9 with h | h
    · have h1 : x.toNat % 128 * 128 ^ k ≤ 127 * 128 ^ k := Nat.mul_le_mul_right _ (by omega)
      have h2 : 128 ^ (k + 1) ≤ 128 ^ 9 := Nat.pow_le_pow_right (by omega) (by omega)
      have h3 : (128 : Nat) ^ 9 ≤ 18446744073709551616 := by decide
      rw [Nat.pow_succ] at h2
      omega
    · have e : k = 9 := by omega
      have h4 := hx e
      have h5 : x.toNat % 128 * 128 ^ k ≤ 1 * 128 ^ k := Nat.mul_le_mul_right _ (by omega)
      have h6 : (128 : Nat) ^ k = 9223372036854775808 := by rw [e]
      have key : ∀ q p : Nat, q ≤ 1 * p → p = 9223372036854775808 → q + p ≤ 18446744073709551616 := by intro q p h1 h2; omega
      exact key _ _ h5 h6
  have e1 : ((x.toNat : Int) % 128 * 2 ^ (7 * k)) = ((x.toNat % 128 * 128 ^ k : Nat) : Int) := by rw [pow128]; simp
  have e2 : IntKind.u64.wrap ((x.toNat : Int) % 128 * 2 ^ (7 * k)) = ((x.toNat % 128 * 128 ^ k : Nat) : Int) := by
    rw [e1, IntKind.wrap_u64]; omega
  rw [e2, u64_or_nat _ _ (by omega) (by omega)]
  congr 1
  rw [pow128] at hn ⊢
  rw [Nat.or_comm, Nat.mul_comm, ← Nat.two_pow_add_eq_or_of_lt hn, Nat.add_comm]
theorem or_step9 (n : Nat) (x : UInt8) (hn : n < 128 ^ 9) (hx : x.toNat ≤ 1) : bits .or .u64 (n : Int) ((x.toNat : Int) % 128 * 9223372036854775808) = ((n + x.toNat % 128 * 128 ^ 9 : Nat) : Int) := by
  have h := or_step n 9 x hn (by omega) (fun _ => hx)
  have p : (2 : Int) ^ (7 * 9) = 9223372036854775808 := by decide
  rw [p] at h
  have e : IntKind.u64.wrap ((x.toNat : Int) % 128 * 9223372036854775808) = (x.toNat : Int) % 128 * 9223372036854775808 := by rw [IntKind.wrap_u64]; omega
  rw [e] at h
  exact h
theorem ret3 {k1 k2 k3 : IntKind} {a b c a' b' c' : Int} (h1 : a = a') (h2 : b = b') (h3 : c = c') : Ending.returned (.tuple #[.int k1 a, .int k2 b, .int k3 c]) = Ending.returned (.tuple #[.int k1 a', .int k2 b', .int k3 c']) := by rw [h1, h2, h3]

set_option maxRecDepth 100000 in
set_option maxHeartbeats 1000000 in
theorem cNumber_any (A : Option Addr) (c B : Nat) (l : List UInt8) (w : World) (hc : l.length ≤ c) (hcm : c ≤ maxLen) (hr : Rd w B 1 A l.length (bv l)) :
    Calls Try.prog 46 #[.slice A l.length c] w fun e w' => e = .returned (.tuple #[.int .u64 ((number l).1 : Int), .int .i64 ((number l).2.1 : Int), .int .i64 ((number l).2.2 : Int)]) ∧ w' = w := by
  have hcm' : c ≤ 9223372036854775807 := by unfold maxLen at hcm; omega
  clear hcm
  go_enter Try.func46, Try.ntmps46
  go_wp2
  go_loop [5, 10] (fun x i => ∃ k n : Nat, i = .int .i64 k ∧ x = .int .u64 n ∧ k ≤ l.length ∧ k ≤ 9 ∧ Hid (n < 128 ^ k ∧ numG k n (l.drop k) = number l)) (fun _ i => l.length - (intOf i).toNat)
  case atStart => exact ⟨0, 0, rfl, rfl, Nat.zero_le _, by omega, by simp, rfl⟩
  case round =>
    obtain ⟨k, n, rfl, rfl, hk, hk9, hl⟩ := hrel
    by_cases hlt : k < l.length
    · obtain ⟨b, o, rfl, hb, hcell⟩ := hr.at_ (by omega)
      have c0 := hcell k _ (bv_get l k hlt)
      have hd : l.drop k = l[k] :: l.drop (k + 1) := List.drop_eq_getElem_cons hlt
      obtain ⟨x, hx⟩ : ∃ x, x = l[k] := ⟨_, rfl⟩
      rw [← hx] at c0 hd
      have HD := Lib.hid hd
      have hx8 := u8_lt x
      have hand := u8_and127 x
      clear hx hcell hd
      have hbad : k = 9 ∧ 1 < x.toNat → number l = (0, 0, 11) := fun h => by rw [← hl.out.2, HD.out, numG, if_pos h]
      have hzero : ¬ (k = 9 ∧ 1 < x.toNat) → x.toNat < 128 → 0 < k ∧ x.toNat = 0 → number l = (0, 0, 11) := fun h1 h2 h3 => by rw [← hl.out.2, HD.out, numG, if_neg h1, if_pos h2, if_pos h3]
      have hgood : ¬ (k = 9 ∧ 1 < x.toNat) → x.toNat < 128 → ¬ (0 < k ∧ x.toNat = 0) → number l = (n + x.toNat % 128 * 128 ^ k, k + 1, 0) := fun h1 h2 h3 => by rw [← hl.out.2, HD.out, numG, if_neg h1, if_pos h2, if_neg h3]
      have hmore : ¬ (k = 9 ∧ 1 < x.toNat) → ¬ x.toNat < 128 → numG (k + 1) (n + x.toNat % 128 * 128 ^ k) (l.drop (k + 1)) = number l := fun h1 h2 => by rw [← hl.out.2, HD.out, numG, if_neg h1, if_neg h2]
      have hor := or_step n k x hl.out.1 hk9
      have HH := Lib.hid (And.intro hbad (And.intro hzero (And.intro hgood (And.intro hmore hor))))
      clear hbad hzero hgood hmore hor
      go_wp2
      · go_ret3
        rw [HH.out.1 ⟨by omega, by omega⟩]
        exact ⟨rfl, rfl⟩
      · have hz : x.toNat = 0 := by have h : ((x.toNat : Int) == 0) = true := by assumption
                                    rw [beq_iff_eq] at h; omega
        go_ret3
        rw [HH.out.2.1 (by omega) (by omega) (by omega)]
        exact ⟨rfl, rfl⟩
      · have hz : ¬ x.toNat = 0 := by have h : ((x.toNat : Int) == 0) = false := by assumption
                                      rw [beq_eq_false_iff_ne] at h; omega
        obtain rfl : k = 9 := by omega
        go_ret3
        rw [HH.out.2.2.1 (by omega) (by omega) (by omega)]
        exact ⟨ret3 (or_step9 n x hl.out.1 (by omega)) rfl rfl, rfl⟩
      · have hz : x.toNat = 0 := by have h : ((x.toNat : Int) == 0) = true := by assumption
                                    rw [beq_iff_eq] at h; omega
        go_ret3
        rw [HH.out.2.1 (by omega) (by omega) (by omega)]
        exact ⟨rfl, rfl⟩
      · have hz : ¬ x.toNat = 0 := by have h : ((x.toNat : Int) == 0) = false := by assumption
                                      rw [beq_eq_false_iff_ne] at h; omega
        go_ret3
        rw [HH.out.2.2.1 (by omega) (by omega) (by omega)]
        exact ⟨ret3 (HH.out.2.2.2.2 (by omega)) (by simp) rfl, rfl⟩
      · go_ret3
        rw [HH.out.2.2.1 (by omega) (by omega) (by omega)]
        exact ⟨ret3 (HH.out.2.2.2.2 (by omega)) (by simp) rfl, rfl⟩
      · have hx9 : ¬ (k = 9 ∧ 1 < x.toNat) := by omega
        go_round
        case rel =>
          refine ⟨k + 1, n + x.toNat % 128 * 128 ^ k, by go_num, by rw [HH.out.2.2.2.2 (by omega)], by omega, by omega, ?_, HH.out.2.2.2.1 hx9 (by omega)⟩
          have h1 : x.toNat % 128 * 128 ^ k ≤ 127 * 128 ^ k := Nat.mul_le_mul_right _ (by omega)
          have h2 := hl.out.1
          rw [Nat.pow_succ]
          omega
        case measure => simp [intOf]; omega
    · go_wp2
      go_ret3
      have h := hl.out.2
      rw [List.drop_eq_nil_of_le (by omega), numG] at h
      rw [← h]
      exact ⟨rfl, rfl⟩

theorem sb_of {w : World} {B : Nat} {A : Option Addr} {c : Nat} {l : List UInt8} (h1 : l.length ≤ c) (h2 : c ≤ maxLen) (h : Rd w B 1 A l.length (bv l)) : SB w B (.slice A l.length c) l := ⟨A, c, rfl, h1, h2, h⟩
theorem rd_cut {w : World} {B : Nat} {A : Option Addr} {c k : Nat} {l : List UInt8} (hc : l.length ≤ c) (hk : k ≤ l.length) (h : Rd w B 1 A l.length (bv l)) : Rd w B 1 (if c = k then A else A.map (·.add k)) (l.drop k).length (bv (l.drop k)) := by
  have := h.cut hk hc
  rw [Nat.mul_one] at this
  rw [bv_drop, List.length_drop]
  exact this

section
variable {ops : Array Oper} {rest : List Oper} {o : Oper} {a : Act} {Q : Exit → Act → World → Prop} {w : World}
theorem run_cutB (w : World) (A : Option Addr) (n c k : Nat) (kl : IntKind) (hk : k ≤ n) : (Instr.sliceAt 25 (.slice A n c) (some (.int kl (k : Int))) none none).run Try.prog w = .ok (.slice (if c = k then A else A.map (·.add k)) (n - k) (c - k)) w := by
  rw [run_sliceAt_slice w 25 _ _ _ _ Try.underlying25, run_slice_l w 25 A n c Try.underlying25 kl k (by omega) (by omega)]
  simp [go_sem, sliced]
theorem run_takeB (w : World) (A : Option Addr) (n c lo hi : Nat) (kl kh : IntKind) (h1 : lo ≤ hi) (h2 : hi ≤ c) : (Instr.sliceAt 25 (.slice A n c) (some (.int kl (lo : Int))) (some (.int kh (hi : Int))) none).run Try.prog w = .ok (.slice (if c = lo then A else A.map (·.add lo)) (hi - lo) (c - lo)) w := by
  rw [run_sliceAt_slice w 25 _ _ _ _ Try.underlying25, run_slice_lh w 25 A n c Try.underlying25 kl kh lo hi (by omega) (by omega) (by omega)]
  simp [go_sem, sliced]
/-- 'x[k:]' -/
theorem wl_cutB (hgd : Region.wanted o (yielded ops a.tmps) = true) (x lo : Operand) (ho : o.op = .slice 25 x (some lo) none none) (A : Option Addr) (c k B : Nat) (kl : IntKind) (l : List UInt8) (hx : a.eval x = .slice A l.length c) (hlo : a.eval lo = .int kl (k : Int)) (hk : k ≤ l.length) (hc : l.length ≤ c) (hcm : c ≤ maxLen) (hr : Rd w B 1 A l.length (bv l))
    (h : ∀ A' c', (l.drop k).length ≤ c' → c' ≤ maxLen → Rd w B 1 A' (l.drop k).length (bv (l.drop k)) → wpList Try.prog ops Q rest (a.put o.dst (.slice A' (l.drop k).length c')) w) : wpList Try.prog ops Q (o :: rest) a w := by
  refine wl_of hgd fun K hK => ?_
  unfold Oper.wp execOp
  simp only [ho, hx, hlo, Sem.run_bind, Sem.run_pure, Result.andThen_ok, Option.map_some, Option.map_none, run_cutB w A l.length c k kl hk]
  refine hK _ _ ?_
  have e : l.length - k = (l.drop k).length := by rw [List.length_drop]
  rw [e]
  exact h _ _ (by rw [← e]; omega) (by omega) (rd_cut hc hk hr)
/-- 'x[lo:hi]' -/
theorem wl_takeB (hgd : Region.wanted o (yielded ops a.tmps) = true) (x lo hi : Operand) (ho : o.op = .slice 25 x (some lo) (some hi) none) (A : Option Addr) (c i j B : Nat) (kl kh : IntKind) (l : List UInt8) (hx : a.eval x = .slice A l.length c) (hlo : a.eval lo = .int kl (i : Int)) (hhi : a.eval hi = .int kh (j : Int)) (hij : i ≤ j) (hj : j ≤ l.length) (hc : l.length ≤ c) (hcm : c ≤ maxLen) (hr : Rd w B 1 A l.length (bv l))
    (h : ∀ v', SB w B v' ((l.take j).drop i) → wpList Try.prog ops Q rest (a.put o.dst v') w) : wpList Try.prog ops Q (o :: rest) a w := by
  refine wl_of hgd fun K hK => ?_
  unfold Oper.wp execOp
  simp only [ho, hx, hlo, hhi, Sem.run_bind, Sem.run_pure, Result.andThen_ok, Option.map_some, Option.map_none, run_takeB w A l.length c i j kl kh hij (by omega)]
  refine hK _ _ (h _ ?_)
  have e1 : (l.take j).length = j := by rw [List.length_take]; omega
  have h1 : Rd w B 1 A (l.take j).length (bv (l.take j)) := by
    have := hr.take hj
    rw [Nat.mul_one] at this
    rw [bv_take, e1]; exact this
  have h2 := rd_cut (c := c) (k := i) (by omega) (by omega) h1
  have e : j - i = ((l.take j).drop i).length := by rw [List.length_drop, e1]
  exact ⟨_, c - i, by rw [e], by rw [← e]; omega, by omega, h2⟩
end


theorem RdrAt.mk2 {w : World} {R c : Nat} {A : Option Addr} {rest : List UInt8} {bad : Nat} {u v : Value} (hh : w.heap[R]? = some (.cells #[u, v] 76 (0, 0))) (hc : rest.length ≤ c) (hm : c ≤ maxLen) (hr : Rd w R 1 A rest.length (bv rest)) :
    RdrAt ((w.setCell ⟨R, 1, none⟩ (.int .i64 (bad : Int))).setCell ⟨R, 0, none⟩ (.slice A rest.length c)) R rest bad :=
  ⟨A, c, set0 (set1 hh), hc, hm, (hr.setCell (Nat.le_refl _) _).setCell (Nat.le_refl _) _⟩
theorem RdrAt.mk1 {w : World} {R c : Nat} {A : Option Addr} {rest : List UInt8} {bad : Nat} {v : Value} (hh : w.heap[R]? = some (.cells #[.slice A rest.length c, v] 76 (0, 0))) (hc : rest.length ≤ c) (hm : c ≤ maxLen) (hr : Rd w R 1 A rest.length (bv rest)) :
    RdrAt (w.setCell ⟨R, 1, none⟩ (.int .i64 (bad : Int))) R rest bad :=
  ⟨A, c, set1 hh, hc, hm, hr.setCell (Nat.le_refl _) _⟩
theorem RdrAt.mk0 {w : World} {R c : Nat} {A : Option Addr} {rest : List UInt8} {bad : Nat} {u : Value} (hh : w.heap[R]? = some (.cells #[u, .int .i64 (bad : Int)] 76 (0, 0))) (hc : rest.length ≤ c) (hm : c ≤ maxLen) (hr : Rd w R 1 A rest.length (bv rest)) :
    RdrAt (w.setCell ⟨R, 0, none⟩ (.slice A rest.length c)) R rest bad :=
  ⟨A, c, set0 hh, hc, hm, hr.setCell (Nat.le_refl _) _⟩
/-- what grows by one block leaves what lies below it -/
theorem gbelow {w w' : World} {g B : Nat} (h : w.grownBy w' (some g)) (hg : g ≤ w.heap.size) (hB : B ≤ g) : Below B w w' := below_grown (Below.refl B w) h (by omega) (fun k e => by injection e with e; omega)
theorem gself (w : World) (row : Option Nat) : w.grownBy w row := ⟨rfl, rfl, rfl, Nat.le_refl _, fun _ _ _ => rfl⟩
theorem gset2 (w : World) (R : Nat) (u v : Value) : w.grownBy ((w.setCell ⟨R, 1, none⟩ u).setCell ⟨R, 0, none⟩ v) (some R) := (grown_set (p := ⟨R, 1, none⟩) w rfl u).trans (grown_set (p := ⟨R, 0, none⟩) _ rfl v)

set_option maxHeartbeats 1000000 in
theorem mNum_any (R : Nat) (rest : List UInt8) (bad : Nat) (w : World) (h : RdrAt w R rest bad) :
    Calls Try.prog 31 #[.pointer (some ⟨R, 0, none⟩)] w fun e w' => e = .returned (.int .u64 ((sNum (rest, bad)).1 : Int)) ∧ RdrAt w' R (sNum (rest, bad)).2.1 (sNum (rest, bad)).2.2 ∧ w.grownBy w' (some R) := by
  obtain ⟨A, c, hh, hc, hm, hr⟩ := h
  obtain ⟨c0, c1, f0, f1⟩ := cells2 hh
  by_cases hbad : bad = 0
  · subst hbad
    have hle := number_le rest
    have hm' : c ≤ 9223372036854775807 := by unfold maxLen at hm; omega
    have es : sNum (rest, 0) = ((number rest).1, rest.drop (number rest).2.1, (number rest).2.2) := by simp [sNum]
    rw [es]
    clear es
    go_enter Try.func31, Try.ntmps31
    go_wp2_with (first | (refine wl_cutB (o := ⟨some 34, _, _, _, _, _⟩) rfl (.tmp 32) (.tmp 33) rfl A c (number rest).2.1 R .i64 rest rfl rfl hle hc hm (hr.setCell (Nat.le_refl _) _) ?_; intro A1 c1 hc1 hm1 hr1) | (go_at_call 46; refine (cNumber_any A c R rest w hc hm hr).mono ?_; rintro e w' ⟨rfl, rfl⟩))
    go_ret
    rw [← List.length_drop]
    exact ⟨rfl, ⟨A1, c1, set0 (set1 hh), hc1, hm1, hr1.setCell (Nat.le_refl _) _⟩, gset2 _ R _ _⟩
  · have es : sNum (rest, bad) = (0, rest, bad) := by simp [sNum, hbad]
    rw [es]
    have hb' : (((bad : Int)) == 0) = false := by rw [beq_eq_false_iff_ne]; omega
    go_enter Try.func31, Try.ntmps31
    go_wp2
    go_ret
    exact ⟨rfl, ⟨A, c, hh, hc, hm, hr⟩, gself _ _⟩

theorem mNum_nil (w : World) : Calls Try.prog 31 #[.pointer none] w fun e w' => e = .returned (.int .u64 0) ∧ w' = w := by
  go_enter Try.func31, Try.ntmps31
  go_wp2
  go_ret
  exact ⟨rfl, rfl⟩
theorem mFix_nil (many : Int) (w : World) : Calls Try.prog 53 #[.pointer none, .int .i64 many] w fun e w' => e = .returned (.int .u64 0) ∧ w' = w := by
  go_enter Try.func53, Try.ntmps53
  go_wp2
  go_ret
  exact ⟨rfl, rfl⟩
theorem mLeft_nil (w : World) : Calls Try.prog 47 #[.pointer none] w fun e w' => e = .returned (.int .i64 0) ∧ w' = w := by
  go_enter Try.func47, Try.ntmps47
  go_wp2
  go_ret
  exact ⟨rfl, rfl⟩
theorem mFault_nil (w : World) : Calls Try.prog 32 #[.pointer none] w fun e w' => e = .returned (.int .i64 0) ∧ w' = w := by
  go_enter Try.func32, Try.ntmps32
  go_wp2
  go_ret
  exact ⟨rfl, rfl⟩
theorem mLeft_any (R : Nat) (rest : List UInt8) (bad : Nat) (w : World) (h : RdrAt w R rest bad) :
    Calls Try.prog 47 #[.pointer (some ⟨R, 0, none⟩)] w fun e w' => e = .returned (.int .i64 (rest.length : Int)) ∧ w' = w := by
  obtain ⟨A, c, hh, hc, hm, hr⟩ := h
  obtain ⟨c0, c1, f0, f1⟩ := cells2 hh
  go_enter Try.func47, Try.ntmps47
  go_wp2
  go_ret
  exact ⟨rfl, rfl⟩
theorem mFault_any (R : Nat) (rest : List UInt8) (bad : Nat) (w : World) (h : RdrAt w R rest bad) :
    Calls Try.prog 32 #[.pointer (some ⟨R, 0, none⟩)] w fun e w' => e = .returned (.int .i64 (bad : Int)) ∧ w' = w := by
  obtain ⟨A, c, hh, hc, hm, hr⟩ := h
  obtain ⟨c0, c1, f0, f1⟩ := cells2 hh
  go_enter Try.func32, Try.ntmps32
  go_wp2
  go_ret
  exact ⟨rfl, rfl⟩

theorem or_step8 (n k : Nat) (x : UInt8) (hn : n < 256 ^ k) (hk : k ≤ 7) : bits .or .u64 (n : Int) (IntKind.u64.wrap ((x.toNat : Int) * 2 ^ (8 * k))) = ((n + x.toNat * 256 ^ k : Nat) : Int) := by
  have hx := u8_lt x
  have hb : x.toNat * 256 ^ k + 256 ^ k ≤ 18446744073709551616 := by
    have h1 : (x.toNat + 1) * 256 ^ k ≤ 256 * 256 ^ k := Nat.mul_le_mul_right _ (by omega)
    have h2 : 256 ^ (k + 1) ≤ 256 ^ 8 := Nat.pow_le_pow_right (by omega) (by omega)
    have h3 : (256 : Nat) ^ 8 = 18446744073709551616 := by decide
    rw [Nat.add_mul, Nat.one_mul] at h1
    rw [Nat.pow_succ] at h2
    omega
  have p : (256 : Nat) ^ k = 2 ^ (8 * k) := by rw [Nat.pow_mul]
  have e1 : ((x.toNat : Int) * 2 ^ (8 * k)) = ((x.toNat * 256 ^ k : Nat) : Int) := by rw [p]; simp
  have e2 : IntKind.u64.wrap ((x.toNat : Int) * 2 ^ (8 * k)) = ((x.toNat * 256 ^ k : Nat) : Int) := by rw [e1, IntKind.wrap_u64]; omega
  rw [e2, u64_or_nat _ _ (by omega) (by omega)]
  congr 1
  rw [p] at hn ⊢
  rw [Nat.or_comm, Nat.mul_comm, ← Nat.two_pow_add_eq_or_of_lt hn, Nat.add_comm]


theorem add256 (l : List UInt8) (k : Nat) (h : k < l.length) : leN (l.take (k + 1)) = leN (l.take k) + l[k].toNat * 256 ^ k := by
  have e : l.take (k + 1) = l.take k ++ [l[k]] := by simp
  rw [e, leN_append]
  simp [leN, Nat.min_eq_left (Nat.le_of_lt h), Nat.mul_comm]

set_option maxHeartbeats 2000000 in
theorem mFix_any (R : Nat) (rest : List UInt8) (bad : Nat) (many : Int) (w : World) (h : RdrAt w R rest bad) (hmany : many ≤ 9223372036854775807) (hmany' : -9223372036854775808 ≤ many) :
    Calls Try.prog 53 #[.pointer (some ⟨R, 0, none⟩), .int .i64 many] w fun e w' => e = .returned (.int .u64 ((sFix many (rest, bad)).1 : Int)) ∧ RdrAt w' R (sFix many (rest, bad)).2.1 (sFix many (rest, bad)).2.2 ∧ w.grownBy w' (some R) := by
  obtain ⟨A, c, hh, hc, hm, hr⟩ := h
  obtain ⟨c0, c1, f0, f1⟩ := cells2 hh
  have hm' : c ≤ 9223372036854775807 := by unfold maxLen at hm; omega
  by_cases hbad : bad = 0
  · subst hbad
    unfold sFix
    by_cases h1 : many < 0 ∨ 8 < many
    · simp only [ne_eq, not_true_eq_false, if_false, if_pos h1]
      by_cases h2 : many < 0
      · go_enter Try.func53, Try.ntmps53
        go_wp2
        go_ret
        exact ⟨rfl, RdrAt.mk1 hh hc hm hr, grown_set (p := ⟨R, 1, none⟩) _ rfl _⟩
      · have h3 : 8 < many := by omega
        go_enter Try.func53, Try.ntmps53
        go_wp2
        go_ret
        exact ⟨rfl, RdrAt.mk1 hh hc hm hr, grown_set (p := ⟨R, 1, none⟩) _ rfl _⟩
    · have h2 : 0 ≤ many := by omega
      have h3 : many ≤ 8 := by omega
      obtain ⟨m, rfl⟩ := Int.eq_ofNat_of_zero_le h2
      by_cases h4 : (rest.length : Int) < (m : Int)
      · simp only [ne_eq, not_true_eq_false, if_false, if_neg h1, if_pos h4]
        go_enter Try.func53, Try.ntmps53
        go_wp2
        go_ret
        exact ⟨rfl, RdrAt.mk1 hh hc hm hr, grown_set (p := ⟨R, 1, none⟩) _ rfl _⟩
      · simp only [ne_eq, not_true_eq_false, if_false, if_neg h1, if_neg h4, Int.toNat_natCast]
        have hle : m ≤ rest.length := by omega
        go_enter Try.func53, Try.ntmps53
        go_wp2
        go_loop [5, 36] (fun x i => ∃ k n : Nat, i = .int .i64 k ∧ x = .int .u64 n ∧ k ≤ m ∧ Hid (n = leN (rest.take k))) (fun _ i => m - (intOf i).toNat)
        case atStart => exact ⟨0, 0, rfl, rfl, Nat.zero_le _, Lib.hid (by simp [leN])⟩
        case round =>
          obtain ⟨k, n, rfl, rfl, hk, hl⟩ := hrel
          by_cases hlt : k < m
          · have hk9 : k < rest.length := by omega
            obtain ⟨b, o, rfl, hb, hcell⟩ := hr.at_ (by omega)
            have d0 := hcell k _ (bv_get rest k hk9)
            have hl2 := add256 rest k hk9
            have hnlt : n < 256 ^ k := by
              have h := leN_lt (rest.take k)
              rw [← hl.out, List.length_take, Nat.min_eq_left (by omega)] at h
              exact h
            obtain ⟨x, hx⟩ : ∃ x, x = rest[k] := ⟨_, rfl⟩
            rw [← hx] at d0 hl2
            have hx8 := u8_lt x
            have hor := or_step8 n k x hnlt (by omega)
            have HH := Lib.hid (And.intro hl2 hor)
            clear hx hcell hl2 hor hnlt
            go_wp2
            go_round
            case rel =>
              refine ⟨k + 1, n + x.toNat * 256 ^ k, by go_num, by rw [HH.out.2], by omega, Lib.hid ?_⟩
              rw [HH.out.1, hl.out]
            case measure => simp [intOf]; omega
          · have e : k = m := by omega
            subst e
            go_wp2_with (first | (refine wl_cutB (o := ⟨some 59, _, _, _, _, _⟩) rfl (.tmp 57) (.tmp 58) rfl A c k R .i64 rest rfl rfl hle hc hm hr ?_; intro A1 d1 hc1 hm1 hr1))
            go_ret
            rw [← List.length_drop, hl.out]
            exact ⟨rfl, ⟨A1, d1, set0 hh, hc1, hm1, hr1.setCell (Nat.le_refl _) _⟩, grown_set (p := ⟨R, 0, none⟩) _ rfl _⟩
  · have es : sFix many (rest, bad) = (0, rest, bad) := by simp [sFix, hbad]
    rw [es]
    have hb' : (((bad : Int)) == 0) = false := by rw [beq_eq_false_iff_ne]; omega
    go_enter Try.func53, Try.ntmps53
    go_wp2
    go_ret
    exact ⟨rfl, ⟨A, c, hh, hc, hm, hr⟩, gself _ _⟩
end Go.Proofs.Ytoccmedadiangaa
