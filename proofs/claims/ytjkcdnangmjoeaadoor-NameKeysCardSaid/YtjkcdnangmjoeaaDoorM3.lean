/-
  What is proved here: what the codec's laying functions come to, at this seat's numbers: Num, Str, Fix lay behind a copy of the bytes. Conditions: the lengths together below 2^47.
  what the reference's laying functions (tantalusref01: Groups, Num, Str, Fix) come to, at this seat's numbers. Conditions: a text shorter than 2^47 - 16.
  what the codec's reader comes to, at this seat's numbers: New, number, and the reader's methods. Conditions: the bytes' length below 2^47.
  what the program's and the reference's Lay (of a head) come to, at this seat's numbers. No condition but the head's numbers.
  what Nonce of package name (and of the reference) comes to, at this seat's numbers. No condition.
  what Take of package name and of the reference comes to (the head that stands ahead of bytes), at this seat's numbers. Condition: the bytes' length.
  what shown of tantaluslaw07 comes to, at this seat's numbers. No condition.
  heads, and nonces, are compared: true just if they are the same, at this seat's numbers. No condition.
-/
import Derived.Test.YtjkcdnangmjoeaaDoorByte
import Derived.Test.YtjkcdnangmjoeaaDoorNumLaw
import Derived.Test.YtjkcdnangmjoeaaDoorM1
import Derived.Test.YtjkcdnangmjoeaaDoorEnt
import Derived.BigQuiet
import Derived.Test.YtjkcdnangmjoeaaDoorM2
import Derived.Lib.SmallJoins
import Derived.Deep.DeepCutAuto
import Derived.Deep.CutBlock
import Derived.Laws.CopyOwn
import Derived.Test.YtjkcdnangmjoeaaDoorRegion
import Derived.Laws.OwnMore
import Derived.DeepKeys
namespace Go.Proofs.YtjkcdnangmjoeaaDoor
open Go.RowKit

theorem num_rel {k : Nat} (l m : List UInt8) (h : 127 < k) (hk : k < 18446744073709551616) (e : l ++ num k = m) : (l ++ [UInt8.ofNat (k % 128 + 128)]) ++ num (k / 128) = m := by
  rw [← e, num_step k h hk]; simp



set_option maxHeartbeats 1000000 in
theorem cFix_any (v : Value) (bs : List UInt8) (n : Nat) (many : Int) (w : World) (hv : SB w w.heap.size v bs) (hm : bs.length + 10 ≤ 140737488355328) (hn : n < 18446744073709551616) (h1 : -9223372036854775808 ≤ many) (h2 : many ≤ 9223372036854775807) :
    Calls Tryd.prog 26 #[v, .int .u64 n, .int .i64 many] w fun e w' => ∃ r, e = .returned r ∧ OB w' w.heap.size r (bs ++ fix n (fixN many)) ∧ Below w.heap.size w w' := by
  have hnl := fixN_le many
  have f1 : 8 < many → 8 ≤ fixN many := by unfold fixN; omega
  have f2 : many ≤ 8 → many ≤ (fixN many : Int) := by unfold fixN; omega
  have f3 : 0 ≤ many → (fixN many : Int) ≤ many := by unfold fixN; omega
  have f4 : many ≤ 0 → fixN many ≤ 0 := by unfold fixN; omega
  go_enter Tryd.func26, Tryd.ntmps26
  go_wp2_with (at_builtin; refine wl_appB rfl (.tmp 8) (.tmp 9) rfl w.heap.size _ [] rfl (OB.lit0 w (Nat.le_refl _)) w.heap.size v bs rfl (hv.alloc (Nat.le_refl _) _) (by simp; omega) (by simp) ?_; intro v1 w1 hown1 _ _ hb1)
  all_goals
    have hb : Below w.heap.size w w1 := ((Below.refl _ _).alloc (Nat.le_refl _) _).trans hb1
    clear hb1
    go_loopw [1, 7, 14] (fun x v i wr => ∃ k j : Nat, x = .int .u64 k ∧ i = .int .i64 j ∧ k < 18446744073709551616 ∧ j ≤ fixN many ∧ ∃ l, OB wr w.heap.size v (bs ++ l) ∧ Hid (l ++ fix k (fixN many - j) = fix n (fixN many)) ∧ l.length ≤ j ∧ Below w.heap.size w wr) (fun _ _ i _ => 8 - (intOf i).toNat)
    case atStart => exact ⟨n, 0, rfl, rfl, hn, Nat.zero_le _, [], by simpa using hown1, rfl, by simp, hb⟩
    case round =>
      obtain ⟨k, j, rfl, rfl, hk, hj, l, hown, hl, hll, hbr⟩ := hrel
      have hsz := hbr.size
      by_cases hlt : j < fixN many
      · go_wp2_with (at_builtin; refine wl_app1 rfl (.tmp 16) (.tmp 19) rfl w.heap.size _ (bs ++ l) rfl hown _ (UInt8.ofNat k) (congrArg _ (byte_of k)) rfl rfl (by simp; omega) hsz ?_; intro v2 w2 hown2 _ _ hb2)
        all_goals
          go_roundw
          case rel => exact ⟨k / 256, j + 1, by go_num, by go_num, by omega, by omega, l ++ [UInt8.ofNat k], by simpa using hown2, fix_rel l hl.out hlt, by simp; omega, hbr.trans hb2⟩
          case measure => simp [intOf]; omega
      · go_wp2
        all_goals
          go_ret
          refine ⟨_, rfl, ?_, hbr⟩
          rw [← hl.out, show fixN many - j = 0 from by omega, fix, List.append_nil]
          exact hown
end Go.Proofs.YtjkcdnangmjoeaaDoor

namespace Go.Proofs.YtjkcdnangmjoeaaDoor
open Go.RowKit


theorem rNum_rel {n m i : Nat} (hn : m < 18446744073709551616) (hi : i < (num n).length) (h : num m = (num n).drop i) :
    (i + 1 < (num n).length → (num n).take (i + 1) = (num n).take i ++ [UInt8.ofNat (m % 128 + 128)] ∧ num (m / 128) = (num n).drop (i + 1)) ∧
    (¬ i + 1 < (num n).length → (num n).take (i + 1) = (num n).take i ++ [UInt8.ofNat (m % 128)] ∧ m ≤ 127) := by
  have hml : (num m).length = (num n).length - i := by rw [h, List.length_drop]
  have ht : (num n).take (i + 1) = (num n).take i ++ [(num n)[i]] := by rw [List.take_succ_eq_append_getElem hi]
  have hd : (num n).drop i = (num n)[i] :: (num n).drop (i + 1) := List.drop_eq_getElem_cons hi
  rw [hd] at h
  constructor
  · intro h1
    have h127 : 127 < m := by
      rcases Nat.lt_or_ge 127 m with h2 | h2
      · exact h2
      · rw [num_small m h2] at hml; simp at hml; omega
    rw [num_step m h127 hn] at h
    injection h with ha hb
    exact ⟨by rw [ht, ← ha], hb⟩
  · intro h1
    have h127 : m ≤ 127 := by
      rcases Nat.lt_or_ge 127 m with h2 | h2
      · rw [num_step m h2 hn] at hml
        have := num_length (m / 128)
        simp at hml; omega
      · exact h2
    rw [num_small m h127] at h
    injection h with ha hb
    exact ⟨by rw [ht, ← ha, Nat.mod_eq_of_lt (by omega)], h127⟩



set_option maxHeartbeats 1000000 in
theorem rFix_any (n : Nat) (many : Int) (w : World) (hn : n < 18446744073709551616) (h1 : -9223372036854775808 ≤ many) (h2 : many ≤ 9223372036854775807) :
    Calls Tryd.prog 16 #[.int .u64 n, .int .i64 many] w fun e w' => ∃ r, e = .returned r ∧ OB w' w.heap.size r (fix n (fixN many)) ∧ Below w.heap.size w w' := by
  have hnl := fixN_le many
  have f2 : many ≤ 8 → many ≤ (fixN many : Int) := by unfold fixN; omega
  have f3 : 0 ≤ many → (fixN many : Int) ≤ many := by unfold fixN; omega
  have f4 : many ≤ 0 → fixN many ≤ 0 := by unfold fixN; omega
  have f1 : 8 < many → 8 ≤ fixN many := by unfold fixN; omega
  go_enter Tryd.func16, Tryd.ntmps16
  go_wp2
  go_loopw [0, 5, 6] (fun x v i wr => ∃ k j : Nat, x = .int .u64 k ∧ i = .int .i64 j ∧ k < 18446744073709551616 ∧ j ≤ fixN many ∧ ∃ l, OB wr w.heap.size v l ∧ Hid (l ++ fix k (fixN many - j) = fix n (fixN many)) ∧ l.length ≤ j ∧ Below w.heap.size w wr) (fun _ _ i _ => 8 - (intOf i).toNat)
  case atStart => exact ⟨n, 0, rfl, rfl, hn, Nat.zero_le _, [], OB.nil_ _ _, rfl, by simp, Below.refl _ _⟩
  case round =>
    obtain ⟨k, j, rfl, rfl, hk, hj, l, hown, hl, hll, hbr⟩ := hrel
    have hsz := hbr.size
    by_cases hlt : j < fixN many
    · have g1 : (j : Int) < many := by omega
      have g2 : j < 8 := by omega
      go_wp2_with (at_builtin; refine wl_app1 rfl (.tmp 16) (.tmp 20) rfl w.heap.size _ l rfl hown _ (UInt8.ofNat k) (congrArg _ (byte_of k)) rfl rfl (by omega) hsz ?_; intro v2 w2 hown2 _ _ hb2)
      go_roundw
      case rel => exact ⟨k / 256, j + 1, by go_num, by go_num, by omega, by omega, l ++ [UInt8.ofNat k], hown2, fix_rel l hl.out hlt, by simp; omega, hbr.trans hb2⟩
      case measure => simp [intOf]; omega
    · have hfin := hl.out
      rw [show fixN many - j = 0 from by omega, fix, List.append_nil] at hfin
      have HF := Lib.hid hfin
      clear hfin
      by_cases g1 : (j : Int) < many
      · have g2 : ¬ ((j : Int) < 8) := by omega
        go_wp2
        go_ret
        exact ⟨_, rfl, HF.out ▸ hown, hbr⟩
      · go_wp2
        go_ret
        exact ⟨_, rfl, HF.out ▸ hown, hbr⟩
end Go.Proofs.YtjkcdnangmjoeaaDoor

namespace Go.Proofs.YtjkcdnangmjoeaaDoor
open Go.RowKit

/-- BLOCK R IS A READER: what is left, its fault -/
def RdrAt (w : World) (R : Nat) (rest : List UInt8) (bad : Nat) : Prop :=
  ∃ A c, w.heap[R]? = some (.cells #[.slice A rest.length c, .int .i64 (bad : Int)] 60 (0, 0)) ∧ rest.length ≤ c ∧ c ≤ maxLen ∧ Rd w R 1 A rest.length (bv rest)
section
variable {w w' : World} {R B : Nat} {rest : List UInt8} {bad : Nat}
theorem RdrAt.lt (h : RdrAt w R rest bad) : R < w.heap.size := by
  obtain ⟨A, c, h, _⟩ := h
  exact (Array.getElem?_eq_some_iff.1 h).1
theorem RdrAt.on (h : RdrAt w R rest bad) (hb : Below B w w') (hB : w.heap.size ≤ B) : RdrAt w' R rest bad := by
  have hlt := h.lt
  obtain ⟨A, c, h1, h2, h3, h4⟩ := h
  exact ⟨A, c, (hb.block R (by omega)).trans h1, h2, h3, h4.keep fun p hp => hb.cell (by omega)⟩
theorem RdrAt.far (h : RdrAt w R rest bad) {row : Option Nat} (hg : w.grownBy w' row) (hr : ∀ g, row = some g → R < g) : RdrAt w' R rest bad := by
  have hlt := h.lt
  obtain ⟨A, c, h1, h2, h3, h4⟩ := h
  refine ⟨A, c, (hg.block R hlt (fun e => by have := hr R e.symm; omega)).trans h1, h2, h3, h4.keep fun p hp => World.cell?_of_block (hg.block p.block (by omega) (fun e => by have := hr _ e.symm; omega))⟩
theorem RdrAt.drewN (h : RdrAt w R rest bad) (k : Nat) : RdrAt (w.drewN k) R rest bad := h
end
theorem set0 {w : World} {R : Nat} {a b u : Value} {T : TypeId} (h : w.heap[R]? = some (.cells #[a, b] T (0, 0))) : (w.setCell ⟨R, 0, none⟩ u).heap[R]? = some (.cells #[u, b] T (0, 0)) := by
  simp [World.setCell, Array.getElem?_modify, h]
theorem set1 {w : World} {R : Nat} {a b u : Value} {T : TypeId} (h : w.heap[R]? = some (.cells #[a, b] T (0, 0))) : (w.setCell ⟨R, 1, none⟩ u).heap[R]? = some (.cells #[a, u] T (0, 0)) := by
  simp [World.setCell, Array.getElem?_modify, h]
theorem cells2 {w : World} {R : Nat} {a b : Value} {T : TypeId} (h : w.heap[R]? = some (.cells #[a, b] T (0, 0))) : w.cell? ⟨R, 0, none⟩ = some a ∧ w.cell? ⟨R, 1, none⟩ = some b ∧ w.frozen? ⟨R, 0, none⟩ = false ∧ w.frozen? ⟨R, 1, none⟩ = false := by
  refine ⟨cell_of_row w R 0 _ _ _ h, cell_of_row w R 1 _ _ _ h, ?_, ?_⟩ <;> simp [World.frozen?, h]

/-- block R is a reader, as far as the blocks from L on stand -/
def RdrFrom (L : Nat) (w : World) (R : Nat) (rest : List UInt8) (bad : Nat) : Prop :=
  ∀ w' : World, (∀ g, L ≤ g → g < w.heap.size → w'.heap[g]? = w.heap[g]?) → RdrAt w' R rest bad
theorem RdrFrom.at_ {L : Nat} {w : World} {R : Nat} {rest : List UInt8} {bad : Nat} (h : RdrFrom L w R rest bad) : RdrAt w R rest bad := h w fun _ _ _ => rfl
theorem RdrFrom.far {L : Nat} {w w' : World} {R : Nat} {rest : List UInt8} {bad g : Nat} (h : RdrFrom L w R rest bad) (hg : w.grownBy w' (some g)) (hL : g < L) : RdrFrom L w' R rest bad := fun w2 h2 =>
  h w2 fun k hk hs => (h2 k hk (Nat.lt_of_lt_of_le hs hg.size)).trans (hg.block k hs (fun e => by injection e with e; omega))
theorem cNew_any (v : Value) (bs : List UInt8) (w : World) (hv : SB w w.heap.size v bs) (hm : bs.length ≤ 140737488355328) :
    Calls Tryd.prog 20 #[v] w fun e w' => ∃ R, e = .returned (.pointer (some ⟨R, 0, none⟩)) ∧ w.heap.size ≤ R ∧ RdrFrom w.heap.size w' R bs 0 ∧ Below w.heap.size w w' := by
  go_enter Tryd.func20, Tryd.ntmps20
  go_wp2_with (at_builtin; refine wl_appB rfl (.tmp 3) (.tmp 4) rfl w.heap.size _ [] rfl (OB.lit0 w (Nat.le_refl _)) w.heap.size v bs rfl (hv.alloc (Nat.le_refl _) _) (by simp; omega) (by simp) ?_; intro v1 w1 hown1 _ _ hb1; have hlt1 := hown1.lt; obtain ⟨A1, c1, rfl, hc1, hm1, hr1⟩ := hown1.sb)
  go_ret
  have hb : Below w.heap.size w w1 := ((Below.refl _ _).alloc (Nat.le_refl _) _).trans hb1
  refine ⟨w1.heap.size, rfl, hb.size, fun w2 h2 => ⟨A1, c1, (h2 _ hb.size (by simp)).trans (heap_alloc_new w1 _), hc1, hm1, hr1.1, hr1.2.1, fun ad e hn => ?_⟩, balloc hb _⟩
  have hr2 := hr1.alloc (Nat.le_refl _) (.cells #[.slice A1 bs.length c1, .int .i64 0] 60 (0, 0))
  obtain ⟨hs, hbl, hcell⟩ := hr2.2.2 ad e hn
  refine ⟨hs, hbl, fun j u hu => (World.cell?_of_block (a := ⟨ad.block, ad.off + j, none⟩) (h2 ad.block ?_ (by simp; omega))).trans (hcell j u hu)⟩
  exact (hlt1 ad.block (by rw [e]; rfl)).1

theorem and127 : ∀ a : Nat, a < 256 → a &&& 127 = a % 128 := by decide +kernel
theorem u8_and127 (x : UInt8) : bits .and .u8 (x.toNat : Int) 127 = ((x.toNat % 128 : Nat) : Int) := by
  have h := u8_lt x
  rw [show (127 : Int) = ((127 : Nat) : Int) from rfl, u8_and_nat _ _ h (by omega), and127 _ h]

theorem pow128 (k : Nat) : (128 : Nat) ^ k = 2 ^ (7 * k) := by rw [Nat.pow_mul]
set_option maxRecDepth 100000 in
/-- a group of seven bits laid over what was gathered -/
theorem or_step (n k : Nat) (x : UInt8) (hn : n < 128 ^ k) (hk : k ≤ 9) (hx : k = 9 → x.toNat ≤ 1) :
    bits .or .u64 (n : Int) (IntKind.u64.wrap ((x.toNat : Int) % 128 * 2 ^ (7 * k))) = ((n + x.toNat % 128 * 128 ^ k : Nat) : Int) := by
  have hb : x.toNat % 128 * 128 ^ k + 128 ^ k ≤ 18446744073709551616 := by
    rcases Nat.lt_or_ge k 9 with h | h
    · have h1 : x.toNat % 128 * 128 ^ k ≤ 127 * 128 ^ k := Nat.mul_le_mul_right _ (by omega)
      have h2 : 128 ^ (k + 1) ≤ 128 ^ 9 := Nat.pow_le_pow_right (by omega) (by omega)
      have h3 : (128 : Nat) ^ 9 ≤ 18446744073709551616 := by decide
      rw [Nat.pow_succ] at h2
      omega
    · have e : k = 9 := by omega
      have h4 := hx e
      have h5 : x.toNat % 128 * 128 ^ k ≤ 1 * 128 ^ k := Nat.mul_le_mul_right _ (by omega)
      have h6 : (128 : Nat) ^ k = 9223372036854775808 := by rw [e]
      have key : ∀ q p : Nat, q ≤ 1 * p → p = 9223372036854775808 → q + p ≤ 18446744073709551616 := by intro q p h1 h2; omega
      exact key _ _ h5 h6
  have e1 : ((x.toNat : Int) % 128 * 2 ^ (7 * k)) = ((x.toNat % 128 * 128 ^ k : Nat) : Int) := by rw [pow128]; simp
  have e2 : IntKind.u64.wrap ((x.toNat : Int) % 128 * 2 ^ (7 * k)) = ((x.toNat % 128 * 128 ^ k : Nat) : Int) := by
    rw [e1, IntKind.wrap_u64]; omega
  rw [e2, u64_or_nat _ _ (by omega) (by omega)]
  congr 1
  rw [pow128] at hn ⊢
  rw [Nat.or_comm, Nat.mul_comm, ← Nat.two_pow_add_eq_or_of_lt hn, Nat.add_comm]
theorem or_step9 (n : Nat) (x : UInt8) (hn : n < 128 ^ 9) (hx : x.toNat ≤ 1) : bits .or .u64 (n : Int) ((x.toNat : Int) % 128 * 9223372036854775808) = ((n + x.toNat % 128 * 128 ^ 9 : Nat) : Int) := by
  have h := or_step n 9 x hn (by omega) (fun _ => hx)
  have p : (2 : Int) ^ (7 * 9) = 9223372036854775808 := by decide
  rw [p] at h
  have e : IntKind.u64.wrap ((x.toNat : Int) % 128 * 9223372036854775808) = (x.toNat : Int) % 128 * 9223372036854775808 := by rw [IntKind.wrap_u64]; omega
  rw [e] at h
  exact h
theorem ret3 {k1 k2 k3 : IntKind} {a b c a' b' c' : Int} (h1 : a = a') (h2 : b = b') (h3 : c = c') : Ending.returned (.tuple #[.int k1 a, .int k2 b, .int k3 c]) = Ending.returned (.tuple #[.int k1 a', .int k2 b', .int k3 c']) := by rw [h1, h2, h3]


theorem sb_of {w : World} {B : Nat} {A : Option Addr} {c : Nat} {l : List UInt8} (h1 : l.length ≤ c) (h2 : c ≤ maxLen) (h : Rd w B 1 A l.length (bv l)) : SB w B (.slice A l.length c) l := ⟨A, c, rfl, h1, h2, h⟩
theorem rd_cut {w : World} {B : Nat} {A : Option Addr} {c k : Nat} {l : List UInt8} (hc : l.length ≤ c) (hk : k ≤ l.length) (h : Rd w B 1 A l.length (bv l)) : Rd w B 1 (if c = k then A else A.map (·.add k)) (l.drop k).length (bv (l.drop k)) := by
  have := h.cut hk hc
  rw [Nat.mul_one] at this
  rw [bv_drop, List.length_drop]
  exact this

section
variable {ops : Array Oper} {rest : List Oper} {o : Oper} {a : Act} {Q : Exit → Act → World → Prop} {w : World}
theorem run_cutB (w : World) (A : Option Addr) (n c k : Nat) (kl : IntKind) (hk : k ≤ n) : (Instr.sliceAt 40 (.slice A n c) (some (.int kl (k : Int))) none none).run Tryd.prog w = .ok (.slice (if c = k then A else A.map (·.add k)) (n - k) (c - k)) w := by
  rw [run_sliceAt_slice w 40 _ _ _ _ Tryd.underlying40, run_slice_l w 40 A n c Tryd.underlying40 kl k (by omega) (by omega)]
  simp [go_sem, sliced]
theorem run_takeB (w : World) (A : Option Addr) (n c lo hi : Nat) (kl kh : IntKind) (h1 : lo ≤ hi) (h2 : hi ≤ c) : (Instr.sliceAt 40 (.slice A n c) (some (.int kl (lo : Int))) (some (.int kh (hi : Int))) none).run Tryd.prog w = .ok (.slice (if c = lo then A else A.map (·.add lo)) (hi - lo) (c - lo)) w := by
  rw [run_sliceAt_slice w 40 _ _ _ _ Tryd.underlying40, run_slice_lh w 40 A n c Tryd.underlying40 kl kh lo hi (by omega) (by omega) (by omega)]
  simp [go_sem, sliced]
/-- 'x[k:]' -/
theorem wl_cutB (hgd : Region.wanted o (yielded ops a.tmps) = true) (x lo : Operand) (ho : o.op = .slice 40 x (some lo) none none) (A : Option Addr) (c k B : Nat) (kl : IntKind) (l : List UInt8) (hx : a.eval x = .slice A l.length c) (hlo : a.eval lo = .int kl (k : Int)) (hk : k ≤ l.length) (hc : l.length ≤ c) (hcm : c ≤ maxLen) (hr : Rd w B 1 A l.length (bv l))
    (h : ∀ A' c', (l.drop k).length ≤ c' → c' ≤ maxLen → Rd w B 1 A' (l.drop k).length (bv (l.drop k)) → wpList Tryd.prog ops Q rest (a.put o.dst (.slice A' (l.drop k).length c')) w) : wpList Tryd.prog ops Q (o :: rest) a w := by
  refine wl_of hgd fun K hK => ?_
  unfold Oper.wp execOp
  simp only [ho, hx, hlo, Sem.run_bind, Sem.run_pure, Result.andThen_ok, Option.map_some, Option.map_none, run_cutB w A l.length c k kl hk]
  refine hK _ _ ?_
  have e : l.length - k = (l.drop k).length := by rw [List.length_drop]
  rw [e]
  exact h _ _ (by rw [← e]; omega) (by omega) (rd_cut hc hk hr)
/-- 'x[lo:hi]' -/
theorem wl_takeB (hgd : Region.wanted o (yielded ops a.tmps) = true) (x lo hi : Operand) (ho : o.op = .slice 40 x (some lo) (some hi) none) (A : Option Addr) (c i j B : Nat) (kl kh : IntKind) (l : List UInt8) (hx : a.eval x = .slice A l.length c) (hlo : a.eval lo = .int kl (i : Int)) (hhi : a.eval hi = .int kh (j : Int)) (hij : i ≤ j) (hj : j ≤ l.length) (hc : l.length ≤ c) (hcm : c ≤ maxLen) (hr : Rd w B 1 A l.length (bv l))
    (h : ∀ v', SB w B v' ((l.take j).drop i) → wpList Tryd.prog ops Q rest (a.put o.dst v') w) : wpList Tryd.prog ops Q (o :: rest) a w := by
  refine wl_of hgd fun K hK => ?_
  unfold Oper.wp execOp
  simp only [ho, hx, hlo, hhi, Sem.run_bind, Sem.run_pure, Result.andThen_ok, Option.map_some, Option.map_none, run_takeB w A l.length c i j kl kh hij (by omega)]
  refine hK _ _ (h _ ?_)
  have e1 : (l.take j).length = j := by rw [List.length_take]; omega
  have h1 : Rd w B 1 A (l.take j).length (bv (l.take j)) := by
    have := hr.take hj
    rw [Nat.mul_one] at this
    rw [bv_take, e1]; exact this
  have h2 := rd_cut (c := c) (k := i) (by omega) (by omega) h1
  have e : j - i = ((l.take j).drop i).length := by rw [List.length_drop, e1]
  exact ⟨_, c - i, by rw [e], by rw [← e]; omega, by omega, h2⟩
end


theorem RdrAt.mk2 {w : World} {R c : Nat} {A : Option Addr} {rest : List UInt8} {bad : Nat} {u v : Value} (hh : w.heap[R]? = some (.cells #[u, v] 60 (0, 0))) (hc : rest.length ≤ c) (hm : c ≤ maxLen) (hr : Rd w R 1 A rest.length (bv rest)) :
    RdrAt ((w.setCell ⟨R, 1, none⟩ (.int .i64 (bad : Int))).setCell ⟨R, 0, none⟩ (.slice A rest.length c)) R rest bad :=
  ⟨A, c, set0 (set1 hh), hc, hm, (hr.setCell (Nat.le_refl _) _).setCell (Nat.le_refl _) _⟩
theorem RdrAt.mk1 {w : World} {R c : Nat} {A : Option Addr} {rest : List UInt8} {bad : Nat} {v : Value} (hh : w.heap[R]? = some (.cells #[.slice A rest.length c, v] 60 (0, 0))) (hc : rest.length ≤ c) (hm : c ≤ maxLen) (hr : Rd w R 1 A rest.length (bv rest)) :
    RdrAt (w.setCell ⟨R, 1, none⟩ (.int .i64 (bad : Int))) R rest bad :=
  ⟨A, c, set1 hh, hc, hm, hr.setCell (Nat.le_refl _) _⟩
theorem RdrAt.mk0 {w : World} {R c : Nat} {A : Option Addr} {rest : List UInt8} {bad : Nat} {u : Value} (hh : w.heap[R]? = some (.cells #[u, .int .i64 (bad : Int)] 60 (0, 0))) (hc : rest.length ≤ c) (hm : c ≤ maxLen) (hr : Rd w R 1 A rest.length (bv rest)) :
    RdrAt (w.setCell ⟨R, 0, none⟩ (.slice A rest.length c)) R rest bad :=
  ⟨A, c, set0 hh, hc, hm, hr.setCell (Nat.le_refl _) _⟩
/-- what grows by one block leaves what lies below it -/
theorem gbelow {w w' : World} {g B : Nat} (h : w.grownBy w' (some g)) (hg : g ≤ w.heap.size) (hB : B ≤ g) : Below B w w' := below_grown (Below.refl B w) h (by omega) (fun k e => by injection e with e; omega)
theorem gself (w : World) (row : Option Nat) : w.grownBy w row := ⟨rfl, rfl, rfl, Nat.le_refl _, fun _ _ _ => rfl⟩
theorem gset2 (w : World) (R : Nat) (u v : Value) : w.grownBy ((w.setCell ⟨R, 1, none⟩ u).setCell ⟨R, 0, none⟩ v) (some R) := (grown_set (p := ⟨R, 1, none⟩) w rfl u).trans (grown_set (p := ⟨R, 0, none⟩) _ rfl v)


theorem mFix_nil (many : Int) (w : World) : Calls Tryd.prog 21 #[.pointer none, .int .i64 many] w fun e w' => e = .returned (.int .u64 0) ∧ w' = w := by
  go_enter Tryd.func21, Tryd.ntmps21
  go_wp2
  go_ret
  exact ⟨rfl, rfl⟩

theorem or_step8 (n k : Nat) (x : UInt8) (hn : n < 256 ^ k) (hk : k ≤ 7) : bits .or .u64 (n : Int) (IntKind.u64.wrap ((x.toNat : Int) * 2 ^ (8 * k))) = ((n + x.toNat * 256 ^ k : Nat) : Int) := by
  have hx := u8_lt x
  have hb : x.toNat * 256 ^ k + 256 ^ k ≤ 18446744073709551616 := by
    have h1 : (x.toNat + 1) * 256 ^ k ≤ 256 * 256 ^ k := Nat.mul_le_mul_right _ (by omega)
    have h2 : 256 ^ (k + 1) ≤ 256 ^ 8 := Nat.pow_le_pow_right (by omega) (by omega)
    have h3 : (256 : Nat) ^ 8 = 18446744073709551616 := by decide
    rw [Nat.add_mul, Nat.one_mul] at h1
    rw [Nat.pow_succ] at h2
    omega
  have p : (256 : Nat) ^ k = 2 ^ (8 * k) := by rw [Nat.pow_mul]
  have e1 : ((x.toNat : Int) * 2 ^ (8 * k)) = ((x.toNat * 256 ^ k : Nat) : Int) := by rw [p]; simp
  have e2 : IntKind.u64.wrap ((x.toNat : Int) * 2 ^ (8 * k)) = ((x.toNat * 256 ^ k : Nat) : Int) := by rw [e1, IntKind.wrap_u64]; omega
  rw [e2, u64_or_nat _ _ (by omega) (by omega)]
  congr 1
  rw [p] at hn ⊢
  rw [Nat.or_comm, Nat.mul_comm, ← Nat.two_pow_add_eq_or_of_lt hn, Nat.add_comm]


theorem add256 (l : List UInt8) (k : Nat) (h : k < l.length) : leN (l.take (k + 1)) = leN (l.take k) + l[k].toNat * 256 ^ k := by
  have e : l.take (k + 1) = l.take k ++ [l[k]] := by simp
  rw [e, leN_append]
  simp [leN, Nat.min_eq_left (Nat.le_of_lt h), Nat.mul_comm]

set_option maxHeartbeats 2000000 in
theorem mFix_any (R : Nat) (rest : List UInt8) (bad : Nat) (many : Int) (w : World) (h : RdrAt w R rest bad) (hmany : many ≤ 9223372036854775807) (hmany' : -9223372036854775808 ≤ many) :
    Calls Tryd.prog 21 #[.pointer (some ⟨R, 0, none⟩), .int .i64 many] w fun e w' => e = .returned (.int .u64 ((sFix many (rest, bad)).1 : Int)) ∧ RdrAt w' R (sFix many (rest, bad)).2.1 (sFix many (rest, bad)).2.2 ∧ w.grownBy w' (some R) := by
  obtain ⟨A, c, hh, hc, hm, hr⟩ := h
  obtain ⟨c0, c1, f0, f1⟩ := cells2 hh
  have hm' : c ≤ 9223372036854775807 := by unfold maxLen at hm; omega
  by_cases hbad : bad = 0
  · subst hbad
    unfold sFix
    by_cases h1 : many < 0 ∨ 8 < many
    · simp only [ne_eq, not_true_eq_false, if_false, if_pos h1]
      by_cases h2 : many < 0
      · go_enter Tryd.func21, Tryd.ntmps21
        go_wp2
        go_ret
        exact ⟨rfl, RdrAt.mk1 hh hc hm hr, grown_set (p := ⟨R, 1, none⟩) _ rfl _⟩
      · have h3 : 8 < many := by omega
        go_enter Tryd.func21, Tryd.ntmps21
        go_wp2
        go_ret
        exact ⟨rfl, RdrAt.mk1 hh hc hm hr, grown_set (p := ⟨R, 1, none⟩) _ rfl _⟩
    · have h2 : 0 ≤ many := by omega
      have h3 : many ≤ 8 := by omega
      obtain ⟨m, rfl⟩ := Int.eq_ofNat_of_zero_le h2
      by_cases h4 : (rest.length : Int) < (m : Int)
      · simp only [ne_eq, not_true_eq_false, if_false, if_neg h1, if_pos h4]
        go_enter Tryd.func21, Tryd.ntmps21
        go_wp2
        go_ret
        exact ⟨rfl, RdrAt.mk1 hh hc hm hr, grown_set (p := ⟨R, 1, none⟩) _ rfl _⟩
      · simp only [ne_eq, not_true_eq_false, if_false, if_neg h1, if_neg h4, Int.toNat_natCast]
        have hle : m ≤ rest.length := by omega
        go_enter Tryd.func21, Tryd.ntmps21
        go_wp2
        go_loop [5, 36] (fun x i => ∃ k n : Nat, i = .int .i64 k ∧ x = .int .u64 n ∧ k ≤ m ∧ Hid (n = leN (rest.take k))) (fun _ i => m - (intOf i).toNat)
        case atStart => exact ⟨0, 0, rfl, rfl, Nat.zero_le _, Lib.hid (by simp [leN])⟩
        case round =>
          obtain ⟨k, n, rfl, rfl, hk, hl⟩ := hrel
          by_cases hlt : k < m
          · have hk9 : k < rest.length := by omega
            obtain ⟨b, o, rfl, hb, hcell⟩ := hr.at_ (by omega)
            have d0 := hcell k _ (bv_get rest k hk9)
            have hl2 := add256 rest k hk9
            have hnlt : n < 256 ^ k := by
              have h := leN_lt (rest.take k)
              rw [← hl.out, List.length_take, Nat.min_eq_left (by omega)] at h
              exact h
            obtain ⟨x, hx⟩ : ∃ x, x = rest[k] := ⟨_, rfl⟩
            rw [← hx] at d0 hl2
            have hx8 := u8_lt x
            have hor := or_step8 n k x hnlt (by omega)
            have HH := Lib.hid (And.intro hl2 hor)
            clear hx hcell hl2 hor hnlt
            go_wp2
            go_round
            case rel =>
              refine ⟨k + 1, n + x.toNat * 256 ^ k, by go_num, by rw [HH.out.2], by omega, Lib.hid ?_⟩
              rw [HH.out.1, hl.out]
            case measure => simp [intOf]; omega
          · have e : k = m := by omega
            subst e
            go_wp2_with (first | (refine wl_cutB (o := ⟨some 59, _, _, _, _, _⟩) rfl (.tmp 57) (.tmp 58) rfl A c k R .i64 rest rfl rfl hle hc hm hr ?_; intro A1 d1 hc1 hm1 hr1))
            go_ret
            rw [← List.length_drop, hl.out]
            exact ⟨rfl, ⟨A1, d1, set0 hh, hc1, hm1, hr1.setCell (Nat.le_refl _) _⟩, grown_set (p := ⟨R, 0, none⟩) _ rfl _⟩
  · have es : sFix many (rest, bad) = (0, rest, bad) := by simp [sFix, hbad]
    rw [es]
    have hb' : (((bad : Int)) == 0) = false := by rw [beq_eq_false_iff_ne]; omega
    go_enter Tryd.func21, Tryd.ntmps21
    go_wp2
    go_ret
    exact ⟨rfl, ⟨A, c, hh, hc, hm, hr⟩, gself _ _⟩
end Go.Proofs.YtjkcdnangmjoeaaDoor

namespace Go.Proofs.YtjkcdnangmjoeaaDoor
open Go.RowKit

/-- bytes laid just now -/
theorem OB.litV {base : Nat} (W : World) (l : List UInt8) (cs : Array Value) (hu : cs = (bv l).toArray) {g n : Nat} (hg : g = W.heap.size) (hn : n = l.length) (hb : base ≤ W.heap.size) (hl : l.length ≤ maxLen) : OB (W.alloc (.cells cs 5)) base (.slice (some ⟨g, 0, none⟩) n n) l := by
  subst hu; subst hg; subst hn
  exact OB.lit W l hb hl
theorem SB.litV {B : Nat} (W : World) (l : List UInt8) (cs : Array Value) (hu : cs = (bv l).toArray) {g n : Nat} (hg : g = W.heap.size) (hn : n = l.length) (hb : g < B) (hl : l.length ≤ maxLen) : SB (W.alloc (.cells cs 5)) B (.slice (some ⟨g, 0, none⟩) n n) l := by
  have h : OB _ 0 _ _ := OB.litV W l cs hu hg hn (Nat.zero_le _) hl
  exact Sl.more h.sb (by simp; omega)
theorem two_b {k lv : Nat} (h1 : k < 256) (h2 : lv < 256) : #[Value.int .u8 (k : Int), .int .u8 (lv : Int)] = (bv [UInt8.ofNat k, UInt8.ofNat lv]).toArray := by
  simp [bv, u8v, UInt8.toNat_ofNat']
  omega
/-- what is laid behind i numbers -/
def layP (h : Hd) : Nat → List UInt8
  | 0 => sTant ++ [UInt8.ofNat h.k, UInt8.ofNat h.lv]
  | 1 => sTant ++ [UInt8.ofNat h.k, UInt8.ofNat h.lv] ++ fix h.g 8
  | 2 => sTant ++ [UInt8.ofNat h.k, UInt8.ofNat h.lv] ++ fix h.g 8 ++ fix h.e 8
  | _ => layH h
theorem layP_len (h : Hd) (i : Nat) : (layP h i).length ≤ 30 := by
  unfold layP
  split <;> simp [sTant, fix_length, layH_len]
theorem run_idx3 (a b c : Nat) (i : Nat) (hi : i < 3) (w : World) : (Instr.index 57 (.agg #[.int .u64 (a : Int), .int .u64 (b : Int), .int .u64 (c : Int)]) (.int .i64 (i : Int))).run Tryd.prog w = .ok (.int .u64 ((if i = 0 then a else if i = 1 then b else c : Nat) : Int)) w := by
  have h := Tryd.underlying57
  have e : i = 0 ∨ i = 1 ∨ i = 2 := by omega
  rcases e with rfl | rfl | rfl <;> simp [Instr.index, run_underlying h, asIntOf, go_sem]
section
variable {ops : Array Oper} {rest : List Oper} {o : Oper} {a : Act} {Q : Exit → Act → World → Prop} {w : World}
theorem wl_idx3 (hgd : Region.wanted o (yielded ops a.tmps) = true) (x y : Operand) (ho : o.op = .index 57 x y) (n0 n1 n2 : Nat) (i : Nat) (hi : i < 3) (hx : a.eval x = .agg #[.int .u64 (n0 : Int), .int .u64 (n1 : Int), .int .u64 (n2 : Int)]) (hy : a.eval y = .int .i64 (i : Int))
    (h : wpList Tryd.prog ops Q rest (a.put o.dst (.int .u64 ((if i = 0 then n0 else if i = 1 then n1 else n2 : Nat) : Int))) w) : wpList Tryd.prog ops Q (o :: rest) a w := by
  refine wl_of hgd fun K hK => ?_
  unfold Oper.wp execOp
  simp only [ho, hx, hy, Sem.run_bind, Sem.run_pure, Result.andThen_ok, run_idx3 n0 n1 n2 i hi]
  exact hK _ _ h
end
section
variable {ops : Array Oper} {rest : List Oper} {o : Oper} {a : Act} {Q : Exit → Act → World → Prop} {w : World}
/-- append(l, m...), where l has no room and m has an element: a new row, l's is read alone -/
theorem wl_appF (hgd : Region.wanted o (yielded ops a.tmps) = true) (s x : Operand)
    (ho : o.op = .call { callee := .builtin .append, args := #[s, x], argTypes := #[40, 40] })
    (l : List UInt8) {g n : Nat} (hs : a.eval s = .slice (some ⟨g, 0, none⟩) n n) (hn : n = l.length) (hold : ∀ j u, (bv l)[j]? = some u → w.cell? ⟨g, 0 + j, none⟩ = some u)
    (B : Nat) (u : Value) (m : List UInt8) (hx : a.eval x = u) (hr : SB w B u m) (hm : 0 < m.length) (hlen : l.length + m.length ≤ 140737488355328)
    (h : ∀ v' w', OB w' w.heap.size v' (l ++ m) → Below w.heap.size w w' → wpList Tryd.prog ops Q rest (a.put o.dst v') w') : wpList Tryd.prog ops Q (o :: rest) a w := by
  subst hn
  obtain ⟨i0, hi0, hz0, hz1, hz2⟩ := info_parts infoB
  obtain ⟨A, c, rfl, hc1, hc2, hr⟩ := hr
  obtain ⟨b, of, rfl, hb, hcell⟩ := hr.at_ hm
  have hrun := run_append_grow (P := Tryd.prog) w 40 o.type 5 i0 _ Tryd.underlying40 hi0 hz0 ⟨g, 0, none⟩ l.length l.length (bv l) (by rw [bv_length, hz1, Nat.mul_one]) (fun j v hj => by rw [add_lit0]; exact hold j v hj)
    ⟨b, of, none⟩ m.length c (bv m) (by rw [bv_length, hz1, Nat.mul_one]) (fun j v hj => by rw [add_lit0]; exact hcell j v hj) (by omega) (by omega) (by rw [hz2]; exact growslice_fits (by omega) (by omega))
  have hge := grownCap_ge w (l.length + m.length) l.length 5
  have hcm : grownCap w (l.length + m.length) l.length 5 ≤ maxLen := grownCap_le_maxLen w (l.length + m.length) l.length 5 (by simp only [maxLen]; omega)
  refine wl_of hgd fun K hK => ?_
  unfold Oper.wp execOp
  simp only [ho, resolve, invoke, builtin, Sem.run_bind, Sem.run_pure, Result.andThen_ok, List.map_toArray, List.map_cons, List.map_nil, hs, hx, hrun]
  refine hK _ _ (h _ _ ?_ ((Below.refl _ _).drew.alloc (Nat.le_refl _) _))
  unfold OB
  have hlen2 : (bv (l ++ m)).length = (l ++ m).length * 1 := by rw [bv_length, Nat.mul_one]
  refine ⟨hlen2, .inr ⟨w.heap.size, _, _, by rw [List.length_append], Nat.le_refl _, heap_alloc_new w.drew _, ?_, hcm, ?_, ?_⟩⟩
  · rw [List.length_append]; exact hge
  · simp only [Array.size_append, List.size_toArray, size_zeroCells, bv_length, Nat.mul_one]
    rw [show (Value.int .u8 0).cells.size = 1 from rfl]
    omega
  · rw [bv_append, Array.toList_append, Array.toList_append, List.length_append, Nat.mul_one]
    exact List.take_left' (by simp [bv_length])
end
set_option maxHeartbeats 1000000 in
theorem kLay_any (h : Hd) (w : World) (ok : h.ok) :
    Calls Tryd.prog 13 #[hdV h] w fun e w' => ∃ r, e = .returned r ∧ OB w' w.heap.size r (layH h) ∧ Below w.heap.size w w' := by
  obtain ⟨k, lv, g, e, n⟩ := h
  have hP := Lib.hid (layP_len ⟨k, lv, g, e, n⟩)
  obtain ⟨h1, h2, h3, h4, h5⟩ := ok
  simp only at h1 h2 h3 h4 h5
  have htwo := Lib.hid (two_b h1 h2)
  go_enter Tryd.func13, Tryd.ntmps13
  obtain ⟨W1, hW1⟩ : ∃ W1 : World, W1 = w.alloc (.cells #[.int .u8 (k : Int), .int .u8 (lv : Int), .int .u64 (g : Int), .int .u64 (e : Int), .int .u64 (n : Int)] 26) := ⟨_, rfl⟩
  have b1 : Below w.heap.size w W1 := by rw [hW1]; exact balloc (bself w) _
  have z1 : W1.heap.size = w.heap.size + 1 := by rw [hW1]; simp
  have x1 := Joins.run_convert_bytes_const_at (P := Tryd.prog) W1 40 5 #[.int .u8 116, .int .u8 97, .int .u8 110, .int .u8 116] 4 4 (w.heap.size + 1) z1.symm Tryd.underlying40 Tryd.underlying5
  rw [hW1] at x1
  have hA : Hid (∀ (v : Value) (w2 : World), OB w2 (((W1.alloc (.cells #[.int .u8 116, .int .u8 97, .int .u8 110, .int .u8 116] 5 (4, 5))).alloc (.cells #[.int .u8 (k : Int), .int .u8 (lv : Int)] 5)).heap.size) v (sTant ++ [UInt8.ofNat k, UInt8.ofNat lv]) →
      Below (((W1.alloc (.cells #[.int .u8 116, .int .u8 97, .int .u8 110, .int .u8 116] 5 (4, 5))).alloc (.cells #[.int .u8 (k : Int), .int .u8 (lv : Int)] 5)).heap.size) ((W1.alloc (.cells #[.int .u8 116, .int .u8 97, .int .u8 110, .int .u8 116] 5 (4, 5))).alloc (.cells #[.int .u8 (k : Int), .int .u8 (lv : Int)] 5)) w2 →
      OB w2 w.heap.size v (sTant ++ [UInt8.ofNat k, UInt8.ofNat lv]) ∧ Below w.heap.size w w2 ∧ w2.cell? ⟨w.heap.size, 2, none⟩ = some (.int .u64 (g : Int)) ∧ w2.cell? ⟨w.heap.size, 3, none⟩ = some (.int .u64 (e : Int)) ∧ w2.cell? ⟨w.heap.size, 4, none⟩ = some (.int .u64 (n : Int))) := Lib.hid (fun v w2 ho hb => by
    have hz : (((W1.alloc (.cells #[.int .u8 116, .int .u8 97, .int .u8 110, .int .u8 116] 5 (4, 5))).alloc (.cells #[.int .u8 (k : Int), .int .u8 (lv : Int)] 5)).heap.size) = w.heap.size + 3 := by simp [z1]
    have hh : w2.heap[w.heap.size]? = some (.cells #[.int .u8 (k : Int), .int .u8 (lv : Int), .int .u64 (g : Int), .int .u64 (e : Int), .int .u64 (n : Int)] 26 (0, 0)) := by
      rw [hb.block _ (by omega), heap_alloc_old _ _ (by simp [z1]; omega), heap_alloc_old _ _ (by omega), hW1]
      exact heap_alloc_new w _
    exact ⟨ho.rebase (by omega), (balloc (balloc b1 _) _).trans (hb.mono (by omega)), cell_of_row w2 _ 2 _ _ _ hh, cell_of_row w2 _ 3 _ _ _ hh, cell_of_row w2 _ 4 _ _ _ hh⟩)
  have hOld : Hid (∀ j u, (bv sTant)[j]? = some u → ((W1.alloc (.cells #[.int .u8 116, .int .u8 97, .int .u8 110, .int .u8 116] 5 (4, 5))).alloc (.cells #[.int .u8 (k : Int), .int .u8 (lv : Int)] 5)).cell? ⟨w.heap.size + 1, 0 + j, none⟩ = some u) := Lib.hid (fun j u hu => by
    have hh : ((W1.alloc (.cells #[.int .u8 116, .int .u8 97, .int .u8 110, .int .u8 116] 5 (4, 5))).alloc (.cells #[.int .u8 (k : Int), .int .u8 (lv : Int)] 5)).heap[w.heap.size + 1]? = some (.cells #[.int .u8 116, .int .u8 97, .int .u8 110, .int .u8 116] 5 (4, 5)) := by
      rw [heap_alloc_old _ _ (by simp [z1]), ← z1]; exact heap_alloc_new W1 _
    rw [Joins.cell_of_block hh, Nat.zero_add]
    rw [← hu, show (#[.int .u8 116, .int .u8 97, .int .u8 110, .int .u8 116] : Array Value) = (bv sTant).toArray from rfl, List.getElem?_toArray])
  rw [hW1] at hA hOld
  clear hW1 b1 z1 W1
  go_wp2_with (at_builtin; refine wl_appF rfl (.tmp 7) (.tmp 12) rfl sTant (g := w.heap.size + 1) (n := 4) rfl rfl hOld.out _ _ [UInt8.ofNat k, UInt8.ofNat lv] rfl (SB.litV _ _ _ htwo.out (by simp) rfl (Nat.lt_succ_self _) (by simp [maxLen])) (by simp) (by simp [sTant]) ?_; intro v2 w2 hown2 hb2; obtain ⟨ho2, hb2', c2, c3, c4⟩ := hA.out v2 w2 hown2 hb2; clear hown2 hb2)
  clear x1 hA hOld htwo c2 c3 c4
  have HL : Hid (∀ (W : World) (v : Value) (l : List UInt8) (x : Nat), OB W w.heap.size v l → w.heap.size ≤ W.heap.size → l.length ≤ 30 → x < 18446744073709551616 → Calls Tryd.prog 26 #[v, .int .u64 (x : Int), .int .i64 8] W fun e w' => ∃ r, e = .returned r ∧ OB w' w.heap.size r (l ++ fix x 8) ∧ Below W.heap.size W w') := Lib.hid (fun W v l x ho hz hl hx => (cFix_any v l x 8 W ho.sb (by omega) hx (by omega) (by omega)).mono (by rintro e w' ⟨r, rfl, h1, h2⟩; exact ⟨r, rfl, h1.rebase hz, h2⟩))
  go_loopw [3, 5, 21] (fun v x i wr => ∃ j : Nat, i = .int .i64 j ∧ j ≤ 3 ∧ OB wr w.heap.size v (layP ⟨k, lv, g, e, n⟩ j) ∧ Below w.heap.size w wr) (fun _ _ i _ => 3 - (intOf i).toNat)
  case atStart => exact ⟨0, rfl, by omega, ho2, hb2'⟩
  case round =>
    obtain ⟨j, rfl, hj, hown, hbr⟩ := hrel
    have hsz := hbr.size
    have hj' : j = 0 ∨ j = 1 ∨ j = 2 ∨ j = 3 := by omega
    rcases hj' with rfl | rfl | rfl | rfl
    · go_wp2_with (first | (refine wl_idx3 (o := ⟨some 23, _, _, _, _, _⟩) rfl (.tmp 20) (.tmp 21) rfl g e n 0 (by omega) rfl rfl ?_; simp only [if_true, if_false, Nat.one_ne_zero, Nat.reduceEqDiff]) | (go_at_call 26; refine (HL.out _ _ _ g hown hsz (hP.out _) h3).mono ?_; rintro _ w3 ⟨r, rfl, ho3, hb3⟩))
      go_roundw
      case rel => exact ⟨1, rfl, by omega, ho3, hbr.trans (hb3.mono hsz)⟩
      case measure => simp [intOf]
    · go_wp2_with (first | (refine wl_idx3 (o := ⟨some 23, _, _, _, _, _⟩) rfl (.tmp 20) (.tmp 21) rfl g e n 1 (by omega) rfl rfl ?_; simp only [if_true, if_false, Nat.one_ne_zero, Nat.reduceEqDiff]) | (go_at_call 26; refine (HL.out _ _ _ e hown hsz (hP.out _) h4).mono ?_; rintro _ w3 ⟨r, rfl, ho3, hb3⟩))
      go_roundw
      case rel => exact ⟨2, rfl, by omega, ho3, hbr.trans (hb3.mono hsz)⟩
      case measure => simp [intOf]
    · go_wp2_with (first | (refine wl_idx3 (o := ⟨some 23, _, _, _, _, _⟩) rfl (.tmp 20) (.tmp 21) rfl g e n 2 (by omega) rfl rfl ?_; simp only [if_true, if_false, Nat.one_ne_zero, Nat.reduceEqDiff]) | (go_at_call 26; refine (HL.out _ _ _ n hown hsz (hP.out _) h5).mono ?_; rintro _ w3 ⟨r, rfl, ho3, hb3⟩))
      go_roundw
      case rel => exact ⟨3, rfl, by omega, ho3, hbr.trans (hb3.mono hsz)⟩
      case measure => simp [intOf]
    · go_wp2
      go_ret
      exact ⟨_, rfl, hown, hbr⟩
theorem six_b {k lv : Nat} (h1 : k < 256) (h2 : lv < 256) : #[Value.int .u8 116, .int .u8 97, .int .u8 110, .int .u8 116, .int .u8 (k : Int), .int .u8 (lv : Int)] = (bv (sTant ++ [UInt8.ofNat k, UInt8.ofNat lv])).toArray := by
  simp [bv, u8v, sTant, UInt8.toNat_ofNat']
  omega
set_option maxHeartbeats 1000000 in
theorem rLay_any (h : Hd) (w : World) (ok : h.ok) :
    Calls Tryd.prog 15 #[hdV h] w fun e w' => ∃ r, e = .returned r ∧ OB w' w.heap.size r (layH h) ∧ Below w.heap.size w w' := by
  obtain ⟨k, lv, g, e, n⟩ := h
  have hP := Lib.hid (layP_len ⟨k, lv, g, e, n⟩)
  obtain ⟨h1, h2, h3, h4, h5⟩ := ok
  simp only at h1 h2 h3 h4 h5
  have hsix := Lib.hid (six_b h1 h2)
  have hF : ∀ (x : Nat) (W : World), x < 18446744073709551616 → Calls Tryd.prog 16 #[.int .u64 (x : Int), .int .i64 8] W fun en w' => ∃ r, en = .returned r ∧ OB w' W.heap.size r (fix x 8) ∧ Below W.heap.size W w' := fun x W hx => rFix_any x 8 W hx (by omega) (by omega)
  have HF := Lib.hid hF
  clear hF
  go_enter Tryd.func15, Tryd.ntmps15
  obtain ⟨W1, hW1⟩ : ∃ W1 : World, W1 = w.alloc (.cells #[.int .u8 (k : Int), .int .u8 (lv : Int), .int .u64 (g : Int), .int .u64 (e : Int), .int .u64 (n : Int)] 26) := ⟨_, rfl⟩
  have b1 : Below w.heap.size w W1 := by rw [hW1]; exact balloc (bself w) _
  have z1 : W1.heap.size = w.heap.size + 1 := by rw [hW1]; simp
  have HC : Hid (∀ W', Below (w.heap.size + 1) W1 W' → Below w.heap.size w W' ∧ w.heap.size + 1 ≤ W'.heap.size ∧ W'.cell? ⟨w.heap.size, 2, none⟩ = some (.int .u64 (g : Int)) ∧ W'.cell? ⟨w.heap.size, 3, none⟩ = some (.int .u64 (e : Int)) ∧ W'.cell? ⟨w.heap.size, 4, none⟩ = some (.int .u64 (n : Int))) := Lib.hid (fun W' hb => by
    have hh : W'.heap[w.heap.size]? = some (.cells #[.int .u8 (k : Int), .int .u8 (lv : Int), .int .u64 (g : Int), .int .u64 (e : Int), .int .u64 (n : Int)] 26 (0, 0)) := by
      rw [hb.block _ (by omega), hW1]
      exact heap_alloc_new w _
    exact ⟨b1.trans (hb.mono (by omega)), by have := hb.size; omega, cell_of_row W' _ 2 _ _ _ hh, cell_of_row W' _ 3 _ _ _ hh, cell_of_row W' _ 4 _ _ _ hh⟩)
  have H0 : Hid (OB (W1.alloc (.cells #[.int .u8 116, .int .u8 97, .int .u8 110, .int .u8 116, .int .u8 (k : Int), .int .u8 (lv : Int)] 5)) (w.heap.size + 1) (.slice (some ⟨w.heap.size + 1, 0, none⟩) 6 6) (layP ⟨k, lv, g, e, n⟩ 0) ∧ Below (w.heap.size + 1) W1 (W1.alloc (.cells #[.int .u8 116, .int .u8 97, .int .u8 110, .int .u8 116, .int .u8 (k : Int), .int .u8 (lv : Int)] 5))) :=
    Lib.hid ⟨OB.litV W1 _ _ hsix.out z1.symm rfl (by omega) (by simp [maxLen, sTant]), (Below.refl _ _).alloc (by omega) _⟩
  rw [hW1] at H0 HC
  clear hW1 b1 z1 W1
  go_upto_region 3 with (first
    | (go_at_call 16; refine (HF.out g _ h3).mono ?_; rintro _ w3 ⟨r3, rfl, ho3, hb3⟩; have hb3' := H0.out.2.trans (hb3.mono (by simp)); obtain ⟨_, z3, d1, d2, d3⟩ := HC.out _ hb3')
    | (at_builtin; refine wl_appB rfl (.tmp 9) (.tmp 12) rfl (w.heap.size + 1) _ (layP ⟨k, lv, g, e, n⟩ 0) rfl (H0.out.1.below hb3 (Nat.le_refl _)) w3.heap.size _ (fix g 8) rfl ho3.sb (by simp [layP, sTant, fix_length]) z3 ?_; intro v4 w4 ho4 _ _ hb4; have hb4' := hb3'.trans hb4; obtain ⟨_, z4, d1, d2, d3⟩ := HC.out _ hb4'))
  go_upto_region 4 with (first
    | (go_at_call 16; refine (HF.out e _ h4).mono ?_; rintro _ w5 ⟨r5, rfl, ho5, hb5⟩; have hb5' := hb4'.trans (hb5.mono z4); obtain ⟨_, z5, d1, d2, d3⟩ := HC.out _ hb5')
    | (at_builtin; refine wl_appB rfl (.tmp 14) (.tmp 17) rfl (w.heap.size + 1) _ _ rfl (ho4.below hb5 (Nat.le_refl _)) w5.heap.size _ (fix e 8) rfl ho5.sb (by simp [layP, sTant, fix_length]) z5 ?_; intro v6 w6 ho6 _ _ hb6; have hb6' := hb5'.trans hb6; obtain ⟨_, z6, d1, d2, d3⟩ := HC.out _ hb6'))
  go_wp2_with (first
    | (go_at_call 16; refine (HF.out n _ h5).mono ?_; rintro _ w7 ⟨r7, rfl, ho7, hb7⟩; have hb7' := hb6'.trans (hb7.mono z6); obtain ⟨_, z7, d1, d2, d3⟩ := HC.out _ hb7')
    | (at_builtin; refine wl_appB rfl (.tmp 19) (.tmp 22) rfl (w.heap.size + 1) _ _ rfl (ho6.below hb7 (Nat.le_refl _)) w7.heap.size _ (fix n 8) rfl ho7.sb (by simp [layP, sTant, fix_length]) z7 ?_; intro v8 w8 ho8 _ _ hb8; have hb8' := hb7'.trans hb8; obtain ⟨bf, z8, d1, d2, d3⟩ := HC.out _ hb8'))
  go_ret
  exact ⟨_, rfl, ho8.rebase (by omega), bf⟩
end Go.Proofs.YtjkcdnangmjoeaaDoor

namespace Go.Proofs.YtjkcdnangmjoeaaDoor
open Go.RowKit

abbrev nonA (l : List UInt8) : Array Value := (bv l).toArray
abbrev rowN (c : Array Value) : Obj := .cells c 32 (0, 0)
theorem nonA_size (l : List UInt8) : (nonA l).size = l.length := by simp [bv]
theorem nonA_one (l : List UInt8) : ∀ v ∈ (nonA l).toList, v.oneCell' = true := fun v hv => bv_one l v (by simpa using hv)
theorem non_cell {w : World} {D : Nat} {l : List UInt8} (h : w.heap[D]? = some (rowN (nonA l))) {k : Nat} (hk : k < l.length) :
    w.cell? ⟨D, k, none⟩ = some (u8v l[k]) ∧ w.frozen? ⟨D, k, none⟩ = false ∧ ∀ b : UInt8, (w.setCell ⟨D, k, none⟩ (u8v b)).heap[D]? = some (rowN (nonA (l.set k b))) := by
  refine ⟨?_, by simp [World.frozen?, h], fun b => ?_⟩
  · rw [cell_of_row _ _ k _ _ _ h]
    have := bv_get l k hk
    simpa using this
  simp only [World.setCell, Array.getElem?_modify, h]
  simp [bv, List.map_set]
/-- a nonce on the way -/
def nonUp (p k : Nat) : List UInt8 := (fix p 8).take k ++ List.replicate (12 - k) 0
theorem nonUp_len (p k : Nat) (hk : k ≤ 8) : (nonUp p k).length = 12 := by unfold nonUp; simp [fix_length]; omega
theorem nonUp_8 (p : Nat) : nonUp p 8 = nonceOf p := by
  unfold nonUp nonceOf
  rw [List.take_of_length_le (by rw [fix_length]; exact Nat.le_refl _)]
  rfl
theorem fix_at (n : Nat) : ∀ (m k : Nat), k < m → (fix n m)[k]? = some (UInt8.ofNat (n / 256 ^ k)) := by
  intro m
  induction m generalizing n with
  | zero => intro k h; omega
  | succ m ih =>
    intro k h
    rw [fix]
    cases k with
    | zero => simp
    | succ k =>
      rw [List.getElem?_cons_succ, ih (n / 256) k (by omega), Nat.div_div_eq_div_mul, Nat.pow_succ, Nat.mul_comm 256]
theorem nonUp_step (p k : Nat) (hk : k < 8) : (nonUp p k).set k (UInt8.ofNat (p / 256 ^ k)) = nonUp p (k + 1) := by
  have ht : (fix p 8).take (k + 1) = (fix p 8).take k ++ [UInt8.ofNat (p / 256 ^ k)] := by
    have h := fix_at p 8 k hk
    obtain ⟨h1, h2⟩ := List.getElem?_eq_some_iff.1 h
    rw [List.take_succ_eq_append_getElem h1, h2]
  unfold nonUp
  rw [ht, List.set_append_right _ _ (by rw [List.length_take]; omega), List.length_take, fix_length, Nat.min_eq_left (by omega), Nat.sub_self, show 12 - k = (12 - (k + 1)) + 1 from by omega, List.replicate_succ, List.set_cons_zero, List.append_assoc]
  rfl
theorem non_byte (p k : Nat) : Value.int .u8 ((p : Int) / 2 ^ (8 * k) % 256) = u8v (UInt8.ofNat (p / 256 ^ k)) := by
  have e : (2 : Int) ^ (8 * k) = ((256 ^ k : Nat) : Int) := by rw [show (256 : Nat) = 2 ^ 8 from rfl, ← Nat.pow_mul]; simp
  unfold u8v
  rw [e, UInt8.toNat_ofNat', Int.natCast_emod, Int.natCast_ediv]
  rfl
section
variable {ops : Array Oper} {rest : List Oper} {o : Oper} {a : Act} {Q : Exit → Act → World → Prop} {w : World} {K : Act → World → Prop}
theorem wl_loadN (hgd : o.guard = none) (x : Operand) (ho : o.op = .load 32 x) (g : Nat) (hx : a.eval x = .pointer (some ⟨g, 0, none⟩)) (cs : Array Value) (hg : w.heap[g]? = some (rowN cs)) (hn : cs.size = 12)
    (h : wpList Tryd.prog ops Q rest (a.put o.dst (.agg cs)) w) : wpList Tryd.prog ops Q (o :: rest) a w :=
  wpList_load_row hgd 32 x ho g hx _ cs (0, 0) _ hg Tryd.underlying32 rfl (by rw [hn]; kernel_rfl) h
theorem wl_storeN (hgd : o.guard = none) (p x : Operand) (ho : o.op = .store 32 p x) (g : Nat) (hp : a.eval p = .pointer (some ⟨g, 0, none⟩)) (c c' : Array Value) (hx : a.eval x = .agg c') (hg : w.heap[g]? = some (rowN c)) (hn : c.size = 12) (hn' : c'.size = 12) (h1 : ∀ v ∈ c'.toList, v.oneCell' = true)
    (h : wpList Tryd.prog ops Q rest (a.put o.dst undef) (w.setRow g c')) : wpList Tryd.prog ops Q (o :: rest) a w := by
  have hz : (Tryd.prog.info? 32).map (·.size) = some c'.size := by rw [hn']; kernel_rfl
  refine wpList_plain hgd fun _ hK => ?_
  unfold Oper.wp execOp
  simp only [ho, hp, hx, Instr.storeAt, Instr.sureAddr, Sem.run_bind, Sem.run_pure, Result.andThen_ok, run_storeVar_row w g 32 32 c c' hg hz (by rw [hn, hn']) (Array.all_eq_true_iff_forall_mem.2 (fun v hv => h1 v (by simpa using hv))), Oper.upon]
  exact hK _ _ h
end
theorem res_non {fn : Func} {p : Tmp} (h : fn.results = #[.cell p 32]) (tmps : Array Value) (w : World) (g : Nat) (cs : Array Value) (hp : tmps.getD p undef = .pointer (some ⟨g, 0, none⟩)) (hg : w.heap[g]? = some (rowN cs)) (hn : cs.size = 12) :
    (results fn tmps).run Tryd.prog w = .ok (.agg cs) w :=
  results_cell_row h tmps w g _ cs (0, 0) _ hp hg Tryd.underlying32 rfl (by rw [hn]; kernel_rfl)
set_option maxHeartbeats 1000000 in
theorem kNonceC (p : Nat) (hp : p < 18446744073709551616) (c : Array Value) (hc : nonA (nonceOf p) = c) (w : World) :
    Calls Tryd.prog 7 #[.int .u64 p] w fun e w' => e = .returned (.agg c) ∧ Below w.heap.size w w' := by
  have HN : Hid (c.size = 12 ∧ ∀ v ∈ c.toList, v.oneCell' = true) := Lib.hid (by rw [← hc]; exact ⟨(nonA_size _).trans (nonce_len p), nonA_one _⟩)
  have HC : Hid (nonA (nonUp p 8) = c) := Lib.hid (by rw [nonUp_8, hc])
  clear hc
  go_enter Tryd.func7, Tryd.ntmps7
  go_upto_region 2 with fail
  generalize hWA : World.alloc _ _ = wA
  have rN : wA.heap[w.heap.size + 1]? = some (rowN (nonA (nonUp p 0))) := by rw [← hWA]; exact (heap_alloc2_new w _ _).trans (by kernel_rfl)
  have rR : wA.heap[w.heap.size]? = some (rowN (nonA (nonUp 0 0))) := by rw [← hWA]; exact (heap_alloc2_old w _ _).trans (by kernel_rfl)
  have bA : Below w.heap.size w wA := by rw [← hWA]; exact balloc (balloc (bself w) _) _
  clear hWA
  go_wp2
  go_loopw [4, 5] (fun x i wr => ∃ k : Nat, i = .int .i64 k ∧ k ≤ 8 ∧ Hid (wr.heap[w.heap.size + 1]? = some (rowN (nonA (nonUp p k))) ∧ wr.heap[w.heap.size]? = some (rowN (nonA (nonUp 0 0)))) ∧ Below w.heap.size w wr) (fun _ i _ => 8 - (intOf i).toNat)
  case atStart => exact ⟨0, rfl, by omega, Lib.hid ⟨rN, rR⟩, bA⟩
  case round =>
    obtain ⟨k, rfl, hk, hr, hbr⟩ := hrel
    by_cases hlt : k < 8
    · obtain ⟨c0, f0, hset⟩ := non_cell hr.out.1 (k := k) (by rw [nonUp_len p k hk]; omega)
      have hb := Lib.hid (non_byte p k)
      have hst := Lib.hid (hset (UInt8.ofNat (p / 256 ^ k)))
      have h2 := Lib.hid (hr.out.2)
      clear hset hr
      go_wp2
      rw [hb.out]
      go_roundw
      case rel =>
        refine ⟨k + 1, by go_num, by omega, Lib.hid ⟨?_, ?_⟩, hbr.setCell (by simp) _⟩
        · rw [← nonUp_step p k hlt]; exact hst.out
        · rw [← h2.out]; exact Below.heap_setCell _ _ _ _ (by simp)
      case measure => simp [intOf]; omega
    · have h8 : k = 8 := by omega
      subst h8
      obtain ⟨hr1, hr2⟩ := hr.out
      rw [HC.out] at hr1
      go_wp2_with (first | (refine wl_loadN rfl (.tmp 3) rfl _ rfl c hr1 HN.out.1 ?_) | (refine wl_storeN rfl (.tmp 2) (.tmp 16) rfl _ rfl _ c rfl hr2 ((nonA_size _).trans (nonUp_len 0 0 (by omega))) HN.out.1 HN.out.2 ?_))
      exact bodyPost_ret (v := .agg c) (res_non Tryd.results7 _ _ _ c rfl (setRow_heap _ _ _ _ _ _ hr2) HN.out.1) rfl ⟨rfl, below_setRow hbr (Nat.le_refl _) _⟩
end Go.Proofs.YtjkcdnangmjoeaaDoor

namespace Go.Proofs.YtjkcdnangmjoeaaDoor
open Go.RowKit

abbrev takeV (l : List UInt8) : Value := .tuple #[hdV (takeH l).1, .int .i64 ((takeH l).2 : Int)]
/-- what the reader has -/
def tl24 (l : List UInt8) : List UInt8 := (l.take 30).drop 6
theorem tl24_len (l : List UInt8) (h : 30 ≤ l.length) : (tl24 l).length = 24 := by unfold tl24; rw [List.length_drop, List.length_take]; omega
theorem tl24_at (l : List UInt8) (j : Nat) (hj : j + 8 ≤ 24) : ((tl24 l).drop j).take 8 = (l.drop (6 + j)).take 8 := by
  unfold tl24
  rw [List.drop_drop, List.drop_take, List.take_take, Nat.min_eq_left (by omega)]
theorem sFix_24 (l : List UInt8) (h : 30 ≤ l.length) (j : Nat) (hj : j + 8 ≤ 24) : sFix 8 ((tl24 l).drop j, 0) = (leN ((l.drop (6 + j)).take 8), (tl24 l).drop (j + 8), 0) := by
  have hl := tl24_len l h
  unfold sFix
  rw [if_neg (by simp), if_neg (by omega), if_neg (by simp only [List.length_drop]; omega)]
  show (leN (((tl24 l).drop j).take 8), ((tl24 l).drop j).drop 8, 0) = _
  rw [tl24_at l j hj, List.drop_drop]
def HdAt (w : World) (H : Nat) (h : Hd) : Prop := w.heap[H]? = some (.cells #[.int .u8 (h.k : Int), .int .u8 (h.lv : Int), .int .u64 (h.g : Int), .int .u64 (h.e : Int), .int .u64 (h.n : Int)] 26 (0, 0))
theorem HdAt.cells {w : World} {H : Nat} {h : Hd} (a : HdAt w H h) : w.cell? ⟨H, 0, none⟩ = some (.int .u8 (h.k : Int)) ∧ w.cell? ⟨H, 1, none⟩ = some (.int .u8 (h.lv : Int)) ∧ w.cell? ⟨H, 2, none⟩ = some (.int .u64 (h.g : Int)) ∧ w.cell? ⟨H, 3, none⟩ = some (.int .u64 (h.e : Int)) ∧ w.cell? ⟨H, 4, none⟩ = some (.int .u64 (h.n : Int)) :=
  ⟨cell_of_row w H 0 _ _ _ a, cell_of_row w H 1 _ _ _ a, cell_of_row w H 2 _ _ _ a, cell_of_row w H 3 _ _ _ a, cell_of_row w H 4 _ _ _ a⟩
theorem HdAt.free {w : World} {H : Nat} {h : Hd} (a : HdAt w H h) (k : Nat) : w.frozen? ⟨H, k, none⟩ = false := by unfold HdAt at a; simp [World.frozen?, a]
/-- on the way: the head at H, the reader (X), the result's cells, what stood -/
structure TkSt (X : World → Prop) (w w' : World) (H : Nat) (h : Hd) : Prop where
  hd : HdAt w' H h
  rd : X w'
  res : HdAt w' w.heap.size hd0
  be : Below w.heap.size w w'
  lt : w.heap.size < H
theorem TkSt.call {X X' : World → Prop} {w w2 w3 : World} {H R : Nat} {h : Hd} (a : TkSt X w w2 H h) (hg : w2.grownBy w3 (some R)) (hR : R ≠ H) (hw : w.heap.size < R) (hx : X' w3) : TkSt X' w w3 H h := by
  have z2 : H < w2.heap.size := (Array.getElem?_eq_some_iff.1 a.hd).1
  have zr : w.heap.size < w2.heap.size := (Array.getElem?_eq_some_iff.1 a.res).1
  refine ⟨(hg.block H z2 (fun e => by injection e with e; exact hR e.symm)).trans a.hd, hx, (hg.block _ zr (fun e => by injection e with e; omega)).trans a.res, below_grown a.be hg a.be.size (fun g e => by injection e with e; omega), a.lt⟩
section
variable {X : World → Prop} {w w3 : World} {H : Nat} {h : Hd} (a : TkSt X w w3 H h) (hX : ∀ W, X W → ∀ i u, X (W.setCell ⟨H, i, none⟩ u))
include a hX
theorem TkSt.set (i : Nat) (u : Value) (h' : Hd) (hh : HdAt (w3.setCell ⟨H, i, none⟩ u) H h') : TkSt X w (w3.setCell ⟨H, i, none⟩ u) H h' :=
  ⟨hh, hX _ a.rd _ _, (Below.heap_setCell _ _ _ _ (Nat.ne_of_lt a.lt)).trans a.res, a.be.setCell (Nat.le_of_lt a.lt) _, a.lt⟩
theorem TkSt.setG (g : Nat) : TkSt X w (w3.setCell ⟨H, 2, none⟩ (.int .u64 (g : Int))) H ⟨h.k, h.lv, g, h.e, h.n⟩ := a.set hX _ _ _ (by have := a.hd; unfold HdAt at this ⊢; simp [World.setCell, Array.getElem?_modify, this])
theorem TkSt.setE (g : Nat) : TkSt X w (w3.setCell ⟨H, 3, none⟩ (.int .u64 (g : Int))) H ⟨h.k, h.lv, h.g, g, h.n⟩ := a.set hX _ _ _ (by have := a.hd; unfold HdAt at this ⊢; simp [World.setCell, Array.getElem?_modify, this])
theorem TkSt.setN (g : Nat) : TkSt X w (w3.setCell ⟨H, 4, none⟩ (.int .u64 (g : Int))) H ⟨h.k, h.lv, h.g, h.e, g⟩ := a.set hX _ _ _ (by have := a.hd; unfold HdAt at this ⊢; simp [World.setCell, Array.getElem?_modify, this])
end
theorem TkSt.fin {X : World → Prop} {w w8 w9 : World} {H : Nat} {h : Hd} (a : TkSt X w w8 H h) (hb : Below w8.heap.size w8 w9) :
    (w9.cell? ⟨H, 0, none⟩ = some (.int .u8 (h.k : Int)) ∧ w9.cell? ⟨H, 1, none⟩ = some (.int .u8 (h.lv : Int)) ∧ w9.cell? ⟨H, 2, none⟩ = some (.int .u64 (h.g : Int)) ∧ w9.cell? ⟨H, 3, none⟩ = some (.int .u64 (h.e : Int)) ∧ w9.cell? ⟨H, 4, none⟩ = some (.int .u64 (h.n : Int))) ∧
    ((w9.cell? ⟨w.heap.size, 0, none⟩ = some (.int .u8 0) ∧ w9.cell? ⟨w.heap.size, 1, none⟩ = some (.int .u8 0) ∧ w9.cell? ⟨w.heap.size, 2, none⟩ = some (.int .u64 0) ∧ w9.cell? ⟨w.heap.size, 3, none⟩ = some (.int .u64 0) ∧ w9.cell? ⟨w.heap.size, 4, none⟩ = some (.int .u64 0)) ∧
     (w9.frozen? ⟨w.heap.size, 0, none⟩ = false ∧ w9.frozen? ⟨w.heap.size, 1, none⟩ = false ∧ w9.frozen? ⟨w.heap.size, 2, none⟩ = false ∧ w9.frozen? ⟨w.heap.size, 3, none⟩ = false ∧ w9.frozen? ⟨w.heap.size, 4, none⟩ = false)) ∧ Below w.heap.size w w9 := by
  have z2 : H < w8.heap.size := (Array.getElem?_eq_some_iff.1 a.hd).1
  have zr : w.heap.size < w8.heap.size := (Array.getElem?_eq_some_iff.1 a.res).1
  have h1 : HdAt w9 H h := (hb.block H z2).trans a.hd
  have h2 : HdAt w9 w.heap.size hd0 := (hb.block _ zr).trans a.res
  exact ⟨h1.cells, ⟨h2.cells, h2.free 0, h2.free 1, h2.free 2, h2.free 3, h2.free 4⟩, a.be.trans (hb.mono a.be.size)⟩
theorem set5 {w w' : World} {B Q : Nat} (h : Below B w w') (hQ : B ≤ Q) (a b c d e : Value) : Below B w (((((w'.setCell ⟨Q, 0, none⟩ a).setCell ⟨Q, 1, none⟩ b).setCell ⟨Q, 2, none⟩ c).setCell ⟨Q, 3, none⟩ d).setCell ⟨Q, 4, none⟩ e) :=
  ((((h.setCell hQ _).setCell hQ _).setCell hQ _).setCell hQ _).setCell hQ _
theorem head4 (l : List UInt8) {b o : Nat} {w : World} (hcell : ∀ j u, (bv l)[j]? = some u → w.cell? ⟨b, o + j, none⟩ = some u) (j : Nat) (hj : j < l.length) : w.cell? ⟨b, o + j, none⟩ = some (.int .u8 ((l.getD j 0).toNat : Int)) :=
  hcell j _ (by rw [bv_get l j hj]; simp [List.getD_eq_getElem?_getD, List.getElem?_eq_getElem hj])
theorem take_bad4 {l : List UInt8} (h : ¬ l.length < 30) (hq : ¬ l.take 4 = sTant) : takeV l = .tuple #[.agg #[.int .u8 0, .int .u8 0, .int .u64 0, .int .u64 0, .int .u64 0], .int .i64 70] := by
  unfold takeV takeH; rw [if_neg h, if_neg (fun x => hq x.1)]; rfl
theorem take_badR {l : List UInt8} {h : Hd} (h30 : ¬ l.length < 30) (hh : h = readH l) (hq : rightH h = false) : takeV l = .tuple #[.agg #[.int .u8 0, .int .u8 0, .int .u64 0, .int .u64 0, .int .u64 0], .int .i64 70] := by
  unfold takeV takeH; rw [if_neg h30, if_neg (fun x => by rw [← hh, hq] at x; simp at x)]; rfl
theorem take_good {l : List UInt8} {h : Hd} (h30 : ¬ l.length < 30) (hh : h = readH l) (h4 : l.take 4 = sTant) (hq : rightH h = true) : takeV l = .tuple #[hdV h, .int .i64 0] := by
  unfold takeV takeH; rw [if_neg h30, ← hh, if_pos ⟨h4, hq⟩]; rfl
set_option maxHeartbeats 1000000 in
theorem kTake_any (v : Value) (l : List UInt8) (w : World) (hv : SB w w.heap.size v l) (hl : l.length ≤ 140737488355328) :
    Calls Tryd.prog 10 #[v] w fun e w' => e = .returned (takeV l) ∧ Below w.heap.size w w' := by
  obtain ⟨A, c, rfl, hc, hm, hr⟩ := hv
  by_cases h30 : l.length < 30
  · have HT : Hid (takeV l = .tuple #[.agg #[.int .u8 0, .int .u8 0, .int .u64 0, .int .u64 0, .int .u64 0], .int .i64 10]) := Lib.hid (by unfold takeV takeH; rw [if_pos h30]; rfl)
    go_enter Tryd.func10, Tryd.ntmps10
    go_wp2
    exact bodyPost_ret (v := .tuple #[.agg #[.int .u8 0, .int .u8 0, .int .u64 0, .int .u64 0, .int .u64 0], .int .i64 10]) (by simp [results, Tryd.results10, go_sem] <;> rfl) rfl ⟨by rw [HT.out], balloc (bself w) _⟩
  · obtain ⟨b, o, rfl, hb, hcell⟩ := hr.at_ (by omega)
    have hm' : c ≤ 9223372036854775807 := by unfold maxLen at hm; omega
    obtain ⟨h, hh⟩ : ∃ h, h = readH l := ⟨_, rfl⟩
    obtain ⟨k, lv, g, e, n⟩ := h
    have hk : k = (l.getD 4 0).toNat ∧ lv = (l.getD 5 0).toNat ∧ g = leN ((l.drop 6).take 8) ∧ e = leN ((l.drop 14).take 8) ∧ n = leN ((l.drop 22).take 8) := by
      injection hh with e1 e2 e3 e4 e5
      exact ⟨e1, e2, e3, e4, e5⟩
    obtain ⟨hk1, hk2, hk3, hk4, hk5⟩ := hk
    have c4 := head4 l hcell 4 (by omega)
    have c5 := head4 l hcell 5 (by omega)
    rw [← hk1] at c4
    rw [← hk2] at c5
    have KS : Hid (∀ w', Below w.heap.size w w' → w'.cell? ⟨b, o + 4, none⟩ = some (.int .u8 (k : Int)) ∧ w'.cell? ⟨b, o + 5, none⟩ = some (.int .u8 (lv : Int))) := Lib.hid (fun w' h => ⟨(h.cell (by simpa using hb)).trans c4, (h.cell (by simpa using hb)).trans c5⟩)
    clear c4 c5
    have HF : Hid (∀ R W x j, leN ((l.drop (6 + j)).take 8) = x → j + 8 ≤ 24 → RdrAt W R ((tl24 l).drop j) 0 → Calls Tryd.prog 21 #[.pointer (some ⟨R, 0, none⟩), .int .i64 8] W fun en w' => en = .returned (.int .u64 (x : Int)) ∧ RdrAt w' R ((tl24 l).drop (j + 8)) 0 ∧ W.grownBy w' (some R)) := Lib.hid (fun R W x j hx hj hrd => by
      have h := mFix_any R _ 0 8 W hrd (by omega) (by omega)
      rw [sFix_24 l (by omega) j hj, hx] at h
      exact h)
    have HX := Lib.hid (And.intro hk3.symm (And.intro hk4.symm hk5.symm))
    have HH := Lib.hid hh
    clear hk1 hk2 hk3 hk4 hk5 hh
    go_enter Tryd.func10, Tryd.ntmps10
    go_upto_region 4 with (first
      | (refine wl_takeB (o := ⟨some 11, _, _, _, _, _⟩) rfl (.tmp 10) (.const (.int .i64 6)) (.const (.int .i64 30)) rfl (some ⟨b, o, none⟩) c 6 30 w.heap.size .i64 .i64 l rfl rfl rfl (by omega) (by omega) hc hm (hr.alloc (Nat.le_refl _) _) ?_; intro v1 hs1)
      | (go_at_call 20; refine (cNew_any v1 (tl24 l) _ (hs1.more (by simp)) (by rw [tl24_len l (by omega)]; omega)).mono ?_; rintro _ w1 ⟨R, rfl, hR, hrd, hb1⟩))
    generalize hWA : World.alloc w _ = wA at hrd hb1 hR hs1
    have b1 : Below w.heap.size w w1 := by
      have bA : Below w.heap.size w wA := by rw [← hWA]; exact balloc (bself w) _
      exact bstep bA hb1
    have z1 : w.heap.size + 1 ≤ R := by rw [← hWA] at hR; simpa using hR
    have r1 : HdAt w1 w.heap.size hd0 := by
      unfold HdAt
      rw [hb1.block _ (by rw [← hWA]; simp), ← hWA]; exact heap_alloc_new w _
    have rd1 := hrd.at_
    clear hrd hs1 hb1 hR hWA wA
    have hlt4 : (4 : Int) < (l.length : Int) := by omega
    have hlt5 : (5 : Int) < (l.length : Int) := by omega
    refine wp_region_noPanic ?_
    refine wp_region_held_drew (S := fun w' => w'.cell? ⟨b, o + 4, none⟩ = some (.int .u8 (k : Int)) ∧ w'.cell? ⟨b, o + 5, none⟩ = some (.int .u8 (lv : Int))) (by kernel_rfl) (KS.out _ (bdrew b1)) (fun hHeld => ?_)
    refine reg_take 0 (v := ?_) (by rfl) (by kernel_rfl) (by kernel_rfl) (by kernel_rfl) (fun _ _ _ h => h) (by rfl) ?_ (by assumption) ?_
    rotate_left
    · (intro wq hSq; (try dsimp only at hSq); go_split_ands; go_simp; (try with_reducible rfl))
    try simp only [Act.put, List.setIfInBounds_toArray, List.set_cons_zero, List.set_cons_succ]
    refine reg_take 1 (v := ?_) (by rfl) (by kernel_rfl) (by kernel_rfl) (by kernel_rfl) (fun _ _ _ h => h) (by rfl) ?_ (by assumption) ?_
    rotate_left
    · (intro wq hSq; (try dsimp only at hSq); go_split_ands; go_simp; (try with_reducible rfl))
    try simp only [Act.put, List.setIfInBounds_toArray, List.set_cons_zero, List.set_cons_succ]
    refine reg_take 2 (v := ?_) (by rfl) (by kernel_rfl) (by kernel_rfl) (by kernel_rfl) (fun _ _ _ h => h) (by rfl) ?_ (by assumption) ?_
    rotate_left
    · (intro wq hSq; (try dsimp only at hSq); go_split_ands; go_simp; (try with_reducible rfl))
    try simp only [Act.put, List.setIfInBounds_toArray, List.set_cons_zero, List.set_cons_succ]
    refine reg_take 3 (v := ?_) (by rfl) (by kernel_rfl) (by kernel_rfl) (by kernel_rfl) (fun _ _ _ h => h) (by rfl) ?_ (by assumption) ?_
    rotate_left
    · (intro wq hSq; (try dsimp only at hSq); go_split_ands; go_simp; (try with_reducible rfl))
    try simp only [Act.put, List.setIfInBounds_toArray, List.set_cons_zero, List.set_cons_succ]
    refine reg_take 4 (v := ?_) (by rfl) (by kernel_rfl) (by kernel_rfl) (by kernel_rfl) (fun _ _ _ h => h) (by rfl) ?_ (by assumption) ?_
    rotate_left
    · (intro wq hSq; (try dsimp only at hSq); go_split_ands; go_simp; (try with_reducible rfl))
    try simp only [Act.put, List.setIfInBounds_toArray, List.set_cons_zero, List.set_cons_succ]
    refine reg_take 5 (v := ?_) (by rfl) (by kernel_rfl) (by kernel_rfl) (by kernel_rfl) (fun _ _ _ h => h) (by rfl) ?_ (by assumption) ?_
    rotate_left
    · (intro wq hSq; (try dsimp only at hSq); go_split_ands; go_simp; (try with_reducible rfl))
    try simp only [Act.put, List.setIfInBounds_toArray, List.set_cons_zero, List.set_cons_succ]
    refine reg_take 6 (v := ?_) (by rfl) (by kernel_rfl) (by kernel_rfl) (by kernel_rfl) (fun _ _ _ h => h) (by rfl) ?_ (by assumption) ?_
    rotate_left
    · (intro wq hSq; (try dsimp only at hSq); go_split_ands; go_simp; (try with_reducible rfl))
    try simp only [Act.put, List.setIfInBounds_toArray, List.set_cons_zero, List.set_cons_succ]
    refine reg_one 7 (by rfl) (by kernel_rfl) (by rfl) (fun K hK => ?_)
    (go_simp)
    refine hK.out _ _ ?_ (fun hHeld => ?_)
    · exact KS.out _ (balloc (bdrew b1) _)
    clear hK K
    try simp only [Act.put, List.setIfInBounds_toArray, List.set_cons_zero, List.set_cons_succ]
    refine reg_one 8 (by rfl) (by kernel_rfl) (by rfl) (fun K hK => ?_)
    (go_simp)
    refine hK.out _ _ ?_ (fun hHeld => ?_)
    · exact KS.out _ (balloc (bdrew b1) _)
    clear hK K
    try simp only [Act.put, List.setIfInBounds_toArray, List.set_cons_zero, List.set_cons_succ]
    refine wpAnyH_done (by kernel_rfl) (noPanic_mk ?_) _
    obtain ⟨H, hH⟩ : ∃ H, H = w1.heap.size := ⟨_, rfl⟩
    have zR : R < H := by rw [hH]; exact rd1.lt
    have t2 : TkSt (fun W => RdrAt W R (tl24 l) 0) w (w1.alloc (.cells #[.int .u8 (k : Int), .int .u8 (lv : Int), .int .u64 0, .int .u64 0, .int .u64 0] 26)).drew H ⟨k, lv, 0, 0, 0⟩ := by
      refine ⟨by rw [hH]; exact heap_alloc_new w1 _, (rd1.on (balloc (bself w1) _) (Nat.le_refl _)).drewN 1, ?_, bdrew (balloc b1 _), by have := rd1.lt; omega⟩
      exact (heap_alloc_old w1 _ (by have := rd1.lt; omega)).trans r1
    rw [← hH]
    generalize World.drew _ = w2 at t2 ⊢
    have hXs : ∀ T W, RdrAt W R T 0 → ∀ i u, RdrAt (W.setCell ⟨H, i, none⟩ u) R T 0 := fun T W hr i u => hr.far (grown_set (p := ⟨H, i, none⟩) W rfl u) (fun g e => by have e2 : H = g := (by injection e); omega)
    have KX := Lib.hid hXs
    clear hXs rd1 r1 hH b1
    clear hHeld
    go_upto_region 6 with (go_at_call 21; refine (HF.out R _ g 0 HX.out.1 (by omega) t2.rd).mono ?_; rintro _ w3 ⟨rfl, hx3, hg3⟩; have t3 := t2.call (X' := fun W => RdrAt W R ((tl24 l).drop 8) 0) hg3 (Nat.ne_of_lt zR) z1 hx3; obtain ⟨_, _, c2, c3, c4⟩ := t3.hd.cells; have f2 := t3.hd.free 2)
    have t4 := t3.setG (fun W h i u => KX.out _ W h i u) g
    clear t2 t3 hg3 hx3 c2 c3 c4 f2
    generalize World.setCell w3 _ _ = w4 at t4 ⊢
    go_upto_region 7 with (go_at_call 21; refine (HF.out R _ e 8 HX.out.2.1 (by omega) t4.rd).mono ?_; rintro _ w5 ⟨rfl, hx5, hg5⟩; have t5 := t4.call (X' := fun W => RdrAt W R ((tl24 l).drop 16) 0) hg5 (Nat.ne_of_lt zR) z1 hx5; obtain ⟨_, _, c2, c3, c4⟩ := t5.hd.cells; have f2 := t5.hd.free 3)
    have t6 := t5.setE (fun W h i u => KX.out _ W h i u) e
    clear t4 t5 hg5 hx5 c2 c3 c4 f2
    generalize World.setCell w5 _ _ = w6 at t6 ⊢
    go_upto_region 8 with (go_at_call 21; refine (HF.out R _ n 16 HX.out.2.2 (by omega) t6.rd).mono ?_; rintro _ w7 ⟨rfl, hx7, hg7⟩; have t7 := t6.call (X' := fun W => RdrAt W R ((tl24 l).drop 24) 0) hg7 (Nat.ne_of_lt zR) z1 hx7; obtain ⟨_, _, c2, c3, c4⟩ := t7.hd.cells; have f2 := t7.hd.free 4)
    have t8 := t7.setN (fun W h i u => KX.out _ W h i u) n
    clear t6 t7 hg7 hx7 c2 c3 c4 f2
    generalize World.setCell w7 _ _ = w8 at t8 ⊢
    obtain ⟨⟨x0, x1, x2, x3, x4⟩, ⟨⟨y0, y1, y2, y3, y4⟩, v0, v1, v2, v3, v4⟩, bt⟩ := t8.fin (Below.refl _ _)
    simp only at x0 x1 x2 x3 x4
    have g5 : (Addr.add ⟨b, o, none⟩ 0) = ⟨b, o, none⟩ := by simp [Addr.add]
    have h4l : (l.take 4).length = 4 := by rw [List.length_take]; omega
    have h4 : SB w8 w.heap.size (.slice (some ⟨b, o, none⟩) 4 c) (l.take 4) := by
      have h := (hr.below bt).take (k := 4) (by omega)
      rw [Nat.mul_one, ← bv_take] at h
      refine ⟨_, c, by rw [h4l], by omega, hm, ?_⟩
      rw [h4l]; exact h
    have HR := Lib.hid (kRight_any ⟨k, lv, g, e, n⟩)
    have hok := readH_ok l
    rw [← HH.out] at hok
    obtain ⟨s4, hs4⟩ : ∃ s4 : ByteArray, s4 = ⟨(l.take 4).toArray⟩ := ⟨_, rfl⟩
    by_cases hq : l.take 4 = sTant
    · have hs4' : s4 = ⟨#[116, 97, 110, 116]⟩ := by rw [hs4, hq]; rfl
      cases hR : rightH ⟨k, lv, g, e, n⟩ with
      | true =>
        have HT := Lib.hid (take_good h30 HH.out hq hR)
        have HR2 : Hid (∀ W, Calls Tryd.prog 22 #[.agg #[.int .u8 (k : Int), .int .u8 (lv : Int), .int .u64 (g : Int), .int .u64 (e : Int), .int .u64 (n : Int)]] W fun en w' => en = .returned (.bool true) ∧ Below W.heap.size W w') := Lib.hid (fun W => by have := HR.out W hok; rw [hR] at this; exact this)
        clear HR hok hq hR
        go_wp2_with (first | (refine wl_b2s (o := ⟨some 31, _, _, _, _, _⟩) rfl (.tmp 30) rfl _ rfl _ _ h4 ?_; rw [← hs4, hs4']) | (go_at_call 22; refine (HR2.out _).mono ?_; rintro _ w9 ⟨rfl, hb9⟩; obtain ⟨⟨a0, a1, a2, a3, a4⟩, ⟨⟨b0, b1, b2, b3, b4⟩, d0, d1, d2, d3, d4⟩, bu⟩ := t8.fin hb9))
        exact bodyPost_ret (v := .tuple #[.agg #[.int .u8 (k : Int), .int .u8 (lv : Int), .int .u64 (g : Int), .int .u64 (e : Int), .int .u64 (n : Int)], .int .i64 0]) (by simp [results, Tryd.results10, go_sem, b0, b1, b2, b3, b4]) rfl ⟨by rw [HT.out], set5 bu (Nat.le_refl _) _ _ _ _ _⟩
      | false =>
        have HT := Lib.hid (take_badR h30 HH.out hR)
        have HR2 : Hid (∀ W, Calls Tryd.prog 22 #[.agg #[.int .u8 (k : Int), .int .u8 (lv : Int), .int .u64 (g : Int), .int .u64 (e : Int), .int .u64 (n : Int)]] W fun en w' => en = .returned (.bool false) ∧ Below W.heap.size W w') := Lib.hid (fun W => by have := HR.out W hok; rw [hR] at this; exact this)
        clear HR hok hq hR
        go_wp2_with (first | (refine wl_b2s (o := ⟨some 31, _, _, _, _, _⟩) rfl (.tmp 30) rfl _ rfl _ _ h4 ?_; rw [← hs4, hs4']) | (go_at_call 22; refine (HR2.out _).mono ?_; rintro _ w9 ⟨rfl, hb9⟩; obtain ⟨⟨a0, a1, a2, a3, a4⟩, ⟨⟨b0, b1, b2, b3, b4⟩, d0, d1, d2, d3, d4⟩, bu⟩ := t8.fin hb9))
        exact bodyPost_ret (v := .tuple #[.agg #[.int .u8 0, .int .u8 0, .int .u64 0, .int .u64 0, .int .u64 0], .int .i64 70]) (by simp [results, Tryd.results10, go_sem, b0, b1, b2, b3, b4]) rfl ⟨by rw [HT.out], set5 bu (Nat.le_refl _) _ _ _ _ _⟩
    · have HT := Lib.hid (take_bad4 h30 hq)
      have ge : (l.take 4 == [116, 97, 110, 116]) = false := by rw [beq_eq_false_iff_ne]; exact hq
      have ge' : ¬ (l.take 4 = [116, 97, 110, 116]) := hq
      clear HR hok hq hs4 s4
      go_wp2_with (first | (refine wl_b2s (o := ⟨some 31, _, _, _, _, _⟩) rfl (.tmp 30) rfl _ rfl _ _ h4 ?_))
      exact bodyPost_ret (v := .tuple #[.agg #[.int .u8 0, .int .u8 0, .int .u64 0, .int .u64 0, .int .u64 0], .int .i64 70]) (by simp [results, Tryd.results10, go_sem, y0, y1, y2, y3, y4]) rfl ⟨by rw [HT.out], set5 bt (Nat.le_refl _) _ _ _ _ _⟩
end Go.Proofs.YtjkcdnangmjoeaaDoor

namespace Go.Proofs.YtjkcdnangmjoeaaDoor
open Go.RowKit

theorem parse_x1 : parseV (⟨#[48, 48, 48, 49, 50, 46, 108, 111, 103]⟩ : ByteArray).data.toList = .tuple #[.int .u8 0, .int .u64 0, .bool false] := by kernel_rfl
theorem parse_x2 : parseV (⟨#[48, 48, 48, 48, 48, 49, 50, 46, 108, 111, 103]⟩ : ByteArray).data.toList = .tuple #[.int .u8 0, .int .u64 0, .bool false] := by kernel_rfl
theorem parse_x3 : parseV (⟨#[99, 117, 114, 114, 101, 110, 116]⟩ : ByteArray).data.toList = .tuple #[.int .u8 4, .int .u64 0, .bool true] := by kernel_rfl
theorem take_x1 : takeV (List.replicate 29 0) = .tuple #[.agg #[.int .u8 0, .int .u8 0, .int .u64 0, .int .u64 0, .int .u64 0], .int .i64 10] := by kernel_rfl
theorem take_x2 : takeV (List.replicate 30 0) = .tuple #[.agg #[.int .u8 0, .int .u8 0, .int .u64 0, .int .u64 0, .int .u64 0], .int .i64 70] := by kernel_rfl
theorem name_x1 : (⟨(nmOf 1 12).toArray⟩ : ByteArray) = ⟨#[48, 48, 48, 48, 49, 50, 46, 108, 111, 103]⟩ := by kernel_rfl
theorem name_x2 : (⟨(nmOf 3 1234567).toArray⟩ : ByteArray) = ⟨#[109, 97, 110, 105, 102, 101, 115, 116, 45, 49, 50, 51, 52, 53, 54, 55]⟩ := by kernel_rfl
theorem mk_zero (w : World) (n : Nat) (hn : n ≤ 1000) : ∃ w', (Instr.makeSlice 40 (.int .i64 (n : Int)) (.int .i64 (n : Int))).run Tryd.prog w = .ok (.slice (some ⟨w.heap.size, 0, none⟩) n n) w' ∧ SB w' w'.heap.size (.slice (some ⟨w.heap.size, 0, none⟩) n n) (List.replicate n 0) ∧ Below w.heap.size w w' := by
  obtain ⟨i0, hi0, hz0, hz1, hz2⟩ := info_parts infoB
  obtain ⟨w', h1, h2, h3⟩ := run_make_full (P := Tryd.prog) w w.heap.size 40 5 i0 _ 1 Tryd.underlying40 hi0 hz0 hz1 .i64 .i64 n (by rw [hz2]; omega) (by simp only [maxLen]; omega) (Nat.le_refl _)
  refine ⟨w', h1, ?_, below_grown (bself w) h3 (Nat.le_refl _) (fun g e => by cases e)⟩
  have h4 : OB w' w.heap.size (.slice (some ⟨w.heap.size, 0, none⟩) n n) (List.replicate n 0) := by
    unfold OB
    rw [show (Value.int .u8 0).cells = #[.int .u8 0] from rfl, toList_madeCells_one, Nat.mul_one] at h2
    rw [List.length_replicate, show bv (List.replicate n 0) = List.replicate n (Value.int .u8 0) from by simp [bv, u8v]]
    exact h2
  exact h4.sb
theorem mk_29 (w : World) : ∃ w', (Instr.makeSlice 40 (.int .i64 29) (.int .i64 29)).run Tryd.prog w = .ok (.slice (some ⟨w.heap.size, 0, none⟩) 29 29) w' ∧ SB w' w'.heap.size (.slice (some ⟨w.heap.size, 0, none⟩) 29 29) (List.replicate 29 0) ∧ Below w.heap.size w w' := mk_zero w 29 (by omega)
theorem mk_30 (w : World) : ∃ w', (Instr.makeSlice 40 (.int .i64 30) (.int .i64 30)).run Tryd.prog w = .ok (.slice (some ⟨w.heap.size, 0, none⟩) 30 30) w' ∧ SB w' w'.heap.size (.slice (some ⟨w.heap.size, 0, none⟩) 30 30) (List.replicate 30 0) ∧ Below w.heap.size w w' := mk_zero w 30 (by omega)
set_option maxHeartbeats 1000000 in
theorem name_c1 (W : World) : Calls Tryd.prog 11 #[.int .u8 1, .int .u64 12] W fun e w' => e = .returned (.string ⟨#[48, 48, 48, 48, 49, 50, 46, 108, 111, 103]⟩) ∧ Below W.heap.size W w' := by
  have := kName_any 1 12 W (by omega) (by omega); rw [name_x1] at this; exact this
theorem name_c2 (W : World) : Calls Tryd.prog 11 #[.int .u8 3, .int .u64 1234567] W fun e w' => e = .returned (.string ⟨#[109, 97, 110, 105, 102, 101, 115, 116, 45, 49, 50, 51, 52, 53, 54, 55]⟩) ∧ Below W.heap.size W w' := by
  have := kName_any 3 1234567 W (by omega) (by omega); rw [name_x2] at this; exact this
set_option maxHeartbeats 1000000 in
theorem shown_any (w : World) : Calls Tryd.prog 4 #[] w fun e w' => e = .returned (.bool true) ∧ Below w.heap.size w w' := by
  have HP1 : Hid (∀ W, Calls Tryd.prog 9 #[.string ⟨#[48, 48, 48, 49, 50, 46, 108, 111, 103]⟩] W fun e w' => e = .returned (.tuple #[.int .u8 0, .int .u64 0, .bool false]) ∧ Below W.heap.size W w') := Lib.hid (fun W => by have := kParse_any ⟨#[48, 48, 48, 49, 50, 46, 108, 111, 103]⟩ W (by decide); rw [parse_x1] at this; exact this)
  have HP2 : Hid (∀ W, Calls Tryd.prog 9 #[.string ⟨#[48, 48, 48, 48, 48, 49, 50, 46, 108, 111, 103]⟩] W fun e w' => e = .returned (.tuple #[.int .u8 0, .int .u64 0, .bool false]) ∧ Below W.heap.size W w') := Lib.hid (fun W => by have := kParse_any ⟨#[48, 48, 48, 48, 48, 49, 50, 46, 108, 111, 103]⟩ W (by decide); rw [parse_x2] at this; exact this)
  have HP3 : Hid (∀ W, Calls Tryd.prog 9 #[.string ⟨#[99, 117, 114, 114, 101, 110, 116]⟩] W fun e w' => e = .returned (.tuple #[.int .u8 4, .int .u64 0, .bool true]) ∧ Below W.heap.size W w') := Lib.hid (fun W => by have := kParse_any ⟨#[99, 117, 114, 114, 101, 110, 116]⟩ W (by decide); rw [parse_x3] at this; exact this)
  go_enter Tryd.func4, Tryd.ntmps4
  go_upto_region 2 with (go_at_call 9; refine (HP1.out _).mono ?_; rintro _ w1 ⟨rfl, hb1⟩)
  go_upto_region 3 with (go_at_call 9; refine (HP2.out _).mono ?_; rintro _ w2 ⟨rfl, hb2⟩)
  go_upto_region 4 with (go_at_call 9; refine (HP3.out _).mono ?_; rintro _ w3 ⟨rfl, hb3⟩)
  have b3 := bstep (bstep hb1 hb2) hb3
  clear hb1 hb2 hb3
  obtain ⟨w4, hm4, hs4, hb4⟩ := mk_29 w3
  have HK4 := kTake_any _ _ w4 hs4 (by decide)
  rw [take_x1] at HK4
  have HK4 := Lib.hid HK4
  have b4 := bstep b3 hb4
  go_upto_region 5 with (go_at_call 10; refine HK4.out.mono ?_; rintro _ w5 ⟨rfl, hb5⟩)
  have b5 := bstep b4 hb5
  clear hm4 HK4 hs4 hb4 hb5 b3 b4
  have b5 := balloc b5 (.cells #[.int .u8 0, .int .u8 0, .int .u64 0, .int .u64 0, .int .u64 0] 26)
  generalize World.alloc w5 _ = w5' at b5 ⊢
  obtain ⟨w6, hm6, hs6, hb6⟩ := mk_30 w5'
  have HK6 := kTake_any _ _ w6 hs6 (by decide)
  rw [take_x2] at HK6
  have HK6 := Lib.hid HK6
  have b6 := bstep b5 hb6
  go_upto_region 6 with (go_at_call 10; refine HK6.out.mono ?_; rintro _ w7 ⟨rfl, hb7⟩)
  have b7 := bstep b6 hb7
  have b7 := balloc b7 (.cells #[.int .u8 0, .int .u8 0, .int .u64 0, .int .u64 0, .int .u64 0] 26)
  generalize World.alloc w7 _ = w7' at b7 ⊢
  clear hm6 HK6 hs6 hb6 hb7 b5 b6
  have HN1 := Lib.hid name_c1
  have HN2 := Lib.hid name_c2
  go_wp2_with fail
  refine (HN1.out _).mono ?_
  rintro _ w8 ⟨rfl, hb8⟩
  go_wp2_with fail
  refine (HN2.out _).mono ?_
  rintro _ w9 ⟨rfl, hb9⟩
  go_wp2_with fail
  go_ret
  exact ⟨rfl, bstep (bstep b7 hb8) hb9⟩
end Go.Proofs.YtjkcdnangmjoeaaDoor

namespace Go.Proofs.YtjkcdnangmjoeaaDoor
open Go.RowKit

theorem hd_eq_iff (h i : Hd) : h = i ↔ h.k = i.k ∧ h.lv = i.lv ∧ h.g = i.g ∧ h.e = i.e ∧ h.n = i.n := by
  obtain ⟨a, b, c, d, e⟩ := h
  obtain ⟨a', b', c', d', e'⟩ := i
  simp
theorem run_eqF (w : World) (d : Nat) (xs ys : Array Value) : ∀ (L : List (TypeId × Nat × IntKind × Int × Int)) (fs : List Field), fs.map (fun f => (f.name != "_", f.type, f.offset)) = L.map (fun p => (true, p.1, p.2.1)) →
    (∀ p ∈ L, Tryd.prog.plainKey p.1 = true ∧ xs[p.2.1]? = some (.int p.2.2.1 p.2.2.2.1) ∧ ys[p.2.1]? = some (.int p.2.2.1 p.2.2.2.2) ∧ Tryd.prog.underlying p.1 = some (.int p.2.2.1)) →
    (Op.eqFields (d + 1) xs ys fs).run Tryd.prog w = .ok (L.all (fun p => p.2.2.2.1 == p.2.2.2.2)) w
  | [], fs, hf, _ => by
    have e : fs = [] := by simpa using hf
    subst e
    simp [Op.eqFields]
  | p :: L, fs, hf, h => by
    cases fs with
    | nil => simp at hf
    | cons f fs =>
      simp only [List.map_cons, List.cons.injEq, Prod.mk.injEq] at hf
      obtain ⟨⟨h1, h2, h3⟩, h4⟩ := hf
      have h1' : f.name ≠ "_" := by simpa using h1
      obtain ⟨k1, k2, k3, k4⟩ := h p (by simp)
      have ih := run_eqF w d xs ys L fs h4 (fun q hq => h q (by simp [hq]))
      have p1 := run_part_plain (P := Tryd.prog) w (xs := xs) k1 k2
      have p2 := run_part_plain (P := Tryd.prog) w (xs := ys) k1 k3
      simp only [Op.eqFields]
      rw [if_pos h1', h2, h3, Sem.run_bind, p1, Result.andThen_ok, Sem.run_bind, p2, Result.andThen_ok, Sem.run_bind, run_equalIn_int w d _ _ _ _ _ k4, Result.andThen_ok]
      by_cases e : p.2.2.2.1 = p.2.2.2.2
      · simp [e, ih]
      · simp [e]
theorem run_eqH (w : World) (h i : Hd) : (Op.equalIn 10000 26 (hdV h) (hdV i)).run Tryd.prog w = .ok (decide (h = i)) w := by
  rw [show (10000 : Nat) = 9998 + 1 + 1 from rfl, run_equalIn_struct w 9999 26 _ _ (by kernel_rfl) (by kernel_rfl)]
  have h5 := run_eqF w 9998 #[.int .u8 (h.k : Int), .int .u8 (h.lv : Int), .int .u64 (h.g : Int), .int .u64 (h.e : Int), .int .u64 (h.n : Int)] #[.int .u8 (i.k : Int), .int .u8 (i.lv : Int), .int .u64 (i.g : Int), .int .u64 (i.e : Int), .int .u64 (i.n : Int)]
    [(5, 0, .u8, (h.k : Int), (i.k : Int)), (5, 1, .u8, (h.lv : Int), (i.lv : Int)), (24, 2, .u64, (h.g : Int), (i.g : Int)), (24, 3, .u64, (h.e : Int), (i.e : Int)), (24, 4, .u64, (h.n : Int), (i.n : Int))]
    (Tryd.prog.fieldsOf 26).toList (by kernel_rfl) (by
      intro p hp
      simp only [List.mem_cons, List.not_mem_nil, or_false] at hp
      rcases hp with rfl | rfl | rfl | rfl | rfl
      all_goals exact ⟨by kernel_rfl, rfl, rfl, by kernel_rfl⟩)
  rw [show (9999 : Nat) = 9998 + 1 from rfl, h5]
  congr 1
  rw [Bool.eq_iff_iff, decide_eq_true_eq, hd_eq_iff]
  simp
  omega
theorem run_eqItemsN (w : World) (d : Nat) (l m : List UInt8) (hl : l.length = 12) (hm : m.length = 12) : ∀ is : List Nat, (∀ i ∈ is, i < 12) →
    ∃ r : Bool, (Op.eqItems (d + 1) 5 1 (nonA l) (nonA m) is).run Tryd.prog w = .ok r w ∧ (r = true ↔ ∀ i ∈ is, l[i]? = m[i]?)
  | [], _ => ⟨true, by simp [Op.eqItems], by simp⟩
  | i :: is, h => by
    have hi := h i (by simp)
    obtain ⟨r, hr, hiff⟩ := run_eqItemsN w d l m hl hm is (fun j hj => h j (by simp [hj]))
    have he : Tryd.prog.plainKey 5 = true := by kernel_rfl
    have p1 : (part 5 (nonA l) (i * 1)).run Tryd.prog w = .ok (u8v (l[i]'(by omega))) w := run_part_plain w he (by rw [Nat.mul_one]; simpa using bv_get l i (by omega))
    have p2 : (part 5 (nonA m) (i * 1)).run Tryd.prog w = .ok (u8v (m[i]'(by omega))) w := run_part_plain w he (by rw [Nat.mul_one]; simpa using bv_get m i (by omega))
    simp only [Op.eqItems, Sem.run_bind, p1, p2, Result.andThen_ok, run_equalIn_int w d 5 .u8 .u8 _ _ Tryd.underlying5]
    by_cases e : l[i]'(by omega) = m[i]'(by omega)
    · refine ⟨r, by simp [e, hr], ?_⟩
      rw [hiff]
      simp [List.getElem?_eq_getElem (show i < l.length by omega), List.getElem?_eq_getElem (show i < m.length by omega), e]
    · have e2 : ¬ ((l[i]'(by omega)).toNat : Int) = ((m[i]'(by omega)).toNat : Int) := fun h2 => e (UInt8.toNat_inj.1 (by omega))
      refine ⟨false, by simp [e2], ?_⟩
      simp [List.getElem?_eq_getElem (show i < l.length by omega), List.getElem?_eq_getElem (show i < m.length by omega), e]
theorem run_eqN (w : World) (l m : List UInt8) (hl : l.length = 12) (hm : m.length = 12) : (Op.equalIn 10000 32 (.agg (nonA l)) (.agg (nonA m))).run Tryd.prog w = .ok (decide (l = m)) w := by
  obtain ⟨i0, hi0, _⟩ := info_parts infoB
  rw [show (10000 : Nat) = 9999 + 1 from rfl, run_equalIn_array w 9999 (nonA l) (nonA m) Tryd.underlying32 hi0]
  obtain ⟨r, hr, hiff⟩ := run_eqItemsN w 9998 l m hl hm (List.range 12) (fun i hi => List.mem_range.1 hi)
  have hc : Tryd.prog.cellsOf 5 = 1 := by kernel_rfl
  rw [hc, show (9999 : Nat) = 9998 + 1 from rfl, hr]
  have e : r = decide (l = m) := by
    rw [Bool.eq_iff_iff, hiff, decide_eq_true_eq]
    constructor
    · intro h
      apply List.ext_getElem?
      intro i
      by_cases hi : i < 12
      · exact h i (List.mem_range.2 hi)
      · rw [List.getElem?_eq_none (by omega), List.getElem?_eq_none (by omega)]
    · intro h i _; rw [h]
  rw [e]
theorem run_eqNonce (w : World) (a b : Nat) (ha : a < 18446744073709551616) (hb : b < 18446744073709551616) (ca cb : Array Value) (hca : nonA (nonceOf a) = ca) (hcb : nonA (nonceOf b) = cb) : (Op.equalIn 10000 32 (.agg ca) (.agg cb)).run Tryd.prog w = .ok (decide (a = b)) w := by
  subst hca; subst hcb
  have h := run_eqN w _ _ (nonce_len a) (nonce_len b)
  rw [show decide (a = b) = decide (nonceOf a = nonceOf b) from by rw [decide_eq_decide]; exact (nonce_inj a b ha hb).symm]
  exact h
end Go.Proofs.YtjkcdnangmjoeaaDoor
