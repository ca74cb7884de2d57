/-
  What is proved here: words for memory (a slice that reads as a list of cells, or as a list of bytes; a slice whose cells the call owns) and the steps of a walk over append, by these words. No condition.
-/
import Derived.WalkKit
import Derived.Lib.Hide
import Derived.Lib.FrozenHead
import Derived.Deep.AppendLies
import Derived.Maps.AppendAt
import Derived.Deep.Draws
namespace Go.Proofs.Ytoccmedadiangaa
open Go.RowKit

/-- a byte as a value -/
abbrev u8v (b : UInt8) : Value := .int .u8 (b.toNat : Int)
/-- bytes as cells -/
def bv (l : List UInt8) : List Value := l.map u8v

theorem bv_length (l : List UInt8) : (bv l).length = l.length := by simp [bv]
theorem bv_append (l m : List UInt8) : bv (l ++ m) = bv l ++ bv m := by simp [bv]
theorem bv_nil : bv [] = [] := rfl
theorem bv_cons (b : UInt8) (l : List UInt8) : bv (b :: l) = u8v b :: bv l := rfl
theorem bv_one (l : List UInt8) : ∀ u ∈ bv l, u.oneCell' = true := by
  intro u hu
  obtain ⟨b, _, rfl⟩ := List.mem_map.1 hu
  rfl
theorem bv_get (l : List UInt8) (k : Nat) (h : k < l.length) : (bv l)[k]? = some (u8v l[k]) := by
  simp [bv, h]
theorem bv_drop (l : List UInt8) (k : Nat) : bv (l.drop k) = (bv l).drop k := by simp [bv, List.map_drop]
theorem bv_take (l : List UInt8) (k : Nat) : bv (l.take k) = (bv l).take k := by simp [bv, List.map_take]
theorem strCells_bv (s : ByteArray) : Lib.strCells s = bv s.data.toList := rfl

theorem add_lit0 (g o j : Nat) : (⟨g, o, none⟩ : Addr).add j = ⟨g, o + j, none⟩ := by
  unfold Addr.add; split <;> simp_all

/-- THE SLICE AT A, OF n ELEMENTS OF size CELLS, READS AS xs, in blocks below B (where there is an element) -/
def Rd (w : World) (B size : Nat) (A : Option Addr) (n : Nat) (xs : List Value) : Prop :=
  xs.length = n * size ∧ (A = none → n = 0) ∧ ∀ ad, A = some ad → 0 < n → ad.spot = none ∧ ad.block < B ∧ ∀ j u, xs[j]? = some u → w.cell? ⟨ad.block, ad.off + j, none⟩ = some u

section
variable {w w' : World} {B B' size n : Nat} {A : Option Addr} {xs : List Value}
theorem Rd.nil_ (w : World) (B size : Nat) : Rd w B size none 0 [] := ⟨by simp, fun _ => rfl, fun _ h => by cases h⟩
theorem Rd.len (h : Rd w B 1 A n xs) : xs.length = n := by have := h.1; omega
theorem Rd.keep (h : Rd w B size A n xs) (hk : ∀ p : Addr, p.block < B → w'.cell? p = w.cell? p) : Rd w' B size A n xs := by
  refine ⟨h.1, h.2.1, fun ad e hn => ?_⟩
  obtain ⟨hs, hb, hc⟩ := h.2.2 ad e hn
  exact ⟨hs, hb, fun j u hu => (hk ⟨ad.block, ad.off + j, none⟩ hb).trans (hc j u hu)⟩
theorem Rd.more (h : Rd w B size A n xs) (hB : B ≤ B') : Rd w B' size A n xs :=
  ⟨h.1, h.2.1, fun ad e hn => let ⟨a, b, c⟩ := h.2.2 ad e hn; ⟨a, Nat.lt_of_lt_of_le b hB, c⟩⟩
theorem Rd.below (h : Rd w B size A n xs) (hb : Below B w w') : Rd w' B size A n xs := h.keep fun _ hp => hb.cell hp
theorem Rd.drew (h : Rd w B size A n xs) : Rd w.drew B size A n xs := h
theorem Rd.drewN (h : Rd w B size A n xs) (k : Nat) : Rd (w.drewN k) B size A n xs := h
theorem Rd.alloc (h : Rd w B size A n xs) (hB : B ≤ w.heap.size) (o : Obj) : Rd (w.alloc o) B size A n xs :=
  h.keep fun p hp => World.cell?_alloc_lt w o p (by omega)
theorem Rd.setCell (h : Rd w B size A n xs) {p : Addr} (hB : B ≤ p.block) (u : Value) : Rd (w.setCell p u) B size A n xs :=
  h.keep fun q hq => World.cell?_setCell_other w p q u (fun e => by subst e; omega)
theorem Rd.grown (h : Rd w B size A n xs) {row : Option Nat} (hg : w.grownBy w' row) (hB : B ≤ w.heap.size) (hr : ∀ g, row = some g → B ≤ g) : Rd w' B size A n xs :=
  h.keep fun p hp => World.cell?_of_block (hg.block p.block (by omega) (fun e => by have := hr _ e.symm; omega))
/-- the address of a slice with an element -/
theorem Rd.at_ (h : Rd w B size A n xs) (hn : 0 < n) : ∃ b o, A = some ⟨b, o, none⟩ ∧ b < B ∧ ∀ j u, xs[j]? = some u → w.cell? ⟨b, o + j, none⟩ = some u := by
  cases A with
  | none => have := h.2.1 rfl; omega
  | some ad =>
    obtain ⟨hs, hb, hc⟩ := h.2.2 ad rfl hn
    refine ⟨ad.block, ad.off, ?_, hb, hc⟩
    cases ad; simp_all
theorem Rd.of_own {base e c : Nat} (h : w.ownsRow base e size (.slice A n c) n xs) : Rd w w.heap.size size A n xs := by
  refine ⟨h.1, fun e => ?_, fun ad e hn => ?_⟩
  · rcases h.2 with ⟨_, h0⟩ | ⟨g, cap, cur, hv, _⟩
    · exact h0
    · rw [e] at hv; cases hv
  · have hlt := h.lt ad.block (by rw [e]; rfl)
    have hc := h.cells (g := ad.block) (by rw [e]; rfl)
    rcases h.2 with ⟨hv, _⟩ | ⟨g, cap, cur, hv, _⟩
    · rw [e] at hv; cases hv
    · rw [e] at hv
      injection hv with hv
      injection hv with hv
      subst hv
      refine ⟨rfl, hlt.2, fun j u hu => ?_⟩
      have := hc j u hu
      rw [add_lit0] at this
      exact this
theorem Rd.new1 (w : World) (x : Value) (e : TypeId) : Rd (w.alloc (.cells #[x] e)) (w.heap.size + 1) 1 (some ⟨w.heap.size, 0, none⟩) 1 [x] := by
  refine ⟨rfl, (fun h => by cases h), fun ad h _ => ?_⟩
  injection h with h
  subst h
  refine ⟨rfl, Nat.lt_succ_self _, fun j u hu => ?_⟩
  have := cell_one_new w x e j u hu
  rwa [add_lit0] at this
/-- a new block, whole -/
theorem Rd.newBlock (w : World) (cs : Array Value) (e : TypeId) {g n size B : Nat} (hg : g = w.heap.size) (hB : g < B) (hn : cs.size = n * size) : Rd (w.alloc (.cells cs e)) B size (some ⟨g, 0, none⟩) n cs.toList := by
  subst hg
  refine ⟨by simpa using hn, (fun h => by cases h), fun ad h _ => ?_⟩
  injection h with h
  subst h
  refine ⟨rfl, hB, fun j u hu => ?_⟩
  have h2 := cell_of_row (w.alloc (.cells cs e)) w.heap.size (0 + j) _ _ _ (heap_alloc_new w _)
  rw [h2, Nat.zero_add]
  simpa using hu
/-- the slice's end from k on: what 's[k:]' reads as -/
theorem Rd.cut (h : Rd w B size A n xs) {k cap : Nat} (hk : k ≤ n) (hc : n ≤ cap) :
    Rd w B size (if cap = k then A else A.map (·.add (k * size))) (n - k) (xs.drop (k * size)) := by
  refine ⟨by rw [List.length_drop, h.1, Nat.sub_mul], fun e => ?_, fun ad e hn => ?_⟩
  · split at e
    · have := h.2.1 e; omega
    · have : A = none := by cases A <;> simp_all
      have := h.2.1 this; omega
  · rw [if_neg (by omega)] at e
    cases A with
    | none => simp at e
    | some a =>
      simp only [Option.map_some, Option.some.injEq] at e
      obtain ⟨hs, hb, hcell⟩ := h.2.2 a rfl (by omega)
      have ea : ad = ⟨a.block, a.off + k * size, none⟩ := by
        rw [← e]; cases a; simp only at hs; subst hs; rw [add_lit0]
      subst ea
      refine ⟨rfl, hb, fun j u hu => ?_⟩
      rw [List.getElem?_drop] at hu
      have := hcell _ u hu
      rwa [← Nat.add_assoc] at this
theorem Rd.take (h : Rd w B size A n xs) {k : Nat} (hk : k ≤ n) : Rd w B size A k (xs.take (k * size)) := by
  refine ⟨by rw [List.length_take, h.1]; exact Nat.min_eq_left (Nat.mul_le_mul_right _ hk), fun e => by have := h.2.1 e; omega, fun ad e hn => ?_⟩
  obtain ⟨hs, hb, hc⟩ := h.2.2 ad e (by omega)
  refine ⟨hs, hb, fun j u hu => hc j u ?_⟩
  rw [List.getElem?_take] at hu
  split at hu
  · exact hu
  · cases hu
end

/-- one step more behind what is below the first world's size -/
theorem bstep {w a b : World} (h : Below w.heap.size w a) (k : Below a.heap.size a b) : Below w.heap.size w b := h.trans (k.mono h.size)
theorem balloc {w a : World} (h : Below w.heap.size w a) (o : Obj) : Below w.heap.size w (a.alloc o) := h.alloc h.size o
/-- what stood below stands: two rules for the walk -/
theorem bcells {W w1 : World} (hb : Below W.heap.size W w1) : (∀ b o, b < W.heap.size → w1.cell? ⟨b, o, none⟩ = W.cell? ⟨b, o, none⟩) ∧ (∀ b o, b < W.heap.size → w1.frozen? ⟨b, o, none⟩ = W.frozen? ⟨b, o, none⟩) :=
  ⟨fun b o h => hb.cell (p := ⟨b, o, none⟩) h, fun b o h => hb.frozen (p := ⟨b, o, none⟩) h⟩
theorem brefl (w : World) (n : Nat) : Below w.heap.size w (w.drewN n) := ⟨rfl, rfl, rfl, Nat.le_refl _, fun _ _ => rfl⟩
theorem bdrewN {w a : World} (h : Below w.heap.size w a) (n : Nat) : Below w.heap.size w (a.drewN n) := ⟨h.os, h.tape, h.output, h.size, h.block⟩
theorem bdrew {w a : World} (h : Below w.heap.size w a) : Below w.heap.size w a.drew := ⟨h.os, h.tape, h.output, h.size, h.block⟩
theorem bself (w : World) : Below w.heap.size w w := Below.refl _ _
/-- what a call owns is kept where another call writes nothing below -/
theorem own_below {w w' : World} {B base : Nat} {e : TypeId} {size : Nat} {v : Value} {n : Nat} {xs : List Value}
    (h : w.ownsRow base e size v n xs) (hb : Below B w w') (hB : w.heap.size ≤ B) : w'.ownsRow base e size v n xs := by
  refine ⟨h.1, ?_⟩
  rcases h.2 with hn | ⟨g, cap, cur, hv, hbg, hg, rest⟩
  · exact .inl hn
  · have hlt : g < w.heap.size := (Array.getElem?_eq_some_iff.1 hg).1
    exact .inr ⟨g, cap, cur, hv, hbg, (hb.block g (by omega)).trans hg, rest⟩
theorem own_base {w : World} {base base' : Nat} {e : TypeId} {size : Nat} {v : Value} {n : Nat} {xs : List Value}
    (h : w.ownsRow base e size v n xs) (hB : base' ≤ base) : w.ownsRow base' e size v n xs := by
  refine ⟨h.1, ?_⟩
  rcases h.2 with hn | ⟨g, cap, cur, hv, hbg, rest⟩
  · exact .inl hn
  · exact .inr ⟨g, cap, cur, hv, by omega, rest⟩

theorem grown_set (w : World) {g : Nat} {p : Addr} (hp : p.block = g) (u : Value) : w.grownBy (w.setCell p u) (some g) :=
  ⟨rfl, rfl, rfl, by simp [World.setCell], fun k _ hk => Below.heap_setCell _ _ _ _ (fun e => hk (by rw [e, hp]))⟩
theorem grown_below {w a b : World} {B : Nat} {row : Option Nat} (h : w.grownBy a row) (hb : Below B a b) (hB : w.heap.size ≤ B) : w.grownBy b row :=
  ⟨hb.os.trans h.os, hb.tape.trans h.tape, hb.output.trans h.output, Nat.le_trans h.size hb.size, fun k hk hne => (hb.block k (by omega)).trans (h.block k hk hne)⟩
theorem below_grown {w a b : World} {B : Nat} {row : Option Nat} (h : Below B w a) (hg : a.grownBy b row) (hB : B ≤ a.heap.size) (hr : ∀ g, row = some g → B ≤ g) : Below B w b := h.grown hg hB hr
/-- THE SLICE VALUE v READS AS xs (n elements of size cells), below B -/
def Sl (w : World) (B size : Nat) (v : Value) (n : Nat) (xs : List Value) : Prop :=
  ∃ A c, v = .slice A n c ∧ n ≤ c ∧ c ≤ maxLen ∧ Rd w B size A n xs
section
variable {w w' : World} {B B' size n : Nat} {v : Value} {xs : List Value}
theorem Sl.nil_ (w : World) (B size : Nat) : Sl w B size (.slice none 0 0) 0 [] := ⟨none, 0, rfl, Nat.le_refl _, Nat.zero_le _, Rd.nil_ w B size⟩
theorem Sl.keep (h : Sl w B size v n xs) (hk : ∀ p : Addr, p.block < B → w'.cell? p = w.cell? p) : Sl w' B size v n xs := by
  obtain ⟨A, c, rfl, h1, h2, hr⟩ := h; exact ⟨A, c, rfl, h1, h2, hr.keep hk⟩
theorem Sl.more (h : Sl w B size v n xs) (hB : B ≤ B') : Sl w B' size v n xs := by
  obtain ⟨A, c, rfl, h1, h2, hr⟩ := h; exact ⟨A, c, rfl, h1, h2, hr.more hB⟩
theorem Sl.below (h : Sl w B size v n xs) (hb : Below B w w') : Sl w' B size v n xs := h.keep fun _ hp => hb.cell hp
theorem Sl.alloc (h : Sl w B size v n xs) (hB : B ≤ w.heap.size) (o : Obj) : Sl (w.alloc o) B size v n xs := h.keep fun p hp => World.cell?_alloc_lt w o p (by omega)
theorem Sl.drew (h : Sl w B size v n xs) : Sl w.drew B size v n xs := h
theorem Sl.drewN (h : Sl w B size v n xs) (k : Nat) : Sl (w.drewN k) B size v n xs := h
theorem Sl.setCell (h : Sl w B size v n xs) {p : Addr} (hB : B ≤ p.block) (u : Value) : Sl (w.setCell p u) B size v n xs :=
  h.keep fun q hq => World.cell?_setCell_other w p q u (fun e => by subst e; omega)
theorem Sl.grown (h : Sl w B size v n xs) {row : Option Nat} (hg : w.grownBy w' row) (hB : B ≤ w.heap.size) (hr : ∀ g, row = some g → B ≤ g) : Sl w' B size v n xs :=
  h.keep fun p hp => World.cell?_of_block (hg.block p.block (by omega) (fun e => by have := hr _ e.symm; omega))
theorem Sl.of_own {base e : Nat} (h : w.ownsRow base e size v n xs) : Sl w w.heap.size size v n xs := by
  rcases h.2 with ⟨rfl, rfl⟩ | ⟨g, cap, cur, rfl, _, _, h1, h2, _⟩
  · exact ⟨none, 0, rfl, Nat.le_refl _, Nat.zero_le _, Rd.of_own h⟩
  · exact ⟨_, cap, rfl, h1, h2, Rd.of_own h⟩
theorem Sl.cut (h : Sl w B size v n xs) {k : Nat} (hk : k ≤ n) {A : Option Addr} {c : Nat} (hv : v = .slice A n c) :
    Sl w B size (.slice (if c = k then A else A.map (·.add (k * size))) (n - k) (c - k)) (n - k) (xs.drop (k * size)) := by
  obtain ⟨A', c', e, h1, h2, hr⟩ := h
  rw [hv] at e
  injection e with e1 _ e3
  subst e1; subst e3
  exact ⟨_, _, rfl, by omega, by omega, hr.cut hk h1⟩
theorem Sl.take (h : Sl w B size v n xs) {k : Nat} (hk : k ≤ n) {A : Option Addr} {c : Nat} (hv : v = .slice A n c) :
    Sl w B size (.slice A k c) k (xs.take (k * size)) := by
  obtain ⟨A', c', e, h1, h2, hr⟩ := h
  rw [hv] at e
  injection e with e1 _ e3
  subst e1; subst e3
  exact ⟨_, _, rfl, by omega, by omega, hr.take hk⟩
end

/-- THE SLICE VALUE v READS AS THE BYTES l, below B -/
def SB (w : World) (B : Nat) (v : Value) (l : List UInt8) : Prop := Sl w B 1 v l.length (bv l)
section
variable {w w' : World} {B B' : Nat} {v : Value} {l : List UInt8}
theorem SB.nil_ (w : World) (B : Nat) : SB w B (.slice none 0 0) [] := Sl.nil_ w B 1
theorem SB.keep (h : SB w B v l) (hk : ∀ p : Addr, p.block < B → w'.cell? p = w.cell? p) : SB w' B v l := Sl.keep h hk
theorem SB.more (h : SB w B v l) (hB : B ≤ B') : SB w B' v l := Sl.more h hB
theorem SB.below (h : SB w B v l) (hb : Below B w w') : SB w' B v l := Sl.below h hb
theorem SB.alloc (h : SB w B v l) (hB : B ≤ w.heap.size) (o : Obj) : SB (w.alloc o) B v l := Sl.alloc h hB o
theorem SB.drew (h : SB w B v l) : SB w.drew B v l := h
theorem SB.drewN (h : SB w B v l) (k : Nat) : SB (w.drewN k) B v l := h
theorem SB.setCell (h : SB w B v l) {p : Addr} (hB : B ≤ p.block) (u : Value) : SB (w.setCell p u) B v l := Sl.setCell h hB u
theorem SB.grown (h : SB w B v l) {row : Option Nat} (hg : w.grownBy w' row) (hB : B ≤ w.heap.size) (hr : ∀ g, row = some g → B ≤ g) : SB w' B v l := Sl.grown h hg hB hr
theorem SB.form (h : SB w B v l) : ∃ A c, v = .slice A l.length c ∧ l.length ≤ c ∧ c ≤ maxLen ∧ Rd w B 1 A l.length (bv l) := h
/-- into the world and over the heap's size of a later one -/
theorem SB.on (h : SB w w.heap.size v l) (hb : Below w.heap.size w w') : SB w' w'.heap.size v l := (h.below hb).more hb.size
theorem SB.len (h : SB w B v l) : l.length ≤ maxLen := by obtain ⟨A, c, _, h1, h2, _⟩ := h; omega
end

theorem flat_length {α : Type} (f : α → List Value) (c : Nat) (hf : ∀ x, (f x).length = c) (l : List α) : (l.flatMap f).length = l.length * c := by
  induction l with
  | nil => simp
  | cons x l ih => rw [List.flatMap_cons, List.length_append, hf, ih, List.length_cons, Nat.succ_mul, Nat.add_comm]
theorem flat_get {α : Type} (f : α → List Value) (c : Nat) (hf : ∀ x, (f x).length = c) (l : List α) (k j : Nat) (hk : k < l.length) (hj : j < c) : (l.flatMap f)[k * c + j]? = (f l[k])[j]? := by
  induction l generalizing k with
  | nil => simp at hk
  | cons x l ih =>
    rw [List.flatMap_cons]
    cases k with
    | zero => rw [Nat.zero_mul, Nat.zero_add, List.getElem?_append_left (by rw [hf]; exact hj)]; rfl
    | succ k =>
      have hk' : k < l.length := by simpa using hk
      rw [List.getElem?_append_right (by rw [hf, Nat.succ_mul]; omega), hf, show (k + 1) * c + j - c = k * c + j from by rw [Nat.succ_mul]; omega, ih k hk']
      rfl
/-- the cells of an element -/
theorem Rd.elem {α : Type} {f : α → List Value} {c : Nat} {w : World} {B n : Nat} {A : Option Addr} {l : List α} (h : Rd w B c A n (l.flatMap f)) (hf : ∀ x, (f x).length = c) (hn : n = l.length) {k : Nat} (hk : k < l.length) :
    ∃ b o, A = some ⟨b, o, none⟩ ∧ b < B ∧ ∀ j u, j < c → (f l[k])[j]? = some u → w.cell? ⟨b, o + (k * c + j), none⟩ = some u := by
  subst hn
  obtain ⟨b, o, rfl, hb, hc⟩ := h.at_ (by omega)
  refine ⟨b, o, rfl, hb, fun j u hj hu => ?_⟩
  exact hc (k * c + j) u (by rw [flat_get f c hf l k j hk hj]; exact hu)

section
variable {P : Program} (w : World)
/-- THERE IS ROOM FOR n + m ELEMENTS, whatever capacity there is now -/
def Fits (n m bytes : Nat) : Prop := ∀ cap, n ≤ cap → cap < n + m → Builtin.nextslicecap (n + m) cap * bytes ≤ 281474976710656
theorem Fits.of (n m bytes : Nat) (h : (n + m) * bytes ≤ 140737488355328) : Fits n m bytes := fun _ _ h2 => growslice_fits h2 h
theorem Fits.one (n bytes : Nat) (h : (n + n / 4 + 513) * bytes ≤ 281474976710656) : Fits n 1 bytes := by
  intro cap h1 h2
  have e : cap = n := by omega
  subst e
  refine Nat.le_trans (Nat.mul_le_mul_right _ ?_) h
  unfold Builtin.nextslicecap
  split
  · omega
  · split
    · omega
    · rw [growBy_four]
      repeat' split
      all_goals omega
/-- append of what reads as news, nil or not, onto a row of the call's own -/
theorem run_app (base : Nat) (t ty e : TypeId) (i : TypeInfo) (z : Value) (size bytes : Nat) (ht : P.underlying t = some (.slice e)) (hi : P.info? e = some i) (hz : i.zero = some z)
    (hsize : i.size = size) (hby : i.bytes = bytes) (hzs : z.cells.size = size) (hsz : 0 < size)
    (v : Value) (n : Nat) (xs : List Value) (hown : w.ownsRow base e size v n xs)
    (B : Nat) (A : Option Addr) (m c : Nat) (news : List Value) (hr : Rd w B size A m news) (h1 : ∀ u ∈ news, u.oneCell' = true)
    (h63 : n + m ≤ maxLen) (hfits : Fits n m bytes) (hbase : base ≤ w.heap.size) :
    ∃ v' w', (Builtin.append_ #[t, t] ty #[v, .slice A m c]).run P w = .ok v' w' ∧ w'.ownsRow base e size v' (n + m) (xs ++ news) ∧ w.grownBy w' v.ownBlock ∧
      (v'.ownBlock = v.ownBlock ∨ v'.ownBlock = some w.heap.size) ∧ Below base w w' := by
  subst hsize
  subst hby
  have below : ∀ w', w.grownBy w' v.ownBlock → Below base w w' := fun w' hg => (Below.refl _ _).grown hg hbase fun k hk => (hown.lt k hk).1
  cases A with
  | none =>
    have hm := hr.2.1 rfl
    subst hm
    have hn : news = [] := List.eq_nil_of_length_eq_zero (by simpa using hr.1)
    subst hn
    refine ⟨v, w, ?_, by simpa using hown, World.grownBy.refl w _, .inl rfl, Below.refl _ _⟩
    rcases hown.2 with ⟨rfl, rfl⟩ | ⟨g, cap, cur, rfl, _, _, hnc, _⟩
    · simp [Builtin.append_, run_underlying ht, sizeOf, typeInfo, hi, Builtin.lenOf, Builtin.firstCells]
    · simp [Builtin.append_, run_underlying ht, sizeOf, typeInfo, hi, Builtin.lenOf, Builtin.firstCells, hnc, storeCells]
  | some a =>
    have hl := hr.1
    have hnews : ∀ j u, news[j]? = some u → w.cell? (a.add j) = some u := fun j u hu => by
      have hm0 : 0 < m := by
        rcases Nat.eq_zero_or_pos m with h0 | h0
        · rw [h0, Nat.zero_mul] at hl
          rw [List.eq_nil_of_length_eq_zero hl] at hu
          simp at hu
        · exact h0
      obtain ⟨hs, hb, hc⟩ := hr.2.2 a rfl hm0
      have : a.add j = ⟨a.block, a.off + j, none⟩ := by cases a; simp only at hs; subst hs; rw [add_lit0]
      rw [this]; exact hc j u hu
    have hsmall : n + m ≤ 9223372036854775807 := by simp only [maxLen] at h63; omega
    have hlen : (xs ++ news).length = (n + m) * i.size := by rw [List.length_append, hown.1, hl, Nat.add_mul]
    have grown : ∀ (old : Nat), old < n + m → ∀ (row : Option Nat),
        (w.drew.alloc (.cells (xs.toArray ++ news.toArray ++ Builtin.zeroCells z.cells (grownCap w (n + m) old e - (n + m))) e)).ownsRow base e i.size
          (.slice (some ⟨w.heap.size, 0, none⟩) (n + m) (grownCap w (n + m) old e)) (n + m) (xs ++ news) ∧
        w.grownBy (w.drew.alloc (.cells (xs.toArray ++ news.toArray ++ Builtin.zeroCells z.cells (grownCap w (n + m) old e - (n + m))) e)) row := by
      intro old ho row
      have hge := grownCap_ge w (n + m) old e
      have hcm : grownCap w (n + m) old e ≤ maxLen := grownCap_le_maxLen w (n + m) old e h63
      refine ⟨⟨hlen, .inr ⟨w.heap.size, _, _, rfl, hbase, heap_alloc_new w.drew _, hge, hcm, ?_, ?_⟩⟩, ⟨rfl, rfl, rfl, by simp, fun k hk _ => Below.heap_alloc w.drew _ k hk⟩⟩
      · simp only [Array.size_append, List.size_toArray, size_zeroCells, hzs, hown.1, hl, ← Nat.add_mul]
        congr 1
        omega
      · simp only [Array.toList_append, List.append_assoc]
        rw [← List.append_assoc, ← hlen]
        exact List.take_left
    rcases hown.2 with ⟨rfl, rfl⟩ | ⟨g, cap, cur, rfl, hbg, hg, hnc, hcm, hcs, htake⟩
    · have hx : xs = [] := List.eq_nil_of_length_eq_zero (by simpa using hown.1)
      subst hx
      by_cases hm : m = 0
      · subst hm
        have hn : news = [] := List.eq_nil_of_length_eq_zero (by simpa using hl)
        subst hn
        refine ⟨.slice none 0 0, w, ?_, World.ownsRow_nil w base e i.size, World.grownBy.refl w _, Or.inl rfl, Below.refl _ _⟩
        simp [Builtin.append_, run_underlying ht, sizeOf, typeInfo, hi, Builtin.lenOf, Builtin.firstCells, loadCells, loadCellsFrom]
      · have hr := run_append_nil (P := P) w t ty e i z ht hi hz a m c news hl hnews (by omega) (by omega) (by
          have hb := hfits 0 (by omega) (by omega)
          rw [Nat.zero_add, nextslicecap_zero (by omega)] at hb
          exact hb)
        have hgr := grown 0 (by omega) (Value.ownBlock (.slice none 0 0))
        simp only [Nat.zero_add, List.nil_append, Array.empty_append] at hgr ⊢
        exact ⟨_, _, hr, hgr.1, hgr.2, Or.inr rfl, below _ hgr.2⟩
    · by_cases hroom : n + m ≤ cap
      · have hfit : n * i.size + news.length ≤ cur.size := by rw [hl, hcs, ← Nat.add_mul]; exact Nat.mul_le_mul_right _ hroom
        have hr := run_append_room (P := P) w t ty e i ht hi g n cap cur hg a m c news hl hnews h1 hroom hfit
        have hgb : w.grownBy (w.setRow g (cur.toList.take (n * i.size) ++ news ++ cur.toList.drop (n * i.size + news.length)).toArray) (some g) :=
          ⟨rfl, rfl, rfl, by simp, fun k _ hk => setRow_other w g k _ (fun e => hk (by rw [e]))⟩
        refine ⟨_, _, hr, ⟨hlen, .inr ⟨g, cap, _, rfl, hbg, setRow_heap w g cur _ e _ hg, hroom, hcm, ?_, ?_⟩⟩, hgb, Or.inl rfl, below _ hgb⟩
        · simp only [List.size_toArray, List.length_append, List.length_take, List.length_drop, Array.length_toList]
          omega
        · rw [htake, ← hlen]
          exact List.take_left
      · have holds : ∀ j u, xs[j]? = some u → w.cell? ((⟨g, 0, none⟩ : Addr).add j) = some u := hown.cells (g := g) rfl
        have hr := run_append_grow (P := P) w t ty e i z ht hi hz ⟨g, 0, none⟩ n cap xs hown.1 holds a m c news hl hnews (by omega) (by omega) (hfits cap hnc (by omega))
        have hgr := grown cap (by omega) (Value.ownBlock (.slice (some ⟨g, 0, none⟩) n cap))
        exact ⟨_, _, hr, hgr.1, hgr.2, Or.inr rfl, below _ hgr.2⟩

theorem wp_app {o : Oper} {a : Act} {K : Act → World → Prop} {Q : Exit → Act → World → Prop} (s x : Operand) (t : TypeId)
    (ho : o.op = .call { callee := .builtin .append, args := #[s, x], argTypes := #[t, t] })
    (base : Nat) (e : TypeId) (i : TypeInfo) (z : Value) (size bytes : Nat) (ht : P.underlying t = some (.slice e)) (hi : P.info? e = some i) (hz : i.zero = some z)
    (hsize : i.size = size) (hby : i.bytes = bytes) (hzs : z.cells.size = size) (hsz : 0 < size)
    (v : Value) (n : Nat) (xs : List Value) (hs : a.eval s = v) (hown : w.ownsRow base e size v n xs)
    (B : Nat) (m : Nat) (u : Value) (news : List Value) (hx : a.eval x = u) (hr : Sl w B size u m news) (h1 : ∀ u ∈ news, u.oneCell' = true)
    (h63 : n + m ≤ maxLen) (hfits : Fits n m bytes) (hbase : base ≤ w.heap.size)
    (h : ∀ v' w', w'.ownsRow base e size v' (n + m) (xs ++ news) → w.grownBy w' v.ownBlock → (v'.ownBlock = v.ownBlock ∨ v'.ownBlock = some w.heap.size) → Below base w w' → K (a.put o.dst v') w') : o.wp P a w K Q := by
  obtain ⟨A, c, rfl, _, _, hr⟩ := hr
  obtain ⟨v', w', hrun, h2, h3, h4, h5⟩ := run_app (P := P) w base t o.type e i z size bytes ht hi hz hsize hby hzs hsz v n xs hown B A m c news hr h1 h63 hfits hbase
  unfold Oper.wp execOp
  simp only [ho, resolve, invoke, builtin, Sem.run_bind, Sem.run_pure, Result.andThen_ok, List.map_toArray, List.map_cons, List.map_nil, hs, hx, hrun]
  exact h v' w' h2 h3 h4 h5
end
/-- a law on an operation, in a list of operations; in a region that draws its order -/
theorem wl_of {P : Program} {ops : Array Oper} {rest : List Oper} {o : Oper} {a : Act} {Q : Exit → Act → World → Prop} {w : World} (hgd : Region.wanted o (yielded ops a.tmps) = true)
    (h : ∀ K : Act → World → Prop, (∀ a w, wpList P ops Q rest a w → K a w) → o.wp P a w K Q) : wpList P ops Q (o :: rest) a w :=
  wpList_step fun K hK => by rw [if_pos hgd]; exact h K hK
theorem st_of {P : Program} {ops : Array Oper} {o : Oper} {a : Act} {K : Act → World → Prop} {Q : Exit → Act → World → Prop} {w : World} {E : Prop} (hgd : Region.wanted o (yielded ops a.tmps) = true)
    (h : o.wp P a w K Q) : if Region.wanted o (yielded ops a.tmps) = true then o.wp P a w K Q else E := by
  rw [if_pos hgd]
  exact h
end Go.Proofs.Ytoccmedadiangaa
