/-
  What is proved here: entries and operations as data, and as cells; which entry may be. No program in sight. No condition.
-/
import Derived.Test.YtoccmedadiangaaMem
import Derived.Test.YtoccmedadiangaaNumLaw
import Derived.Lib.Strings
namespace Go.Proofs.Ytoccmedadiangaa

/-- an entry -/
structure Ent where
  user : ByteArray
  seq : UInt64
  kind : UInt8
  value : ByteArray
/-- an operation -/
structure Opn where
  kind : UInt8
  user : ByteArray
  value : ByteArray
def entC (e : Ent) : List Value := [.string e.user, .int .u64 (e.seq.toNat : Int), .int .u8 (e.kind.toNat : Int), .string e.value]
def opC (o : Opn) : List Value := [.int .u8 (o.kind.toNat : Int), .string o.user, .string o.value]
abbrev entV (e : Ent) : Value := .agg #[.string e.user, .int .u64 (e.seq.toNat : Int), .int .u8 (e.kind.toNat : Int), .string e.value]
abbrev opV (o : Opn) : Value := .agg #[.int .u8 (o.kind.toNat : Int), .string o.user, .string o.value]
/-- which entry may be -/
def rightE (e : Ent) : Bool := decide (e.user.size ≤ 1024) && decide (e.seq.toNat ≤ 72057594037927935) && decide (e.value.size ≤ 65536) && (decide (e.kind.toNat = 1) || (decide (e.kind.toNat = 0) && decide (e.value.size = 0)))
/-- an operation at a moment -/
def entAt (seq : UInt64) (o : Opn) : Ent := ⟨o.user, seq, o.kind, o.value⟩
/-- which operations may be a batch from a moment on -/
def rightB (seq : UInt64) (l : List Opn) : Bool := decide (1 ≤ l.length) && decide (l.length ≤ 1000) && decide (1 ≤ seq.toNat) && decide (seq.toNat + l.length ≤ 72057594037927936) && l.all (fun o => rightE (entAt seq o))
theorem entC_length (e : Ent) : (entC e).length = 4 := rfl
theorem opC_length (o : Opn) : (opC o).length = 3 := rfl
theorem u64_lt (n : UInt64) : n.toNat < 18446744073709551616 := n.toNat_lt
theorem u8_lt (n : UInt8) : n.toNat < 256 := n.toNat_lt
/-- what operations come to from a moment on -/
def entsFrom : UInt64 → List Opn → List Ent
  | _, [] => []
  | seq, o :: l => entAt seq o :: entsFrom (seq + 1) l
theorem entsFrom_length (l : List Opn) : ∀ seq, (entsFrom seq l).length = l.length := by
  induction l with
  | nil => intro seq; rfl
  | cons o l ih => intro seq; simp [entsFrom, ih]
theorem entsFrom_snoc (l : List Opn) (o : Opn) : ∀ seq, entsFrom seq (l ++ [o]) = entsFrom seq l ++ [entAt (seq + UInt64.ofNat l.length) o] := by
  induction l with
  | nil => intro seq; simp [entsFrom]
  | cons x l ih =>
    intro seq
    simp only [List.cons_append, entsFrom, ih, List.length_cons]
    congr 4
    rw [UInt64.ofNat_add, UInt64.add_assoc, UInt64.add_comm 1]
    rfl
theorem entsFrom_append (l m : List Opn) : ∀ seq, entsFrom seq (l ++ m) = entsFrom seq l ++ entsFrom (seq + UInt64.ofNat l.length) m := by
  induction l with
  | nil => intro seq; simp [entsFrom]
  | cons x l ih =>
    intro seq
    simp only [List.cons_append, entsFrom, ih, List.length_cons]
    congr 3
    rw [UInt64.ofNat_add, UInt64.add_assoc, UInt64.add_comm 1]
    rfl
theorem entsFrom_take (seq : UInt64) (l : List Opn) (k : Nat) (hk : k < l.length) : entsFrom seq (l.take (k + 1)) = entsFrom seq (l.take k) ++ [entAt (seq + UInt64.ofNat k) l[k]] := by
  rw [List.take_succ_eq_append_getElem hk, entsFrom_snoc, List.length_take, Nat.min_eq_left (by omega)]
/-- how much operations count -/
def sizeOps (l : List Opn) : Nat := (l.map fun o => o.user.size + o.value.size + 8).sum
def bytesOps (l : List Opn) : Nat := (l.map fun o => o.user.size + o.value.size).sum
theorem sizeOps_bytes (l : List Opn) : sizeOps l = 8 * l.length + bytesOps l := by
  induction l with
  | nil => rfl
  | cons o l ih => simp only [sizeOps, bytesOps, List.map_cons, List.sum_cons, List.length_cons] at *; omega
theorem bytesOps_take (l : List Opn) (k : Nat) (hk : k < l.length) : bytesOps (l.take (k + 1)) = bytesOps (l.take k) + (l[k].user.size + l[k].value.size) := by
  rw [List.take_succ_eq_append_getElem hk]; simp only [bytesOps, List.map_append, List.sum_append, List.map_cons, List.map_nil, List.sum_cons, List.sum_nil]; omega
theorem bytesOps_take_le (l : List Opn) (k : Nat) : bytesOps (l.take k) ≤ bytesOps l := by
  conv => rhs; rw [← List.take_append_drop k l]
  simp only [bytesOps, List.map_append, List.sum_append]; omega
theorem sizeOps_take (l : List Opn) (k : Nat) (hk : k < l.length) : sizeOps (l.take (k + 1)) = sizeOps (l.take k) + (l[k].user.size + l[k].value.size + 8) := by
  rw [List.take_succ_eq_append_getElem hk]; simp only [sizeOps, List.map_append, List.sum_append, List.map_cons, List.map_nil, List.sum_cons, List.sum_nil]; omega
theorem sizeOps_take_le (l : List Opn) (k : Nat) : sizeOps (l.take k) ≤ sizeOps l := by
  conv => rhs; rw [← List.take_append_drop k l]
  simp only [sizeOps, List.map_append, List.sum_append]; omega
/-- an operation's bytes, a batch's bytes -/
def opB (o : Opn) : List UInt8 := o.kind :: (num o.user.size ++ o.user.data.toList ++ (if o.kind.toNat = 1 then num o.value.size ++ o.value.data.toList else []))
def encB (seq : UInt64) (l : List Opn) : List UInt8 := fix seq.toNat 8 ++ num l.length ++ l.flatMap opB
theorem toList_size (s : ByteArray) : s.data.toList.length = s.size := by rw [Array.length_toList]; rfl
theorem rightE_le {e : Ent} (h : rightE e = true) : e.user.size ≤ 1024 ∧ e.value.size ≤ 65536 := by
  simp [rightE] at h
  omega
theorem rightB_all {seq : UInt64} {l : List Opn} (h : rightB seq l = true) : 1 ≤ l.length ∧ l.length ≤ 1000 ∧ 1 ≤ seq.toNat ∧ seq.toNat + l.length ≤ 72057594037927936 ∧ ∀ o ∈ l, rightE (entAt seq o) = true := by
  simp only [rightB, Bool.and_eq_true, decide_eq_true_eq, List.all_eq_true] at h
  obtain ⟨⟨⟨⟨h1, h2⟩, h3⟩, h4⟩, h5⟩ := h
  exact ⟨h1, h2, h3, h4, h5⟩
theorem opB_le {o : Opn} (h1 : o.user.size ≤ 1024) (h2 : o.value.size ≤ 65536) : (opB o).length ≤ 66600 := by
  have a := num_length o.user.size
  have b := num_length o.value.size
  have c := toList_size o.user
  have d := toList_size o.value
  unfold opB
  split <;> simp only [List.length_cons, List.length_append, List.length_nil, c, d] <;> omega
theorem opB_put {o : Opn} (h : o.kind.toNat = 1) : opB o = [o.kind] ++ num o.user.size ++ o.user.data.toList ++ num o.value.size ++ o.value.data.toList := by simp [opB, h]
theorem opB_del {o : Opn} (h : ¬ o.kind.toNat = 1) : opB o = [o.kind] ++ num o.user.size ++ o.user.data.toList := by simp [opB, h]
theorem opBs_le {l : List Opn} (h : ∀ o ∈ l, o.user.size ≤ 1024 ∧ o.value.size ≤ 65536) : (l.flatMap opB).length ≤ l.length * 66600 := by
  induction l with
  | nil => simp
  | cons o l ih =>
    have h1 := h o (by simp)
    have h2 := ih (fun x hx => h x (by simp [hx]))
    have h3 := opB_le h1.1 h1.2
    rw [List.flatMap_cons, List.length_append, List.length_cons]
    omega
theorem flat_snoc {α β : Type} (f : α → List β) (l : List α) (k : Nat) (hk : k < l.length) : (l.take (k + 1)).flatMap f = (l.take k).flatMap f ++ f l[k] := by
  rw [List.take_succ_eq_append_getElem hk, List.flatMap_append]; simp
theorem rightB_f1 {seq : UInt64} {l : List Opn} (h : (l.length : Int) = 0) : rightB seq l = false := by
  have h' : ¬ 1 ≤ l.length := by omega
  simp [rightB, h']
theorem rightB_f2 {seq : UInt64} {l : List Opn} (h : (1000 : Int) < (l.length : Int)) : rightB seq l = false := by
  have h' : ¬ l.length ≤ 1000 := by omega
  simp [rightB, h']
theorem rightB_f3 {seq : UInt64} {l : List Opn} (h : (seq.toNat : Int) = 0) : rightB seq l = false := by
  have h' : ¬ 1 ≤ seq.toNat := by omega
  simp [rightB, h']
theorem rightB_f4 {seq : UInt64} {l : List Opn} (h : 72057594037927936 < seq.toNat + l.length) : rightB seq l = false := by
  have h' : ¬ seq.toNat + l.length ≤ 72057594037927936 := by omega
  simp [rightB, h']
theorem rightB_bad {seq : UInt64} {l : List Opn} {k : Nat} (hk : k < l.length) (h : rightE (entAt seq l[k]) = false) : rightB seq l = false := by
  have : l.all (fun o => rightE (entAt seq o)) = false := by
    rw [List.all_eq_false]
    exact ⟨l[k], List.getElem_mem hk, by simp [h]⟩
  simp [rightB, this]
theorem rightB_good {seq : UInt64} {l : List Opn} (h1 : 1 ≤ l.length) (h2 : l.length ≤ 1000) (h3 : 1 ≤ seq.toNat) (h4 : seq.toNat + l.length ≤ 72057594037927936) (h : ∀ k (hk : k < l.length), rightE (entAt seq l[k]) = true) : rightB seq l = true := by
  have : l.all (fun o => rightE (entAt seq o)) = true := by
    rw [List.all_eq_true]
    intro x hx
    obtain ⟨k, hk, rfl⟩ := List.getElem_of_mem hx
    exact h k hk
  simp [rightB, this, h1, h2, h3, h4]
theorem ret_bool {a b : Bool} (h : a = b) : Ending.returned (.bool a) = Ending.returned (.bool b) := by rw [h]
theorem ret_int {k : IntKind} {a b : Int} (h : a = b) : Ending.returned (.int k a) = Ending.returned (.int k b) := by rw [h]
theorem isEmpty_size (s : ByteArray) : s.toList.isEmpty = decide (s.size = 0) := by
  rw [Lib.toList_data, Bool.eq_iff_iff]
  simp only [List.isEmpty_iff, decide_eq_true_eq]
  have e : s.data.toList.length = s.size := by rw [Array.length_toList]; rfl
  rw [← e]
  exact List.length_eq_zero_iff.symm
theorem rightE_f1 {e : Ent} (h : (1024 : Int) < (e.user.size : Int)) : rightE e = false := by
  have h' : ¬ e.user.size ≤ 1024 := by omega
  simp [rightE, h']
theorem rightE_f2 {e : Ent} (h : (65536 : Int) < (e.value.size : Int)) : rightE e = false := by
  have h' : ¬ e.value.size ≤ 65536 := by omega
  simp [rightE, h']
theorem rightE_f3 {e : Ent} (h : (72057594037927935 : Int) < (e.seq.toNat : Int)) : rightE e = false := by
  have h' : ¬ e.seq.toNat ≤ 72057594037927935 := by omega
  simp [rightE, h']
theorem rightE_del {e : Ent} (h1 : (e.user.size : Int) ≤ 1024) (h2 : (e.value.size : Int) ≤ 65536) (h3 : (e.seq.toNat : Int) ≤ 72057594037927935) (h : ((e.kind.toNat : Int) == 0) = true) : rightE e = e.value.toList.isEmpty := by
  have a1 : e.user.size ≤ 1024 := by omega
  have a2 : e.value.size ≤ 65536 := by omega
  have a3 : e.seq.toNat ≤ 72057594037927935 := by omega
  have a4 : e.kind.toNat = 0 := by rw [beq_iff_eq] at h; omega
  rw [isEmpty_size]
  simp [rightE, a1, a2, a3, a4]
theorem rightE_put {e : Ent} (h1 : (e.user.size : Int) ≤ 1024) (h2 : (e.value.size : Int) ≤ 65536) (h3 : (e.seq.toNat : Int) ≤ 72057594037927935) (h : ((e.kind.toNat : Int) == 0) = false) : rightE e = ((e.kind.toNat : Int) == 1) := by
  have a1 : e.user.size ≤ 1024 := by omega
  have a2 : e.value.size ≤ 65536 := by omega
  have a3 : e.seq.toNat ≤ 72057594037927935 := by omega
  have a4 : e.kind.toNat ≠ 0 := by rw [beq_eq_false_iff_ne] at h; omega
  rw [Bool.eq_iff_iff]
  simp [rightE, a1, a2, a3, a4]
  omega
theorem rightE_f4 {e : Ent} (h : (1 : Int) < (e.kind.toNat : Int)) : rightE e = false := by
  have h' : ¬ e.kind.toNat = 1 := by omega
  have h2 : ¬ e.kind.toNat = 0 := by omega
  simp [rightE, h', h2]
theorem rightE_r1 {e : Ent} (h1 : (e.user.size : Int) ≤ 1024) (h3 : (e.seq.toNat : Int) ≤ 72057594037927935) (h2 : (e.value.size : Int) ≤ 65536) (h : (e.kind.toNat : Int) = 1) : rightE e = true := by
  have a1 : e.user.size ≤ 1024 := by omega
  have a2 : e.value.size ≤ 65536 := by omega
  have a3 : e.seq.toNat ≤ 72057594037927935 := by omega
  have a4 : e.kind.toNat = 1 := by omega
  simp [rightE, a1, a2, a3, a4]
theorem rightE_r2 {e : Ent} (h1 : (e.user.size : Int) ≤ 1024) (h3 : (e.seq.toNat : Int) ≤ 72057594037927935) (h4 : (e.kind.toNat : Int) ≤ 1) (h2 : (e.value.size : Int) ≤ 65536) (h : ¬ (e.kind.toNat : Int) = 1) : rightE e = ((e.kind.toNat : Int) == 1 || e.value.toList.isEmpty) := by
  have a0 : ((e.kind.toNat : Int) == 1) = false := beq_eq_false_iff_ne.2 h
  rw [a0, Bool.false_or]
  exact rightE_del h1 h2 h3 (by rw [beq_iff_eq]; omega)
/-- a slice of operations -/
def SO (w : World) (B : Nat) (v : Value) (l : List Opn) : Prop := Sl w B 3 v l.length (l.flatMap opC)
/-- a slice of entries -/
def SE (w : World) (B : Nat) (v : Value) (l : List Ent) : Prop := Sl w B 4 v l.length (l.flatMap entC)
/-- texts that are not too long -/
def OpOk (o : Opn) : Prop := o.user.size ≤ 9223372036854775807 ∧ o.value.size ≤ 9223372036854775807
def EntOk (e : Ent) : Prop := e.user.size ≤ 9223372036854775807 ∧ e.value.size ≤ 9223372036854775807
section
variable {w w' : World} {B B' : Nat} {v : Value} {l : List Opn} {m : List Ent}
theorem SO.on (h : SO w w.heap.size v l) (hb : Go.RowKit.Below w.heap.size w w') : SO w' w'.heap.size v l := (Sl.below h hb).more hb.size
theorem SE.on (h : SE w w.heap.size v m) (hb : Go.RowKit.Below w.heap.size w w') : SE w' w'.heap.size v m := (Sl.below h hb).more hb.size
theorem SO.form (h : SO w B v l) : ∃ A c, v = .slice A l.length c ∧ l.length ≤ c ∧ c ≤ maxLen ∧ Rd w B 3 A l.length (l.flatMap opC) := h
theorem SE.form (h : SE w B v m) : ∃ A c, v = .slice A m.length c ∧ m.length ≤ c ∧ c ≤ maxLen ∧ Rd w B 4 A m.length (m.flatMap entC) := h
theorem Rd.op {A : Option Addr} {n : Nat} (h : Rd w B 3 A n (l.flatMap opC)) (hn : n = l.length) {k : Nat} (hk : k < l.length) :
    ∃ b o, A = some ⟨b, o, none⟩ ∧ b < B ∧ w.cell? ⟨b, o + k * 3, none⟩ = some (.int .u8 (l[k].kind.toNat : Int)) ∧ w.cell? ⟨b, o + k * 3 + 1, none⟩ = some (.string l[k].user) ∧ w.cell? ⟨b, o + k * 3 + 2, none⟩ = some (.string l[k].value) := by
  obtain ⟨b, o, e, hb, hc⟩ := h.elem opC_length hn hk
  exact ⟨b, o, e, hb, hc 0 _ (by omega) rfl, hc 1 _ (by omega) rfl, hc 2 _ (by omega) rfl⟩
theorem Rd.ent {A : Option Addr} {n : Nat} (h : Rd w B 4 A n (m.flatMap entC)) (hn : n = m.length) {k : Nat} (hk : k < m.length) :
    ∃ b o, A = some ⟨b, o, none⟩ ∧ b < B ∧ w.cell? ⟨b, o + k * 4, none⟩ = some (.string m[k].user) ∧ w.cell? ⟨b, o + k * 4 + 1, none⟩ = some (.int .u64 (m[k].seq.toNat : Int)) ∧ w.cell? ⟨b, o + k * 4 + 2, none⟩ = some (.int .u8 (m[k].kind.toNat : Int)) ∧ w.cell? ⟨b, o + k * 4 + 3, none⟩ = some (.string m[k].value) := by
  obtain ⟨b, o, e, hb, hc⟩ := h.elem entC_length hn hk
  exact ⟨b, o, e, hb, hc 0 _ (by omega) rfl, hc 1 _ (by omega) rfl, hc 2 _ (by omega) rfl, hc 3 _ (by omega) rfl⟩
end
end Go.Proofs.Ytoccmedadiangaa
