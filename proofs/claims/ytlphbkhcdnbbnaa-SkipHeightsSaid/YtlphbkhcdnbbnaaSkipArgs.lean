/-
  What is proved here: what a put and an ask are, how a slice of puts reads, and the first 200 of it. No condition.
-/
import Derived.Test.YtlphbkhcdnbbnaaSkipW4
namespace Go.Proofs.Ytlphbkhcdnbbnaa
open Go.RowKit

structure PutA where
  e : Ent
  h : Int
def putC (p : PutA) : List Value := [.string p.e.user, .int .u64 (p.e.seq.toNat : Int), .int .u8 (p.e.kind.toNat : Int), .string p.e.value, .int .i64 p.h]
abbrev putV (p : PutA) : Value := .agg #[.string p.e.user, .int .u64 (p.e.seq.toNat : Int), .int .u8 (p.e.kind.toNat : Int), .string p.e.value, .int .i64 p.h]
abbrev putObj (p : PutA) : Obj := .cells #[.string p.e.user, .int .u64 (p.e.seq.toNat : Int), .int .u8 (p.e.kind.toNat : Int), .string p.e.value, .int .i64 p.h] 27 (0, 0)
def PutOk (p : PutA) : Prop := EntOk p.e ∧ -9223372036854775808 ≤ p.h ∧ p.h ≤ 9223372036854775807
theorem putC_length (p : PutA) : (putC p).length = 5 := rfl
/-- the value v reads as the puts l -/
def SP (w : World) (B : Nat) (v : Value) (l : List PutA) : Prop := Sl w B 5 v l.length (l.flatMap putC)
theorem SP.form {w : World} {B : Nat} {v : Value} {l : List PutA} (h : SP w B v l) : ∃ A c, v = .slice A l.length c ∧ l.length ≤ c ∧ c ≤ maxLen ∧ Rd w B 5 A l.length (l.flatMap putC) := h
theorem SP.on {w w' : World} {v : Value} {l : List PutA} (h : SP w w.heap.size v l) (hb : Below w.heap.size w w') : SP w' w'.heap.size v l := (Sl.below h hb).more hb.size
theorem Rd.put {w : World} {B : Nat} {m : List PutA} {A : Option Addr} {n : Nat} (h : Rd w B 5 A n (m.flatMap putC)) (hn : n = m.length) {k : Nat} (hk : k < m.length) :
    ∃ b o, A = some ⟨b, o, none⟩ ∧ b < B ∧ w.cell? ⟨b, o + k * 5, none⟩ = some (.string m[k].e.user) ∧ w.cell? ⟨b, o + k * 5 + 1, none⟩ = some (.int .u64 (m[k].e.seq.toNat : Int)) ∧ w.cell? ⟨b, o + k * 5 + 2, none⟩ = some (.int .u8 (m[k].e.kind.toNat : Int)) ∧ w.cell? ⟨b, o + k * 5 + 3, none⟩ = some (.string m[k].e.value) ∧ w.cell? ⟨b, o + k * 5 + 4, none⟩ = some (.int .i64 m[k].h) := by
  obtain ⟨b, o, e, hb, hc⟩ := h.elem putC_length hn hk
  exact ⟨b, o, e, hb, hc 0 _ (by omega) rfl, hc 1 _ (by omega) rfl, hc 2 _ (by omega) rfl, hc 3 _ (by omega) rfl, hc 4 _ (by omega) rfl⟩
theorem kcells5 {w : World} {R : Nat} {a b c d e : Value} {T : TypeId} (h : w.heap[R]? = some (.cells #[a, b, c, d, e] T (0, 0))) :
    (w.cell? ⟨R, 0, none⟩ = some a ∧ w.cell? ⟨R, 1, none⟩ = some b ∧ w.cell? ⟨R, 2, none⟩ = some c ∧ w.cell? ⟨R, 3, none⟩ = some d ∧ w.cell? ⟨R, 4, none⟩ = some e) := by
  refine ⟨?_, ?_, ?_, ?_, ?_⟩ <;> simp [World.cell?, h]
theorem SP.take {w : World} {B : Nat} {A : Option Addr} {c : Nat} {l : List PutA} (h : SP w B (.slice A l.length c) l) (k : Nat) (hk : k ≤ l.length) : SP w B (.slice A k c) (l.take k) := by
  have h1 := Sl.take h hk rfl
  unfold SP
  rw [List.length_take, Nat.min_eq_left hk]
  have h2 : (l.take k).flatMap putC = (l.flatMap putC).take (k * 5) := by
    have h3 : ((l.take k).flatMap putC).length = k * 5 := by
      rw [List.length_flatMap, List.map_congr_left (g := fun _ => 5) (fun x _ => putC_length x)]
      simp [List.map_const', List.sum_replicate_nat, Nat.min_eq_left hk]
    conv => rhs; rw [← List.take_append_drop k l, List.flatMap_append]
    rw [List.take_left' h3]
  rw [h2]
  exact h1
theorem few_any (v : Value) (l : List PutA) (B : Nat) (w : World) (hsp : SP w B v l) (hl : l.length ≤ 140737488351232) : Calls Try.prog 10 #[v] w fun e w' => ∃ v', e = .returned v' ∧ SP w' B v' (l.take 200) ∧ Below w.heap.size w w' := by
  obtain ⟨A, c, rfl, hlc, hcm, hr⟩ := hsp.form
  go_enter Try.func10, Try.ntmps10
  go_wp2_with fail
  · go_ret
    refine ⟨_, rfl, ?_, Below.refl _ _⟩
    have h3 := hsp.take 200 (by omega)
    exact h3
  · go_ret
    refine ⟨_, rfl, ?_, Below.refl _ _⟩
    rw [List.take_of_length_le (by omega)]
    exact hsp
theorem mem_put {E : List Ent} {e x : Ent} (h : x ∈ (putE E e).2) : x ∈ E ∨ x = e := by
  unfold putE at h
  split at h
  · exact .inl h
  · split at h
    · exact .inl h
    · unfold insE at h
      simp only [List.mem_append, List.mem_cons] at h
      rcases h with h | h | h
      · exact .inl ((List.takeWhile_sublist _).subset h)
      · exact .inr h
      · exact .inl ((List.dropWhile_sublist _).subset h)
theorem SE.cutR {w : World} {B : Nat} {A : Option Addr} {c : Nat} {E : List Ent} (h : SE w B (.slice A E.length c) E) {k : Nat} (hk : k ≤ E.length) : SE w B (.slice (if c = k then A else A.map (·.add (k * 4))) (E.length - k) (c - k)) (E.drop k) := by
  have h1 := Sl.cut h hk rfl
  unfold SE
  have h2 : (E.drop k).flatMap entC = (E.flatMap entC).drop (k * 4) := by
    have h3 : ((E.take k).flatMap entC).length = k * 4 := by
      rw [flat_length entC 4 entC_length, List.length_take, Nat.min_eq_left hk]
    conv => rhs; rw [← List.take_append_drop k E, List.flatMap_append]
    rw [List.drop_left' h3]
  rw [h2, List.length_drop]
  exact h1
theorem SE.takeR {w : World} {B : Nat} {A : Option Addr} {c : Nat} {E : List Ent} (h : SE w B (.slice A E.length c) E) {k : Nat} (hk : k ≤ E.length) : SE w B (.slice A k c) (E.take k) := by
  have h1 := Sl.take h hk rfl
  unfold SE
  rw [List.length_take, Nat.min_eq_left hk]
  have h2 : (E.take k).flatMap entC = (E.flatMap entC).take (k * 4) := by
    have h3 : ((E.take k).flatMap entC).length = k * 4 := by rw [flat_length entC 4 entC_length, List.length_take, Nat.min_eq_left hk]
    conv => rhs; rw [← List.take_append_drop k E, List.flatMap_append]
    rw [List.take_left' h3]
  rw [h2]
  exact h1
end Go.Proofs.Ytlphbkhcdnbbnaa
