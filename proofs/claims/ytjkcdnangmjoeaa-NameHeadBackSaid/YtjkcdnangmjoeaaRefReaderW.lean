/-
  What is proved here: what the reference's reader comes to, at this seat's numbers. Conditions: the bytes' length.
-/
import Derived.Test.YtjkcdnangmjoeaaReaderW
import Derived.Test.YtjkcdnangmjoeaaRefReaderLaw
import Derived.BigQuiet
namespace Go.Proofs.Ytjkcdnangmjoeaa
open Go.RowKit

/-- block R is the reference's reader: its bytes (below base), its place, its fault -/
def RefAt (w : World) (base R : Nat) (bs : List UInt8) (i bad : Nat) : Prop :=
  ∃ A c, w.heap[R]? = some (.cells #[.slice A bs.length c, .int .i64 (i : Int), .int .i64 (bad : Int)] 55 (0, 0)) ∧ bs.length ≤ c ∧ c ≤ maxLen ∧ i ≤ bs.length ∧ base ≤ R ∧ Rd w base 1 A bs.length (bv bs)
section
variable {w w' : World} {base R : Nat} {bs : List UInt8} {i bad : Nat}
theorem RefAt.lt (h : RefAt w base R bs i bad) : R < w.heap.size := by
  obtain ⟨A, c, h, _⟩ := h
  exact (Array.getElem?_eq_some_iff.1 h).1
theorem RefAt.far (h : RefAt w base R bs i bad) {g : Nat} (hg : w.grownBy w' (some g)) (hne : g ≠ R) (hb : base ≤ g) : RefAt w' base R bs i bad := by
  have hlt := h.lt
  obtain ⟨A, c, h1, h2, h3, h4, h5, h6⟩ := h
  refine ⟨A, c, (hg.block R hlt (fun e => by injection e with e; omega)).trans h1, h2, h3, h4, h5, h6.keep fun p hp => World.cell?_of_block (hg.block p.block (by omega) (fun e => by injection e with e; omega))⟩
theorem RefAt.drewN (h : RefAt w base R bs i bad) (k : Nat) : RefAt (w.drewN k) base R bs i bad := h
end
theorem cells3 {w : World} {R : Nat} {a b c : Value} {T : TypeId} (h : w.heap[R]? = some (.cells #[a, b, c] T (0, 0))) : w.cell? ⟨R, 0, none⟩ = some a ∧ w.cell? ⟨R, 1, none⟩ = some b ∧ w.cell? ⟨R, 2, none⟩ = some c ∧ w.frozen? ⟨R, 0, none⟩ = false ∧ w.frozen? ⟨R, 1, none⟩ = false ∧ w.frozen? ⟨R, 2, none⟩ = false := by
  refine ⟨cell_of_row w R 0 _ _ _ h, cell_of_row w R 1 _ _ _ h, cell_of_row w R 2 _ _ _ h, ?_, ?_, ?_⟩ <;> simp [World.frozen?, h]
theorem set31 {w : World} {R : Nat} {a b c u : Value} {T : TypeId} (h : w.heap[R]? = some (.cells #[a, b, c] T (0, 0))) : (w.setCell ⟨R, 1, none⟩ u).heap[R]? = some (.cells #[a, u, c] T (0, 0)) := by
  simp [World.setCell, Array.getElem?_modify, h]
theorem set32 {w : World} {R : Nat} {a b c u : Value} {T : TypeId} (h : w.heap[R]? = some (.cells #[a, b, c] T (0, 0))) : (w.setCell ⟨R, 2, none⟩ u).heap[R]? = some (.cells #[a, b, u] T (0, 0)) := by
  simp [World.setCell, Array.getElem?_modify, h]

theorem qFail_any (base R : Nat) (bs : List UInt8) (i bad : Nat) (e : Nat) (w : World) (h : RefAt w base R bs i bad) :
    Calls Try.prog 34 #[.pointer (some ⟨R, 0, none⟩), .int .i64 (e : Int)] w fun en w' => en = .returned (.tuple #[]) ∧ RefAt w' base R bs i e ∧ w.grownBy w' (some R) := by
  obtain ⟨A, c, hh, hc, hm, hi, hb, hr⟩ := h
  obtain ⟨c0, c1, c2, f0, f1, f2⟩ := cells3 hh
  go_enter Try.func34, Try.ntmps34
  go_wp2
  go_end0
  exact ⟨rfl, ⟨A, c, set32 hh, hc, hm, hi, hb, hr.setCell (by simpa using hb) _⟩, grown_set (p := ⟨R, 2, none⟩) _ rfl _⟩

theorem gdrew (w : World) (n : Nat) (row : Option Nat) : w.grownBy (w.drewN n) row := ⟨rfl, rfl, rfl, Nat.le_refl _, fun _ _ _ => rfl⟩
theorem drop_get (bs : List UInt8) (i k : Nat) (h : i + k < bs.length) : (bs.drop i)[k]'(by rw [List.length_drop]; omega) = bs[i + k] := by simp

end Go.Proofs.Ytjkcdnangmjoeaa
