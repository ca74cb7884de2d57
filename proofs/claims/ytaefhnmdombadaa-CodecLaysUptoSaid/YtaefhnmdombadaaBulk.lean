/-
  What is proved here: what the second form's bound gives: a part's bulk, a slice's length, a text's length. No condition.
-/
import Derived.Test.YtaefhnmdombadaaLawRow
namespace Go.Proofs.Ytaefhnmdombadaa
section
variable {H : Type}
theorem bulk_pos (d : DataW H) : 1 ≤ Rows.uptoBulk d := by
  cases d with
  | lit l => cases l <;> simp [Rows.uptoBulk]
  | nil => simp [Rows.uptoBulk]
  | ptr d => simp [Rows.uptoBulk]
  | slice elems spare => simp [Rows.uptoBulk]
  | agg parts => simp [Rows.uptoBulk]
  | iface t d => simp [Rows.uptoBulk]
  | map entries => simp [Rows.uptoBulk]
  | held h => simp [Rows.uptoBulk]
theorem bulk_part {d : DataW H} {l : List (DataW H)} (h : d ∈ l) : Rows.uptoBulk d ≤ Rows.uptoBulkAll l := by
  induction l with
  | nil => cases h
  | cons x r ih =>
    simp only [Rows.uptoBulkAll]
    cases List.mem_cons.1 h with
    | inl e => subst e; omega
    | inr e => have := ih e; omega
theorem bulk_length (l : List (DataW H)) : l.length ≤ Rows.uptoBulkAll l := by
  induction l with
  | nil => simp [Rows.uptoBulkAll]
  | cons x r ih => have := bulk_pos x; simp only [Rows.uptoBulkAll, List.length_cons]; omega
theorem bulk_slice {d : DataW H} {n : Nat} (h : n = 0 ∨ ∃ elems rest, d = .slice elems rest ∧ elems.length = n) : n ≤ Rows.uptoBulk d := by
  rcases h with rfl | ⟨elems, rest, rfl, rfl⟩
  · omega
  · have := bulk_length elems
    simp only [Rows.uptoBulk]
    omega
theorem bulk_bound {l : List (DataW H)} (hk : Rows.uptoSmall H l = true) : Rows.uptoBulkAll l ≤ 1048576 := of_decide_eq_true hk
/-- the bound on an argument that stands at a place -/
theorem bulk_arg {l : List (DataW H)} (hk : Rows.uptoSmall H l = true) {d : DataW H} (h : d ∈ l) : Rows.uptoBulk d ≤ 1048576 := Nat.le_trans (bulk_part h) (bulk_bound hk)
theorem bulk_len {l : List (DataW H)} (hk : Rows.uptoSmall H l = true) {d : DataW H} {n : Nat} (hd : d ∈ l) (h : n = 0 ∨ ∃ elems rest, d = .slice elems rest ∧ elems.length = n) : n ≤ 1048576 := Nat.le_trans (bulk_slice h) (bulk_arg hk hd)
theorem bulk_str {l : List (DataW H)} (hk : Rows.uptoSmall H l = true) {s : ByteArray} (h : .lit (.string s.data.toList) ∈ l) : s.size ≤ 1048576 := by
  have h1 := bulk_arg hk h
  simp only [Rows.uptoBulk] at h1
  have e : s.data.toList.length = s.size := by rw [Array.length_toList]; rfl
  omega
end
end Go.Proofs.Ytaefhnmdombadaa
