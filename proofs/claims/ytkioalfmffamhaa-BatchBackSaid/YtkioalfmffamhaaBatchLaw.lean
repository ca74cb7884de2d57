/-
  What is proved here: plain laws of layer 12's decoding: what is taken of a batch's bytes, that what was laid is taken again, that what is taken is what is laid. No program in sight. No condition.
-/
import Derived.Test.YtkioalfmffamhaaEnt
import Derived.Test.YtkioalfmffamhaaReaderLaw
namespace Go.Proofs.Ytkioalfmffamhaa

/-- what is taken as one operation -/
def takeOp (s : Rs) : Opn × Rs :=
  if (UInt8.ofNat (sFix 1 s).1).toNat = 1 then
    (⟨UInt8.ofNat (sFix 1 s).1, ⟨(sStr 1024 (sFix 1 s).2).1.toArray⟩, ⟨(sStr 65536 (sStr 1024 (sFix 1 s).2).2).1.toArray⟩⟩, (sStr 65536 (sStr 1024 (sFix 1 s).2).2).2)
  else (⟨UInt8.ofNat (sFix 1 s).1, ⟨(sStr 1024 (sFix 1 s).2).1.toArray⟩, ⟨#[]⟩⟩, (sStr 1024 (sFix 1 s).2).2)
/-- operations, as long as there is no fault -/
def loopOps : Nat → Rs → List Opn × Rs
  | 0, s => ([], s)
  | n + 1, s => if s.2 = 0 then ((takeOp s).1 :: (loopOps n (takeOp s).2).1, (loopOps n (takeOp s).2).2) else ([], s)
/-- so many operations, fault or not -/
def manyOps : Nat → Rs → List Opn × Rs
  | 0, s => ([], s)
  | n + 1, s => ((takeOp s).1 :: (manyOps n (takeOp s).2).1, (manyOps n (takeOp s).2).2)
def seqOf (b : List UInt8) : UInt64 := UInt64.ofNat (sFix 8 (b, 0)).1
def numOf (b : List UInt8) : Nat := (sNum (sFix 8 (b, 0)).2).1
def behind (b : List UInt8) : Rs := (sNum (sFix 8 (b, 0)).2).2
/-- is it a batch, as the program has it? -/
def progOk (b : List UInt8) : Bool := decide (sEnd (loopOps (numOf b) (behind b)).2 = 0) && rightB (seqOf b) (loopOps (numOf b) (behind b)).1

theorem sFix_bad (many : Int) (s : Rs) (h : s.2 ≠ 0) : sFix many s = (0, s) := by unfold sFix; rw [if_pos h]
theorem sStr_bad (most : Int) (s : Rs) (h : s.2 ≠ 0) : sStr most s = ([], s) := by unfold sStr; rw [if_pos h]
theorem sNum_bad (s : Rs) (h : s.2 ≠ 0) : sNum s = (0, s) := by unfold sNum; rw [if_neg h]
theorem sFix_ok {many : Int} {s : Rs} (h : (sFix many s).2.2 = 0) : s.2 = 0 ∧ 0 ≤ many ∧ many ≤ 8 ∧ many ≤ s.1.length ∧ sFix many s = (leN (s.1.take many.toNat), s.1.drop many.toNat, 0) := by
  unfold sFix at h ⊢
  by_cases h0 : s.2 ≠ 0
  · rw [if_pos h0] at h; exact absurd h h0
  · rw [if_neg h0] at h ⊢
    by_cases h1 : many < 0 ∨ 8 < many
    · rw [if_pos h1] at h; simp at h
    · rw [if_neg h1] at h ⊢
      by_cases h2 : (s.1.length : Int) < many
      · rw [if_pos h2] at h; simp at h
      · rw [if_neg h2]
        exact ⟨by omega, by omega, by omega, by omega, rfl⟩
theorem sStr_ok {most : Int} {s : Rs} (h : (sStr most s).2.2 = 0) : s.2 = 0 ∧ ∃ t : List UInt8, ∃ r, s.1 = num t.length ++ t ++ r ∧ sStr most s = (t, r, 0) ∧ (t.length : Int) ≤ max 0 most := by
  unfold sStr at h ⊢
  by_cases h0 : s.2 ≠ 0
  · rw [if_pos h0] at h; exact absurd h h0
  · rw [if_neg h0] at h ⊢
    by_cases h1 : (number s.1).2.2 ≠ 0
    · rw [if_pos h1] at h; exact absurd h h1
    · rw [if_neg h1] at h ⊢
      by_cases h2 : max 0 most < ((number s.1).1 : Int)
      · rw [if_pos h2] at h; simp at h
      · rw [if_neg h2] at h ⊢
        by_cases h3 : s.1.length - (number s.1).2.1 < (number s.1).1
        · rw [if_pos h3] at h; simp at h
        · rw [if_neg h3]
          have hle := number_le s.1
          obtain ⟨n, k, f, hn⟩ : ∃ n k f, number s.1 = (n, k, f) := ⟨_, _, _, rfl⟩
          rw [hn] at h1 h2 h3 hle ⊢
          simp only at h1 h2 h3 hle ⊢
          have hf : f = 0 := by omega
          subst hf
          obtain ⟨hk, htk⟩ := number_back s.1 n k hn
          have htl : ((s.1.take (k + n)).drop k).length = n := by rw [List.length_drop, List.length_take]; omega
          refine ⟨by omega, (s.1.take (k + n)).drop k, s.1.drop (k + n), ?_, rfl, by rw [htl]; omega⟩
          rw [htl, ← htk]
          conv => lhs; rw [← List.take_append_drop (k + n) s.1]
          congr 1
          conv => lhs; rw [← List.take_append_drop k (s.1.take (k + n))]
          rw [List.take_take, Nat.min_eq_left (by omega)]
theorem sStr_le (most : Int) (s : Rs) : (sStr most s).1.length + (sStr most s).2.1.length ≤ s.1.length := by
  unfold sStr
  repeat' split
  all_goals simp only [List.length_nil, List.length_drop, List.length_take]
  all_goals omega
theorem sFix_le (many : Int) (s : Rs) : (sFix many s).2.1.length ≤ s.1.length := by
  unfold sFix
  repeat' split
  all_goals simp only [List.length_drop]
  all_goals omega
theorem sNum_le (s : Rs) : (sNum s).2.1.length ≤ s.1.length := by
  unfold sNum
  split
  · simp only [List.length_drop]; omega
  · exact Nat.le_refl _
theorem sFix1_lt (s : Rs) : (sFix 1 s).1 < 256 := by
  unfold sFix
  repeat' split
  all_goals try simp
  have h := leN_lt (s.1.take 1)
  have h1 : (s.1.take 1).length ≤ 1 := by rw [List.length_take]; omega
  have h2 : 256 ^ (s.1.take 1).length ≤ 256 ^ 1 := Nat.pow_le_pow_right (by omega) h1
  exact Nat.lt_of_lt_of_le h (Nat.le_trans h2 (by decide))
theorem takeOp_le (s : Rs) : (takeOp s).2.1.length ≤ s.1.length ∧ (takeOp s).1.user.size ≤ s.1.length ∧ (takeOp s).1.value.size ≤ s.1.length := by
  have h1 := sFix_le 1 s
  have h2 := sStr_le 1024 (sFix 1 s).2
  have h3 := sStr_le 65536 (sStr 1024 (sFix 1 s).2).2
  unfold takeOp
  split
  · refine ⟨by simp only; omega, ?_, ?_⟩
    · show (sStr 1024 (sFix 1 s).2).1.toArray.size ≤ _
      simp; omega
    · show (sStr 65536 (sStr 1024 (sFix 1 s).2).2).1.toArray.size ≤ _
      simp; omega
  · refine ⟨by simp only; omega, ?_, ?_⟩
    · show (sStr 1024 (sFix 1 s).2).1.toArray.size ≤ _
      simp; omega
    · exact Nat.zero_le _
theorem takeOp_bad (s : Rs) (h : s.2 ≠ 0) : (takeOp s).2 = s := by
  unfold takeOp
  rw [sFix_bad 1 s h, sStr_bad 1024 s h]
  simp
/-- an operation that is taken without a fault is what is laid -/
theorem takeOp_ok {s : Rs} (h : (takeOp s).2.2 = 0) : s.2 = 0 ∧ s.1 = opB (takeOp s).1 ++ (takeOp s).2.1 := by
  have key : ∀ (u : Rs), u = (sFix 1 s).2 → u.2 = 0 → s.2 = 0 ∧ s.1 = UInt8.ofNat (sFix 1 s).1 :: u.1 := by
    intro u hu h0
    have h1 : (sFix 1 s).2.2 = 0 := by rw [← hu]; exact h0
    obtain ⟨a, _, _, b, c⟩ := sFix_ok h1
    refine ⟨a, ?_⟩
    rw [hu, c]
    have hl : 1 ≤ s.1.length := by omega
    cases hs : s.1 with
    | nil => rw [hs] at hl; simp at hl
    | cons x r => simp [leN]
  unfold takeOp at h ⊢
  by_cases hk : (UInt8.ofNat (sFix 1 s).1).toNat = 1
  · rw [if_pos hk] at h ⊢
    obtain ⟨h2, t2, r2, e2, q2, _⟩ := sStr_ok h
    obtain ⟨h1, t1, r1, e1, q1, _⟩ := sStr_ok h2
    obtain ⟨h0, e0⟩ := key _ rfl h1
    refine ⟨h0, ?_⟩
    rw [q1] at e2 q2
    simp only at e2 q2
    rw [q1]
    simp only [q2]
    rw [e0, e1, e2]
    unfold opB
    simp only [hk, if_true]
    have z1 : (⟨t1.toArray⟩ : ByteArray).size = t1.length := by show t1.toArray.size = _; simp
    have z2 : (⟨t2.toArray⟩ : ByteArray).size = t2.length := by show t2.toArray.size = _; simp
    rw [z1, z2]
    simp
  · rw [if_neg hk] at h ⊢
    obtain ⟨h1, t1, r1, e1, q1, _⟩ := sStr_ok h
    obtain ⟨h0, e0⟩ := key _ rfl h1
    refine ⟨h0, ?_⟩
    rw [q1]
    rw [e0, e1]
    unfold opB
    simp only [hk, if_false]
    have z1 : (⟨t1.toArray⟩ : ByteArray).size = t1.length := by show t1.toArray.size = _; simp
    rw [z1]
    simp
theorem opB_pos (o : Opn) : 1 ≤ (opB o).length := by unfold opB; simp
theorem takeOp_less {s : Rs} (h : (takeOp s).2.2 = 0) : (takeOp s).2.1.length + 1 ≤ s.1.length := by
  obtain ⟨_, e⟩ := takeOp_ok h
  have h1 := opB_pos (takeOp s).1
  have h2 := congrArg List.length e
  rw [List.length_append] at h2
  omega
theorem takeOp_val {s : Rs} (h : (UInt8.ofNat (sFix 1 s).1).toNat ≠ 1) : (takeOp s).1.value.size = 0 := by
  unfold takeOp; rw [if_neg h]; rfl
/-- an operation that was laid is taken again -/
theorem takeOp_back (o : Opn) (r : List UInt8) (hu : o.user.size ≤ 1024) (hv : o.value.size ≤ 65536) (h0 : o.kind.toNat ≠ 1 → o.value.size = 0) : takeOp (opB o ++ r, 0) = (o, r, 0) := by
  have hus := toList_size o.user
  have hvs := toList_size o.value
  have f1 : ∀ q : List UInt8, sFix 1 (o.kind :: q, 0) = (o.kind.toNat, q, 0) := by
    intro q
    unfold sFix
    rw [if_neg (by simp), if_neg (by omega), if_neg (by simp; omega)]
    simp [leN]
  have e8 : UInt8.ofNat o.kind.toNat = o.kind := by simp
  have s1 : ∀ q, sStr 1024 (num o.user.size ++ o.user.data.toList ++ q, 0) = (o.user.data.toList, q, 0) := by
    intro q
    have h := sStr_str 1024 o.user.data.toList q (by omega) (by omega)
    rw [hus] at h
    exact h
  have s2 : ∀ q, sStr 65536 (num o.value.size ++ o.value.data.toList ++ q, 0) = (o.value.data.toList, q, 0) := by
    intro q
    have h := sStr_str 65536 o.value.data.toList q (by omega) (by omega)
    rw [hvs] at h
    exact h
  have eu : (⟨o.user.data.toList.toArray⟩ : ByteArray) = o.user := by simp
  have ev : (⟨o.value.data.toList.toArray⟩ : ByteArray) = o.value := by simp
  by_cases hk : o.kind.toNat = 1
  · have e : opB o ++ r = o.kind :: (num o.user.size ++ o.user.data.toList ++ (num o.value.size ++ o.value.data.toList ++ r)) := by
      unfold opB; simp [hk]
    unfold takeOp
    rw [e, f1]
    simp only [e8]
    rw [if_pos hk]
    simp only [s1, s2, eu, ev]
  · have e : opB o ++ r = o.kind :: (num o.user.size ++ o.user.data.toList ++ r) := by
      unfold opB; simp [hk]
    have e0 : o.value = ⟨#[]⟩ := by
      apply ByteArray.ext
      have := h0 hk
      apply Array.eq_empty_of_size_eq_zero
      exact this
    unfold takeOp
    rw [e, f1]
    simp only [e8]
    rw [if_neg hk]
    simp only [s1, eu]
    rw [← e0]
/-- what so many operations take of what was laid -/
theorem loopOps_back (l : List Opn) (h : ∀ o ∈ l, o.user.size ≤ 1024 ∧ o.value.size ≤ 65536 ∧ (o.kind.toNat ≠ 1 → o.value.size = 0)) (r : List UInt8) : loopOps l.length (l.flatMap opB ++ r, 0) = (l, r, 0) ∧ manyOps l.length (l.flatMap opB ++ r, 0) = (l, r, 0) := by
  induction l with
  | nil => exact ⟨rfl, rfl⟩
  | cons o l ih =>
    obtain ⟨h1, h2, h3⟩ := h o (by simp)
    have ih' := ih (fun x hx => h x (by simp [hx]))
    have e : (o :: l).flatMap opB ++ r = opB o ++ (l.flatMap opB ++ r) := by simp
    have hb := takeOp_back o (l.flatMap opB ++ r) h1 h2 h3
    rw [e, List.length_cons, loopOps, manyOps, if_pos rfl, hb]
    simp only
    rw [ih'.1, ih'.2]
    exact ⟨rfl, rfl⟩
theorem loopOps_ok (n : Nat) : ∀ s : Rs, (loopOps n s).2.2 = 0 → s.2 = 0 ∧ s.1 = (loopOps n s).1.flatMap opB ++ (loopOps n s).2.1 ∧ (loopOps n s).1.length = n := by
  induction n with
  | zero => intro s h; exact ⟨h, by simp [loopOps], rfl⟩
  | succ n ih =>
    intro s h
    rw [loopOps] at h ⊢
    by_cases h0 : s.2 = 0
    · rw [if_pos h0] at h ⊢
      simp only at h ⊢
      obtain ⟨h1, h2, h3⟩ := ih _ h
      obtain ⟨_, h4⟩ := takeOp_ok h1
      refine ⟨h0, ?_, by simp [h3]⟩
      rw [List.flatMap_cons, List.append_assoc, ← h2]
      exact h4
    · rw [if_neg h0] at h
      exact absurd h h0
theorem manyOps_loop (n : Nat) : ∀ s : Rs, (manyOps n s).2.2 = 0 → manyOps n s = loopOps n s := by
  induction n with
  | zero => intro s _; rfl
  | succ n ih =>
    intro s h
    rw [manyOps] at h
    simp only at h
    have e := ih _ h
    have h1 : (takeOp s).2.2 = 0 := by rw [e] at h; exact (loopOps_ok n _ h).1
    have h0 := (takeOp_ok h1).1
    rw [manyOps, loopOps, if_pos h0, e]
theorem loopOps_all (n : Nat) : ∀ s : Rs, ∀ o ∈ (loopOps n s).1, o.user.size ≤ s.1.length ∧ o.value.size ≤ s.1.length := by
  induction n with
  | zero => intro s o ho; simp [loopOps] at ho
  | succ n ih =>
    intro s o ho
    rw [loopOps] at ho
    by_cases h0 : s.2 = 0
    · rw [if_pos h0] at ho
      have hle := takeOp_le s
      rcases List.mem_cons.1 ho with rfl | ho
      · exact hle.2
      · have := ih _ o ho
        omega
    · rw [if_neg h0] at ho; simp at ho
theorem manyOps_all (n : Nat) : ∀ s : Rs, ∀ o ∈ (manyOps n s).1, o.user.size ≤ s.1.length ∧ o.value.size ≤ s.1.length := by
  induction n with
  | zero => intro s o ho; simp [manyOps] at ho
  | succ n ih =>
    intro s o ho
    rw [manyOps] at ho
    have hle := takeOp_le s
    rcases List.mem_cons.1 ho with rfl | ho
    · exact hle.2
    · have := ih _ o ho
      omega
theorem manyOps_length (n : Nat) : ∀ s : Rs, (manyOps n s).1.length = n := by
  induction n with
  | zero => intro s; rfl
  | succ n ih => intro s; rw [manyOps, List.length_cons, ih]
theorem sEnd_zero {s : Rs} (h : sEnd s = 0) : s.2 = 0 ∧ s.1 = [] := by
  unfold sEnd at h
  split at h
  · simp at h
  · rename_i hc
    refine ⟨h, List.eq_nil_of_length_eq_zero ?_⟩
    omega
theorem sEnd_nil : sEnd ([], 0) = 0 := by decide
/-- what is decoded is encoded so -/
theorem progOk_enc {b : List UInt8} (h : progOk b = true) : rightB (seqOf b) (loopOps (numOf b) (behind b)).1 = true ∧ encB (seqOf b) (loopOps (numOf b) (behind b)).1 = b := by
  unfold progOk at h
  rw [Bool.and_eq_true, decide_eq_true_eq] at h
  obtain ⟨h1, h2⟩ := h
  refine ⟨h2, ?_⟩
  obtain ⟨e1, e2⟩ := sEnd_zero h1
  obtain ⟨a1, a2, a3⟩ := loopOps_ok _ _ e1
  rw [e2, List.append_nil] at a2
  have hn : (sNum (sFix 8 (b, 0)).2).2.2 = 0 := a1
  have h0 : (sFix 8 (b, 0)).2.2 = 0 := by
    cases hz : (sFix 8 (b, 0)).2.2 with
    | zero => rfl
    | succ k => rw [sNum_bad _ (by rw [hz]; simp)] at hn; rw [hz] at hn; simp at hn
  obtain ⟨_, _, _, hl, hf⟩ := sFix_ok h0
  simp only at hl
  have h8 : (b.take 8).length = 8 := by rw [List.length_take]; omega
  have hfix : fix (seqOf b).toNat 8 = b.take 8 := by
    have e : (seqOf b).toNat = leN (b.take 8) := by
      unfold seqOf
      rw [hf, UInt64.toNat_ofNat']
      refine Nat.mod_eq_of_lt ?_
      have h := leN_lt (b.take 8)
      rw [h8] at h
      exact Nat.lt_of_lt_of_le h (by decide)
    have h := fix_leN (b.take 8)
    rw [h8] at h
    rw [e]; exact h
  have hs1 : (sFix 8 (b, 0)).2 = (b.drop 8, 0) := by rw [hf]; rfl
  have hnum : num (numOf b) ++ (behind b).1 = b.drop 8 := by
    unfold numOf behind
    rw [hs1] at hn ⊢
    unfold sNum at hn ⊢
    rw [if_pos rfl] at hn ⊢
    simp only at hn ⊢
    obtain ⟨n, k, f, hq⟩ : ∃ n k f, number (b.drop 8) = (n, k, f) := ⟨_, _, _, rfl⟩
    rw [hq] at hn ⊢
    simp only at hn ⊢
    subst hn
    obtain ⟨_, hk2⟩ := number_back _ _ _ hq
    rw [← hk2, List.take_append_drop]
  unfold encB
  rw [a3, hfix, ← a2, List.append_assoc, hnum, List.take_append_drop]
theorem enc_parts (seq : UInt64) (l : List Opn) (r : List UInt8) (hl : l.length ≤ 1000) : seqOf (encB seq l ++ r) = seq ∧ numOf (encB seq l ++ r) = l.length ∧ behind (encB seq l ++ r) = (l.flatMap opB ++ r, 0) := by
  have hs := u64_lt seq
  have e : encB seq l ++ r = fix seq.toNat 8 ++ (num l.length ++ (l.flatMap opB ++ r)) := by unfold encB; simp
  have h1 : sFix 8 (encB seq l ++ r, 0) = (seq.toNat, num l.length ++ (l.flatMap opB ++ r), 0) := by rw [e]; exact sFix_fix8 seq.toNat _ hs
  have h2 : sNum (num l.length ++ (l.flatMap opB ++ r), 0) = (l.length, l.flatMap opB ++ r, 0) := sNum_num l.length _ (by omega)
  refine ⟨?_, ?_, ?_⟩
  · unfold seqOf; rw [h1]; simp
  · unfold numOf; rw [h1]; simp only [h2]
  · unfold behind; rw [h1]; simp only [h2]
theorem right_ops {seq : UInt64} {l : List Opn} (h : rightB seq l = true) : ∀ o ∈ l, o.user.size ≤ 1024 ∧ o.value.size ≤ 65536 ∧ (o.kind.toNat ≠ 1 → o.value.size = 0) := by
  intro o ho
  have h1 := (rightB_all h).2.2.2.2 o ho
  simp only [rightE, entAt, Bool.and_eq_true, Bool.or_eq_true, decide_eq_true_eq] at h1
  obtain ⟨⟨⟨a1, a2⟩, a3⟩, a4⟩ := h1
  refine ⟨of_decide_eq_true a1, of_decide_eq_true a3, fun hk => ?_⟩
  rcases a4 with a4 | a4
  · exact absurd (of_decide_eq_true a4) hk
  · exact of_decide_eq_true a4.2
/-- what was encoded is decoded -/
theorem progOk_back {seq : UInt64} {l : List Opn} (h : rightB seq l = true) : progOk (encB seq l) = true ∧ seqOf (encB seq l) = seq ∧ (loopOps (numOf (encB seq l)) (behind (encB seq l))).1 = l ∧ numOf (encB seq l) = l.length ∧ manyOps (numOf (encB seq l)) (behind (encB seq l)) = (l, [], 0) := by
  have hr := rightB_all h
  obtain ⟨h1, h2, h3⟩ := enc_parts seq l [] hr.2.1
  rw [List.append_nil] at h1 h2 h3
  rw [List.append_nil] at h3
  obtain ⟨b1, b2⟩ := loopOps_back l (right_ops h) []
  rw [List.append_nil] at b1 b2
  refine ⟨?_, h1, by rw [h2, h3, b1], h2, by rw [h2, h3, b2]⟩
  unfold progOk
  rw [h1, h2, h3, b1, sEnd_nil]
  simp [h]
theorem progOk_ref (b : List UInt8) : progOk b = true ↔ ((behind b).2 = 0 ∧ numOf b ≤ 1000 ∧ sEnd (manyOps (numOf b) (behind b)).2 = 0 ∧ rightB (seqOf b) (manyOps (numOf b) (behind b)).1 = true ∧ encB (seqOf b) (manyOps (numOf b) (behind b)).1 = b) := by
  constructor
  · intro h
    obtain ⟨h1, h2⟩ := progOk_enc h
    obtain ⟨_, _, b3, b4, b5⟩ := progOk_back h1
    rw [h2] at b3 b4 b5
    have hr := rightB_all h1
    obtain ⟨_, _, e3⟩ := enc_parts (seqOf b) (loopOps (numOf b) (behind b)).1 [] hr.2.1
    rw [List.append_nil, h2] at e3
    refine ⟨by rw [e3], by rw [b4]; exact hr.2.1, by rw [b5]; rfl, by rw [b5]; exact h1, by rw [b5]; exact h2⟩
  · rintro ⟨_, _, _, h4, h5⟩
    have h := (progOk_back h4).1
    rw [h5] at h
    exact h
theorem progOk_same {b : List UInt8} (h : progOk b = true) : (loopOps (numOf b) (behind b)).1 = (manyOps (numOf b) (behind b)).1 := by
  obtain ⟨h1, h2⟩ := progOk_enc h
  obtain ⟨_, _, b3, b4, b5⟩ := progOk_back h1
  rw [h2] at b3 b4 b5
  rw [b5]
theorem progOk_more {seq : UInt64} {l : List Opn} (h : rightB seq l = true) : progOk (encB seq l ++ [0]) = false := by
  have hr := rightB_all h
  obtain ⟨h1, h2, h3⟩ := enc_parts seq l [0] hr.2.1
  obtain ⟨b1, _⟩ := loopOps_back l (right_ops h) [0]
  unfold progOk
  rw [h1, h2, h3, b1]
  rfl
end Go.Proofs.Ytkioalfmffamhaa
