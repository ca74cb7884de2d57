/-
  What is proved here: plain laws of layer 13: nodes that are linked level by level, the place of a key, and what an insertion leaves. No program in sight. No condition.
-/
import Derived.Test.YtlphbkhcdnbbnaaIkeyLaw
namespace Go.Proofs.Ytlphbkhcdnbbnaa

theorem aheadE_iff (a b : Ent) : aheadE a b = true ↔ (ltB a.user.toList b.user.toList = true ∨ (a.user.toList = b.user.toList ∧ b.seq.toNat < a.seq.toNat)) := by
  unfold aheadE
  rw [Bool.or_eq_true, Bool.and_eq_true, beq_iff_eq, decide_eq_true_eq]
theorem ahead_irr (a : Ent) : aheadE a a = false := by
  cases h : aheadE a a with
  | false => rfl
  | true =>
    rcases (aheadE_iff a a).1 h with h | ⟨_, h⟩
    · rw [ltB_irr] at h; cases h
    · omega
theorem ahead_trans {a b c : Ent} (h1 : aheadE a b = true) (h2 : aheadE b c = true) : aheadE a c = true := by
  rw [aheadE_iff] at h1 h2 ⊢
  rcases h1 with h1 | ⟨e1, h1⟩
  · rcases h2 with h2 | ⟨e2, h2⟩
    · exact .inl (ltB_trans _ _ _ h1 h2)
    · exact .inl (by rw [← e2]; exact h1)
  · rcases h2 with h2 | ⟨e2, h2⟩
    · exact .inl (by rw [e1]; exact h2)
    · exact .inr ⟨e1.trans e2, by omega⟩
theorem ahead_tri {a b : Ent} (h1 : aheadE a b = false) (h2 : aheadE b a = false) : a.user.toList = b.user.toList ∧ a.seq.toNat = b.seq.toNat := by
  have n1 : ¬ (ltB a.user.toList b.user.toList = true ∨ (a.user.toList = b.user.toList ∧ b.seq.toNat < a.seq.toNat)) := by rw [← aheadE_iff, h1]; simp
  have n2 : ¬ (ltB b.user.toList a.user.toList = true ∨ (b.user.toList = a.user.toList ∧ a.seq.toNat < b.seq.toNat)) := by rw [← aheadE_iff, h2]; simp
  have e : a.user.toList = b.user.toList := by
    refine ltB_tri _ _ ?_ ?_
    · cases h : ltB a.user.toList b.user.toList with
      | false => rfl
      | true => exact absurd (.inl h) n1
    · cases h : ltB b.user.toList a.user.toList with
      | false => rfl
      | true => exact absurd (.inl h) n2
  refine ⟨e, ?_⟩
  have a1 : ¬ b.seq.toNat < a.seq.toNat := fun h => n1 (.inr ⟨e, h⟩)
  have a2 : ¬ a.seq.toNat < b.seq.toNat := fun h => n2 (.inr ⟨e.symm, h⟩)
  omega
theorem ahead_asymm {a b : Ent} (h : aheadE a b = true) : aheadE b a = false := by
  cases h2 : aheadE b a with
  | false => rfl
  | true => have := ahead_trans h h2; rw [ahead_irr] at this; cases this

/-- a node -/
structure Nd where
  e : Ent
  nx : Nat → Nat
def zeroE : Ent := ⟨⟨#[]⟩, 0, 0, ⟨#[]⟩⟩
def nxt (ns : List Nd) (i k : Nat) : Nat := (ns[i]?.map (fun d => d.nx k)).getD 0
def entOf (ns : List Nd) (i : Nat) : Ent := (ns[i]?.map (·.e)).getD zeroE
/-- what stands behind a node on a level -/
def Chain (ns : List Nd) (k : Nat) : Nat → List Nat → Prop
  | a, [] => nxt ns a k = 0
  | a, m :: c => nxt ns a k = m ∧ 0 < m ∧ m < ns.length ∧ Chain ns k m c
def lastOf (a : Nat) (p : List Nat) : Nat := p.getLast?.getD a
theorem lastOf_nil (a : Nat) : lastOf a [] = a := rfl
theorem lastOf_snoc (a m : Nat) (p : List Nat) : lastOf a (p ++ [m]) = m := by simp [lastOf]
theorem lastOf_cons (a m : Nat) (p : List Nat) : lastOf a (m :: p) = lastOf m p := by
  unfold lastOf
  cases p with
  | nil => rfl
  | cons x p => simp [List.getLast?_cons_cons]; rw [List.getLast?_cons]; rfl
theorem chain_split (ns : List Nd) (k : Nat) : ∀ (p r : List Nat) (a : Nat), Chain ns k a (p ++ r) → Chain ns k (lastOf a p) r
  | [], r, a, h => h
  | m :: p, r, a, h => by
    rw [lastOf_cons]
    exact chain_split ns k p r m h.2.2.2
theorem chain_head {ns : List Nd} {k a : Nat} {r : List Nat} (h : Chain ns k a r) : nxt ns a k = r.head?.getD 0 := by
  cases r with
  | nil => exact h
  | cons m r => exact h.1
theorem chain_mem {ns : List Nd} {k : Nat} : ∀ {r : List Nat} {a : Nat}, Chain ns k a r → ∀ i ∈ r, 0 < i ∧ i < ns.length
  | [], _, _, i, hi => by simp at hi
  | m :: r, a, h, i, hi => by
    rcases List.mem_cons.1 hi with rfl | hi
    · exact ⟨h.2.1, h.2.2.1⟩
    · exact chain_mem h.2.2.2 i hi
def AheadN (ns : List Nd) (i j : Nat) : Prop := aheadE (entOf ns i) (entOf ns j) = true
/-- nodes that are linked as they must be; cs: what stands on each level -/
structure Good (ns : List Nd) (cs : Nat → List Nat) : Prop where
  pos : 0 < ns.length
  chain : ∀ k, k < 12 → Chain ns k 0 (cs k)
  sub : ∀ k, k + 1 < 12 → (cs (k + 1)).Sublist (cs k)
  sorted : (cs 0).Pairwise (AheadN ns)
  all : ∀ i, i ∈ cs 0 ↔ (0 < i ∧ i < ns.length)
theorem Good.sub0 {ns : List Nd} {cs : Nat → List Nat} (h : Good ns cs) : ∀ k, k < 12 → (cs k).Sublist (cs 0)
  | 0, _ => List.Sublist.refl _
  | k + 1, hk => (h.sub k hk).trans (h.sub0 k (by omega))
theorem Good.sortedk {ns : List Nd} {cs : Nat → List Nat} (h : Good ns cs) (k : Nat) (hk : k < 12) : (cs k).Pairwise (AheadN ns) := h.sorted.sublist (h.sub0 k hk)
/-- is a node ahead of a key at a moment? -/
def ahd (ns : List Nd) (q : Ent) (i : Nat) : Bool := aheadE (entOf ns i) q
theorem ahd_of {ns : List Nd} {q : Ent} {i j : Nat} (h : AheadN ns i j) (hj : ahd ns q j = true) : ahd ns q i = true := ahead_trans h hj
/-- in order, those that are ahead come first -/
theorem while_filter {ns : List Nd} {q : Ent} : ∀ {c : List Nat}, c.Pairwise (AheadN ns) → c.takeWhile (ahd ns q) = c.filter (ahd ns q) ∧ c.dropWhile (ahd ns q) = c.filter (fun i => !ahd ns q i)
  | [], _ => ⟨rfl, rfl⟩
  | m :: c, h => by
    rw [List.pairwise_cons] at h
    have ih := while_filter (q := q) h.2
    cases hm : ahd ns q m with
    | true => simp [List.takeWhile_cons, List.dropWhile_cons, List.filter_cons, hm, ih.1, ih.2]
    | false =>
      have hn : ∀ i ∈ c, ahd ns q i = false := fun i hi => by
        cases hi2 : ahd ns q i with
        | false => rfl
        | true => rw [ahd_of (h.1 i hi) hi2] at hm; cases hm
      have e1 : c.filter (ahd ns q) = [] := List.filter_eq_nil_iff.2 (fun i hi => by rw [hn i hi]; simp)
      have e2 : c.filter (fun i => !ahd ns q i) = c := List.filter_eq_self.2 (fun i hi => by rw [hn i hi]; rfl)
      simp [List.takeWhile_cons, List.dropWhile_cons, List.filter_cons, hm, e1, e2]
/-- the last node of a level that is ahead of a key at a moment -/
def posn (ns : List Nd) (cs : Nat → List Nat) (q : Ent) (k : Nat) : Nat := lastOf 0 ((cs k).takeWhile (ahd ns q))
theorem take_stop {ns : List Nd} {q : Ent} : ∀ (p r : List Nat), (∀ i ∈ p, ahd ns q i = true) → (∀ m r', r = m :: r' → ahd ns q m = false) → (p ++ r).takeWhile (ahd ns q) = p
  | [], [], _, _ => rfl
  | [], m :: r, _, h => by simp [List.takeWhile_cons, h m r rfl]
  | x :: p, r, h1, h2 => by
    have := take_stop p r (fun i hi => h1 i (by simp [hi])) h2
    simp [List.takeWhile_cons, h1 x (by simp), this]
/-- where a level's way begins: behind what the level above has come to -/
theorem seek_start {ns : List Nd} {cs : Nat → List Nat} (h : Good ns cs) (q : Ent) (k : Nat) (hk : k < 12) (a : Nat) (ha : (k = 11 ∧ a = 0) ∨ (k + 1 < 12 ∧ a = posn ns cs q (k + 1))) :
    ∃ p r, cs k = p ++ r ∧ a = lastOf 0 p ∧ ∀ i ∈ p, ahd ns q i = true := by
  rcases ha with ⟨_, rfl⟩ | ⟨hk1, rfl⟩
  · exact ⟨[], cs k, rfl, rfl, fun i hi => by simp at hi⟩
  · rcases List.eq_nil_or_concat ((cs (k + 1)).takeWhile (ahd ns q)) with e | ⟨p0, m, e⟩
    · exact ⟨[], cs k, rfl, by unfold posn; rw [e], fun i hi => by simp at hi⟩
    · have hm : m ∈ (cs (k + 1)).takeWhile (ahd ns q) := by rw [e]; simp
      have hm1 : m ∈ cs (k + 1) := (List.takeWhile_sublist _).subset hm
      have hm2 : ahd ns q m = true := by
        rw [(while_filter (h.sortedk (k + 1) hk1)).1] at hm
        exact (List.mem_filter.1 hm).2
      have hm3 : m ∈ cs k := (h.sub k hk1).subset hm1
      obtain ⟨p, r, hpr⟩ := List.append_of_mem hm3
      refine ⟨p ++ [m], r, by rw [hpr]; simp, ?_, fun i hi => ?_⟩
      · unfold posn
        rw [e, lastOf_snoc]
        simp [lastOf_snoc]
      · have hs := h.sortedk k hk
        rw [hpr, List.pairwise_append] at hs
        rcases List.mem_append.1 hi with hi | hi
        · exact ahd_of (hs.2.2 i hi m (by simp)) hm2
        · rw [List.mem_singleton.1 hi]; exact hm2

/-- node i's link of level k is turned -/
def turnN (ns : List Nd) (i k v : Nat) : List Nd := ns.modify i (fun d => ⟨d.e, fun j => if j = k then v else d.nx j⟩)
theorem turnN_length (ns : List Nd) (i k v : Nat) : (turnN ns i k v).length = ns.length := by simp [turnN]
theorem turnN_ent (ns : List Nd) (i k v j : Nat) : entOf (turnN ns i k v) j = entOf ns j := by
  unfold entOf turnN
  rw [List.getElem?_modify]
  by_cases h : i = j
  · subst h
    cases ns[i]? <;> simp
  · simp [h]
theorem turnN_nxt (ns : List Nd) (i k v j l : Nat) (hi : i < ns.length) : nxt (turnN ns i k v) j l = if j = i ∧ l = k then v else nxt ns j l := by
  unfold nxt turnN
  rw [List.getElem?_modify]
  by_cases h : i = j
  · subst h
    rw [List.getElem?_eq_getElem hi]
    by_cases h2 : l = k <;> simp [h2]
  · have h' : ¬ j = i := fun e => h e.symm
    simp [h, h']
theorem snoc_ent (ns : List Nd) (d : Nd) (j : Nat) (hj : j < ns.length) : entOf (ns ++ [d]) j = entOf ns j := by
  unfold entOf; rw [List.getElem?_append_left hj]
theorem snoc_ent_new (ns : List Nd) (d : Nd) : entOf (ns ++ [d]) ns.length = d.e := by
  unfold entOf; simp
theorem snoc_nxt (ns : List Nd) (d : Nd) (j k : Nat) (hj : j < ns.length) : nxt (ns ++ [d]) j k = nxt ns j k := by
  unfold nxt; rw [List.getElem?_append_left hj]
/-- the links of level k behind the first h levels' insertion of node f, laid behind the places pos -/
def linkN (ns : List Nd) (pos : Nat → Nat) (f : Nat) : Nat → List Nd
  | 0 => ns
  | h + 1 => turnN (turnN (linkN ns pos f h) f h (nxt (linkN ns pos f h) (pos h) h)) (pos h) h f
theorem linkN_length (ns : List Nd) (pos : Nat → Nat) (f : Nat) : ∀ h, (linkN ns pos f h).length = ns.length
  | 0 => rfl
  | h + 1 => by rw [linkN, turnN_length, turnN_length, linkN_length ns pos f h]
theorem linkN_ent (ns : List Nd) (pos : Nat → Nat) (f : Nat) : ∀ h j, entOf (linkN ns pos f h) j = entOf ns j
  | 0, _ => rfl
  | h + 1, j => by rw [linkN, turnN_ent, turnN_ent, linkN_ent ns pos f h j]
theorem linkN_nxt (ns : List Nd) (pos : Nat → Nat) (f : Nat) (hf : f < ns.length) (hp : ∀ k, pos k < ns.length) : ∀ h j k,
    nxt (linkN ns pos f h) j k = if k < h then (if j = pos k then f else if j = f then nxt ns (pos k) k else nxt ns j k) else nxt ns j k
  | 0, j, k => by simp [linkN]
  | h + 1, j, k => by
    have ih := linkN_nxt ns pos f hf hp h
    rw [linkN, turnN_nxt _ _ _ _ _ _ (by rw [turnN_length, linkN_length]; exact hp h), turnN_nxt _ _ _ _ _ _ (by rw [linkN_length]; exact hf)]
    rw [ih, ih]
    by_cases hk : k = h
    · subst hk
      simp only [and_true, Nat.lt_irrefl, if_false, Nat.lt_succ_self, if_true]
    · by_cases hk2 : k < h
      · have h3 : k < h + 1 := by omega
        simp [hk, hk2, h3]
      · have h3 : ¬ k < h + 1 := by omega
        simp [hk, hk2, h3]
theorem chain_same {ns ns' : List Nd} {k : Nat} (hl : ns.length ≤ ns'.length) : ∀ {r : List Nat} {a : Nat}, Chain ns k a r → (∀ i, i = a ∨ i ∈ r → nxt ns' i k = nxt ns i k) → Chain ns' k a r
  | [], a, h, he => by unfold Chain; rw [he a (.inl rfl)]; exact h
  | m :: r, a, h, he => ⟨by rw [he a (.inl rfl)]; exact h.1, h.2.1, by have := h.2.2.1; omega, chain_same hl h.2.2.2 (fun i hi => he i (.inr (by rcases hi with rfl | hi <;> simp [*])))⟩
/-- an insertion behind p -/
theorem chain_ins {ns ns' : List Nd} {k f : Nat} (hl : ns.length ≤ ns'.length) (hf0 : 0 < f) (hfl : f < ns'.length) : ∀ (p r : List Nat) (a : Nat), Chain ns k a (p ++ r) → (a :: (p ++ r)).Nodup → f ∉ a :: (p ++ r) →
    (∀ i, i ∈ a :: (p ++ r) → i ≠ lastOf a p → nxt ns' i k = nxt ns i k) → nxt ns' f k = nxt ns (lastOf a p) k → nxt ns' (lastOf a p) k = f → Chain ns' k a (p ++ f :: r)
  | [], r, a, h, hn, hf, he, h1, h2 => by
    rw [lastOf_nil] at h1 h2 he
    simp only [List.nil_append] at h hn hf he ⊢
    refine ⟨h2, hf0, hfl, ?_⟩
    have hs : ∀ i ∈ r, i ≠ a := fun i hi e => by rw [List.nodup_cons] at hn; exact hn.1 (by rw [← e]; exact hi)
    cases r with
    | nil => unfold Chain at h ⊢; rw [h1]; exact h
    | cons m r =>
      refine ⟨by rw [h1]; exact h.1, h.2.1, by have := h.2.2.1; omega, ?_⟩
      refine chain_same hl h.2.2.2 (fun i hi => he i ?_ ?_)
      · rcases hi with rfl | hi <;> simp [*]
      · exact hs i (by rcases hi with rfl | hi <;> simp [*])
  | m :: p, r, a, h, hn, hf, he, h1, h2 => by
    rw [lastOf_cons] at h1 h2 he
    simp only [List.cons_append] at h hn hf he ⊢
    have hn2 := (List.nodup_cons.1 hn).2
    have hna := (List.nodup_cons.1 hn).1
    have hlast : lastOf m p ∈ m :: (p ++ r) := by
      unfold lastOf
      cases hp : p.getLast? with
      | none => simp
      | some x => have := List.mem_of_getLast? hp; simp [this]
    refine ⟨by rw [he a (by simp) (fun e => hna (by rw [e]; exact hlast))]; exact h.1, h.2.1, by have := h.2.2.1; omega, ?_⟩
    exact chain_ins hl hf0 hfl p r m h.2.2.2 hn2 (fun hm => hf (by simp at hm ⊢; right; exact hm)) (fun i hi hne => he i (by simp at hi ⊢; right; exact hi) hne) h1 h2
theorem nodup_of_sorted {ns : List Nd} {c : List Nat} (h : c.Pairwise (AheadN ns)) : c.Nodup := by
  refine h.imp (fun {i j} hij e => ?_)
  subst e
  have : aheadE (entOf ns i) (entOf ns i) = true := hij
  rw [ahead_irr] at this; cases this
/-- what an insertion leaves on each level -/
def insC (ns : List Nd) (cs : Nat → List Nat) (e : Ent) (f h k : Nat) : List Nat :=
  if k < h then (cs k).takeWhile (ahd ns e) ++ f :: (cs k).dropWhile (ahd ns e) else cs k
/-- the first node that is not ahead -/
def firstN (ns : List Nd) (cs : Nat → List Nat) (q : Ent) : Nat := ((cs 0).dropWhile (ahd ns q)).head?.getD 0
theorem first_nxt {ns : List Nd} {cs : Nat → List Nat} (h : Good ns cs) (q : Ent) : nxt ns (posn ns cs q 0) 0 = firstN ns cs q := by
  have hc := h.chain 0 (by omega)
  rw [← List.takeWhile_append_dropWhile (p := ahd ns q) (l := cs 0)] at hc
  exact chain_head (chain_split ns 0 _ _ _ hc)
theorem posn_lt {ns : List Nd} {cs : Nat → List Nat} (h : Good ns cs) (q : Ent) (k : Nat) (hk : k < 12) : posn ns cs q k < ns.length := by
  unfold posn lastOf
  cases hp : ((cs k).takeWhile (ahd ns q)).getLast? with
  | none => exact h.pos
  | some x =>
    have h1 := List.mem_of_getLast? hp
    have h2 : x ∈ cs k := (List.takeWhile_sublist _).subset h1
    exact (chain_mem (h.chain k hk) x h2).2

def posq (ns : List Nd) (cs : Nat → List Nat) (q : Ent) (k : Nat) : Nat := if k < 12 then posn ns cs q k else 0
theorem posq_lt {ns : List Nd} {cs : Nat → List Nat} (h : Good ns cs) (q : Ent) (k : Nat) : posq ns cs q k < ns.length := by
  unfold posq
  split
  · rename_i hk; exact posn_lt h q k hk
  · exact h.pos
/-- the nodes behind an insertion on h levels -/
def putN (ns : List Nd) (cs : Nat → List Nat) (e : Ent) (h : Nat) : List Nd := linkN (ns ++ [⟨e, fun _ => 0⟩]) (posq ns cs e) ns.length h
/-- the entries, in order -/
def entsN (ns : List Nd) (cs : Nat → List Nat) : List Ent := (cs 0).map (entOf ns)
/-- an entry is laid at its place -/
def insE (e : Ent) (l : List Ent) : List Ent := l.takeWhile (fun x => aheadE x e) ++ e :: l.dropWhile (fun x => aheadE x e)
/-- is there an entry of that text and moment at its place? -/
def there (e : Ent) (l : List Ent) : Bool := match (l.dropWhile (fun x => aheadE x e)).head? with
  | none => false
  | some x => (x.user.toList == e.user.toList) && decide (x.seq.toNat = e.seq.toNat)
theorem map_while (ns : List Nd) (q : Ent) (c : List Nat) : (c.map (entOf ns)).takeWhile (fun x => aheadE x q) = (c.takeWhile (ahd ns q)).map (entOf ns) ∧ (c.map (entOf ns)).dropWhile (fun x => aheadE x q) = (c.dropWhile (ahd ns q)).map (entOf ns) := by
  induction c with
  | nil => exact ⟨rfl, rfl⟩
  | cons m c ih =>
    have e : ahd ns q m = aheadE (entOf ns m) q := rfl
    cases h : aheadE (entOf ns m) q with
    | true => simp [List.takeWhile_cons, List.dropWhile_cons, e, h, ih.1, ih.2]
    | false => simp [List.takeWhile_cons, List.dropWhile_cons, e, h]
theorem putN_length (ns : List Nd) (cs : Nat → List Nat) (e : Ent) (h : Nat) : (putN ns cs e h).length = ns.length + 1 := by unfold putN; rw [linkN_length]; simp
theorem putN_ent (ns : List Nd) (cs : Nat → List Nat) (e : Ent) (h j : Nat) (hj : j < ns.length) : entOf (putN ns cs e h) j = entOf ns j := by
  unfold putN; rw [linkN_ent, snoc_ent _ _ _ hj]
theorem putN_new (ns : List Nd) (cs : Nat → List Nat) (e : Ent) (h : Nat) : entOf (putN ns cs e h) ns.length = e := by
  unfold putN; rw [linkN_ent, snoc_ent_new]
theorem Good.put {ns : List Nd} {cs : Nat → List Nat} (h : Good ns cs) (e : Ent) (n : Nat) (hn1 : 1 ≤ n) (hth : there e (entsN ns cs) = false) :
    Good (putN ns cs e n) (insC ns cs e ns.length n) ∧ entsN (putN ns cs e n) (insC ns cs e ns.length n) = insE e (entsN ns cs) := by
  have hlt : ∀ k, k < 12 → ∀ i ∈ cs k, 0 < i ∧ i < ns.length := fun k hk i hi => chain_mem (h.chain k hk) i hi
  have hl1 : (ns ++ [(⟨e, fun _ => 0⟩ : Nd)]).length = ns.length + 1 := by simp
  have hnx := linkN_nxt (ns ++ [⟨e, fun _ => 0⟩]) (posq ns cs e) ns.length (by rw [hl1]; omega) (fun k => by rw [hl1]; have := posq_lt h e k; omega) n
  have hpos := h.pos
  have hent : ∀ j, j < ns.length → entOf (putN ns cs e n) j = entOf ns j := fun j hj => putN_ent ns cs e n j hj
  have hentf := putN_new ns cs e n
  have hdrop : ∀ m r, (cs 0).dropWhile (ahd ns e) = m :: r → aheadE e (entOf ns m) = true := by
    intro m r hd
    have hm : ahd ns e m = false := by
      have h1 := List.head?_dropWhile_not (ahd ns e) (cs 0)
      rw [hd] at h1
      simpa using h1
    cases hx : aheadE e (entOf ns m) with
    | true => rfl
    | false =>
      have ht := ahead_tri hm hx
      have h1 : there e (entsN ns cs) = true := by
        unfold there entsN
        rw [(map_while ns e (cs 0)).2, hd]
        simp [ht.1, ht.2]
      rw [h1] at hth; cases hth
  have hr : ∀ j ∈ (cs 0).dropWhile (ahd ns e), aheadE e (entOf ns j) = true := by
    intro j hj
    have hs := h.sorted
    rw [← List.takeWhile_append_dropWhile (p := ahd ns e) (l := cs 0), List.pairwise_append] at hs
    cases hd : (cs 0).dropWhile (ahd ns e) with
    | nil => rw [hd] at hj; simp at hj
    | cons m r =>
      have hm := hdrop m r hd
      rw [hd] at hj
      have hs2 := hs.2.1
      rw [hd, List.pairwise_cons] at hs2
      rcases List.mem_cons.1 hj with rfl | hj
      · exact hm
      · exact ahead_trans hm (hs2.1 j hj)
  refine ⟨⟨by rw [putN_length]; omega, ?_, ?_, ?_, ?_⟩, ?_⟩
  · intro k hk
    have hc := h.chain k hk
    have hps : posq ns cs e k = posn ns cs e k := by unfold posq; rw [if_pos hk]
    have hpl := posn_lt h e k hk
    have hnd : (0 :: cs k).Nodup := List.nodup_cons.2 ⟨fun h0 => by have := (hlt k hk 0 h0).1; omega, nodup_of_sorted (h.sortedk k hk)⟩
    unfold insC
    by_cases hkn : k < n
    · rw [if_pos hkn]
      have hsplit := List.takeWhile_append_dropWhile (p := ahd ns e) (l := cs k)
      refine chain_ins (ns := ns) (by rw [putN_length]; omega) hpos (by rw [putN_length]; omega) _ _ 0 (by rw [hsplit]; exact hc) (by rw [hsplit]; exact hnd) ?_ ?_ ?_ ?_
      · rw [hsplit]
        intro hm
        rcases List.mem_cons.1 hm with h0 | h0
        · omega
        · have := (hlt k hk _ h0).2; omega
      · intro i hi hne
        rw [hsplit] at hi
        have hil : i < ns.length := by
          rcases List.mem_cons.1 hi with rfl | hi
          · exact hpos
          · exact (hlt k hk i hi).2
        have hne' : ¬ i = posn ns cs e k := hne
        unfold putN
        rw [hnx, if_pos hkn, hps, if_neg hne', if_neg (by omega), snoc_nxt _ _ _ _ hil]
      · unfold putN
        have : ¬ ns.length = posn ns cs e k := by omega
        rw [hnx, if_pos hkn, hps, if_neg this, if_pos rfl, snoc_nxt _ _ _ _ hpl]
        rfl
      · unfold putN
        rw [hnx, if_pos hkn, hps]
        exact if_pos rfl
    · rw [if_neg hkn]
      refine chain_same (by rw [putN_length]; omega) hc (fun i hi => ?_)
      have hil : i < ns.length := by
        rcases hi with rfl | hi
        · exact hpos
        · exact (hlt k hk i hi).2
      unfold putN
      rw [hnx, if_neg hkn, snoc_nxt _ _ _ _ hil]
  · intro k hk
    have hsk := h.sortedk k (by omega)
    have hsk1 := h.sortedk (k + 1) hk
    have hsub := h.sub k hk
    have f0 := while_filter (q := e) hsk
    have f1 := while_filter (q := e) hsk1
    unfold insC
    by_cases h1 : k + 1 < n
    · rw [if_pos h1, if_pos (by omega : k < n), f0.1, f0.2, f1.1, f1.2]
      exact List.Sublist.append (hsub.filter _) ((hsub.filter _).cons_cons _)
    · rw [if_neg h1]
      by_cases h2 : k < n
      · rw [if_pos h2]
        refine hsub.trans ?_
        conv => lhs; rw [← List.takeWhile_append_dropWhile (p := ahd ns e) (l := cs k)]
        exact List.Sublist.append (List.Sublist.refl _) (List.sublist_cons_self _ _)
      · rw [if_neg h2]; exact hsub
  · unfold insC
    rw [if_pos (by omega)]
    have hs := h.sorted
    have hm : ∀ i ∈ cs 0, i < ns.length := fun i hi => (hlt 0 (by omega) i hi).2
    have hsplit := List.takeWhile_append_dropWhile (p := ahd ns e) (l := cs 0)
    rw [← hsplit, List.pairwise_append] at hs
    have mt : ∀ i ∈ (cs 0).takeWhile (ahd ns e), i < ns.length ∧ ahd ns e i = true := fun i hi => by
      refine ⟨hm i ((List.takeWhile_sublist _).subset hi), ?_⟩
      rw [(while_filter h.sorted).1] at hi
      exact (List.mem_filter.1 hi).2
    have md : ∀ i ∈ (cs 0).dropWhile (ahd ns e), i < ns.length := fun i hi => hm i ((List.dropWhile_sublist _).subset hi)
    refine List.pairwise_append.2 ⟨hs.1.imp_of_mem (fun {i j} hi hj hij => ?_), List.pairwise_cons.2 ⟨fun j hj => ?_, hs.2.1.imp_of_mem (fun {i j} hi hj hij => ?_)⟩, fun i hi j hj => ?_⟩
    · unfold AheadN; rw [hent i (mt i hi).1, hent j (mt j hj).1]; exact hij
    · unfold AheadN; rw [hentf, hent j (md j hj)]; exact hr j hj
    · unfold AheadN; rw [hent i (md i hi), hent j (md j hj)]; exact hij
    · unfold AheadN
      rw [hent i (mt i hi).1]
      rcases List.mem_cons.1 hj with rfl | hj
      · rw [hentf]; exact (mt i hi).2
      · rw [hent j (md j hj)]; exact hs.2.2 i hi j hj
  · intro i
    unfold insC
    rw [if_pos (by omega), putN_length]
    have ha := h.all i
    rw [← List.takeWhile_append_dropWhile (p := ahd ns e) (l := cs 0)] at ha
    simp only [List.mem_append, List.mem_cons] at ha ⊢
    constructor
    · rintro (h1 | h1 | h1)
      · have := ha.1 (.inl h1); omega
      · omega
      · have := ha.1 (.inr h1); omega
    · intro h1
      by_cases h2 : i = ns.length
      · exact .inr (.inl h2)
      · rcases ha.2 ⟨by omega, by omega⟩ with h3 | h3
        · exact .inl h3
        · exact .inr (.inr h3)
  · unfold entsN insE insC
    rw [if_pos (by omega), (map_while ns e (cs 0)).1, (map_while ns e (cs 0)).2, List.map_append, List.map_cons, hentf]
    have hm : ∀ i ∈ cs 0, i < ns.length := fun i hi => (hlt 0 (by omega) i hi).2
    congr 1
    · exact List.map_congr_left (fun i hi => hent i (hm i ((List.takeWhile_sublist _).subset hi)))
    · congr 1
      exact List.map_congr_left (fun i hi => hent i (hm i ((List.dropWhile_sublist _).subset hi)))
/-- a list without entries -/
theorem Good.new (d : Nd) (hd : ∀ k, d.nx k = 0) : Good [d] (fun _ => []) := by
  refine ⟨by simp, fun k _ => ?_, fun k _ => List.Sublist.refl _, List.Pairwise.nil, fun i => ?_⟩
  · show nxt [d] 0 k = 0
    unfold nxt; simp [hd]
  · simp; omega
end Go.Proofs.Ytlphbkhcdnbbnaa
