/-
  What is proved here: the walk of SkipNewest: it returns true. Condition: the list's length.
-/
import Derived.Test.YtlphbkhcdnbbnaaShown13
import Derived.Test.YtlphbkhcdnbbnaaSkipArgs
import Derived.Test.YtlphbkhcdnbbnaaSkipLaw2
import Derived.BigQuiet
namespace Go.Proofs.Ytlphbkhcdnbbnaa
open Go.RowKit

abbrev askV (u : ByteArray) (s : UInt64) (n : Int) : Value := .agg #[.string u, .int .u64 (s.toNat : Int), .int .i64 n]
abbrev askObj (u : ByteArray) (s : UInt64) (n : Int) : Obj := .cells #[.string u, .int .u64 (s.toNat : Int), .int .i64 n] 29 (0, 0)
theorem kcells3 {w : World} {R : Nat} {a b c : Value} {T : TypeId} (h : w.heap[R]? = some (.cells #[a, b, c] T (0, 0))) :
    (w.cell? ⟨R, 0, none⟩ = some a ∧ w.cell? ⟨R, 1, none⟩ = some b ∧ w.cell? ⟨R, 2, none⟩ = some c) := by
  refine ⟨?_, ?_, ?_⟩ <;> simp [World.cell?, h]
theorem sGetX_any (base L : Nat) (E : List Ent) (u : ByteArray) (s : UInt64) (w : World) (h : SL w base L E) (hn : E.length ≤ 1000) : Calls Try.prog 12 #[.pointer (some ⟨L, 0, none⟩), .string u, .int .u64 (s.toNat : Int)] w fun e w' => ∃ x b, Hid (getX E ⟨u, s, 0, ⟨#[]⟩⟩ = (x, b)) ∧ e = .returned (.tuple #[entV x, .bool b]) ∧ Below w.heap.size w w' := by
  have h1 := sGet_any base L E ⟨u, s, 0, ⟨#[]⟩⟩ w h hn
  rw [getV_eq] at h1
  exact h1.mono fun e w' h => ⟨_, _, Lib.hid rfl, h⟩
set_option maxHeartbeats 4000000 in
theorem skipNewest_any (v : Value) (l : List PutA) (p : PutA) (u : ByteArray) (s : UInt64) (n : Int) (w : World) (hv : SP w w.heap.size v l) (hl : l.length ≤ 140737488351232) (hok : ∀ x ∈ l, PutOk x) (hp : PutOk p) (hu : u.size ≤ 9223372036854775807) :
    Calls Try.prog 3 #[v, putV p, askV u s n] w fun en w' => en = .returned (.bool true) ∧ Below w.heap.size w w' := by
  go_enter Try.func3, Try.ntmps3
  go_wp2_with fail
  have bA : Below w.heap.size w ((w.alloc (putObj p)).alloc (askObj u s n)) := balloc (balloc (bself w) _) _
  have rA1 : ((w.alloc (putObj p)).alloc (askObj u s n)).heap[w.heap.size]? = some (putObj p) := (Below.heap_alloc _ _ _ (by simp)).trans (heap_alloc_new w _)
  have rA2 : ((w.alloc (putObj p)).alloc (askObj u s n)).heap[w.heap.size + 1]? = some (askObj u s n) := by have := heap_alloc_new (w.alloc (putObj p)) (askObj u s n); rw [World.size_alloc] at this; exact this
  have zA : ((w.alloc (putObj p)).alloc (askObj u s n)).heap.size = w.heap.size + 2 := by simp
  generalize (w.alloc (putObj p)).alloc (askObj u s n) = wA at bA rA1 rA2 zA
  refine (shown_any _).mono ?_
  rintro en w1 ⟨rfl, hb1⟩
  have b1 := bstep bA hb1
  have z1 := hb1.size
  go_wp2_with fail
  refine (sNew_any _).mono ?_
  rintro en w2 ⟨L, rfl, hS2, hb2⟩
  have b2 := bstep b1 hb2
  have z2 := hb2.size
  have c2 := hb1.trans (hb2.mono z1)
  go_wp2_with fail
  refine (few_any v l w.heap.size _ (Sl.below hv b2) hl).mono ?_
  rintro en w3 ⟨v3, rfl, hv3, hb3⟩
  have b3 := bstep b2 hb3
  have z3 := hb3.size
  have hS3 := hS2.on hb3 (Nat.le_refl _)
  have c3 := c2.trans (hb3.mono (by omega))
  have okm : ∀ x ∈ l.take 200, PutOk x := fun x hx => hok x (List.mem_of_mem_take hx)
  have hml : (l.take 200).length ≤ 200 := by rw [List.length_take]; omega
  generalize l.take 200 = m at hv3 okm hml
  obtain ⟨A, c, rfl, hlc, hcm, hr⟩ := hv3.form
  generalize hbase : w1.heap.size = base at hS3
  have hb3' : Below base w3 w3 := Below.refl _ _
  have rB1 := (c3.block _ (by omega)).trans rA1
  have rB2 := (c3.block _ (by omega)).trans rA2
  have hBw : w.heap.size + 2 ≤ base := by omega
  have hbw3 : base ≤ w3.heap.size := by omega
  go_wp2_with fail
  go_loopw [22] (fun iv wr => ∃ (k : Nat) (E : List Ent), iv = .int .i64 k ∧ k ≤ m.length ∧ SL wr base L E ∧ OkE E ∧ E.length ≤ k ∧ (∀ x ∈ E, x.seq.toNat < p.e.seq.toNat) ∧ Below base w3 wr) (fun iv _ => m.length - (intOf iv).toNat)
  case atStart => exact ⟨0, [], rfl, Nat.zero_le _, hS3, OkE.nil, Nat.le_refl _, (fun x hx => absurd hx (by simp)), hb3'⟩
  case round =>
    obtain ⟨k, E, rfl, hk, hS, hE, hEk, hEs, hbr⟩ := hrel
    have pR := (hbr.block _ (by omega)).trans rB1
    have pQ := (hbr.block _ (by omega)).trans rB2
    have hzr := hbr.size
    by_cases hlt : k < m.length
    · obtain ⟨b, o, rfl, hb, d0, d1, d2, d3, d4⟩ := (hr.below (hbr.mono (by omega))).put rfl hlt
      have okx := okm m[k] (List.getElem_mem _)
      generalize hx : m[k] = x at d0 d1 d2 d3 d4 okx
      obtain ⟨e0, e1, e2, e3, e4⟩ := kcells5 (heap_alloc_new wr (putObj x))
      obtain ⟨f0, f1, f2, f3, f4⟩ := kcells5 ((Below.heap_alloc wr (putObj x) _ (by omega)).trans pR)
      have hS5 := hS.on (balloc (bself wr) (putObj x)) (Nat.le_refl _)
      have bS5 : Below base w3 (wr.alloc (putObj x)) := hbr.trans ((balloc (bself wr) _).mono (by omega))
      by_cases hsq : x.e.seq.toNat < p.e.seq.toNat
      · go_wp2_with fail
        refine (sPut_any base L E x.e x.h _ hS5 hE (by omega) okx.1 okx.2.1 okx.2.2).mono ?_
        rintro en w6 ⟨rfl, hS6, _, hb6⟩
        have hP := hE.put x.e
        go_wp2_with fail
        go_roundw
        case rel => exact ⟨k + 1, _, by go_num, by omega, hS6, hP.1, by omega, (fun y hy => by rcases mem_put hy with h | h; exact hEs y h; rw [h]; exact hsq), bS5.trans hb6⟩
        case measure => simp [intOf]; omega
      · go_wp2_with fail
        go_roundw
        case rel => exact ⟨k + 1, E, by go_num, by omega, hS5, hE, by omega, hEs, bS5⟩
        case measure => simp [intOf]; omega
    · clear hS2 hS3
      obtain ⟨g0, g1, g2⟩ := kcells3 pQ
      go_wp2_with fail
      refine (sGetX_any base L E u s _ hS (by omega)).mono ?_
      rintro en w6 ⟨xa, ba, HA, rfl, hb6⟩
      have z6 := hb6.size
      have hS6 := hS.on hb6 (Nat.le_refl _)
      have hS7 := hS6.on (balloc (bself w6) (entObj xa)) (Nat.le_refl _)
      have b7 : Below base w3 (w6.alloc (entObj xa)) := (hbr.trans (hb6.mono (by omega))).trans ((balloc (bself w6) _).mono (by omega))
      have pR7 := (b7.block _ (by omega)).trans rB1
      have pQ7 := (b7.block _ (by omega)).trans rB2
      have xR7 := heap_alloc_new w6 (entObj xa)
      obtain ⟨f0, f1, f2, f3, f4⟩ := kcells5 pR7
      have z7 : (w6.alloc (entObj xa)).heap.size = w6.heap.size + 1 := by simp
      clear g0 g1 g2
      go_wp2_with fail
      refine (sPut_any base L E p.e p.h _ hS7 hE (by omega) hp.1 hp.2.1 hp.2.2).mono ?_
      rintro en w8 ⟨rfl, hS8, hfr8, hb8⟩
      clear f0 f1 f2 f3 f4
      have z8 := hb8.size
      have b8 := b7.trans hb8
      have pR8 := (b8.block _ (by omega)).trans rB1
      have pQ8 := (b8.block _ (by omega)).trans rB2
      have hl6 := hS6.lt
      obtain ⟨g6, hg6, _, _, hg6l⟩ := hS6.row
      have hro : rowAt (w6.alloc (entObj xa)) L = some g6 := by
        rw [← hg6]; unfold rowAt; rw [(balloc (bself w6) (entObj xa)).cell (p := ⟨L, 0, none⟩) hl6.2]
      have xR8 := (hfr8.2 w6.heap.size (by omega) (by omega) (by rw [hro]; intro e; injection e with e; omega)).trans xR7
      obtain ⟨⟨g0, g1, g2, g3, g4⟩⟩ := And.intro (kcells5 pR8) True.intro
      cases hri : rightE p.e with
      | false =>
        have HP : Hid (putE E p.e = (1, E)) := Lib.hid (by unfold putE; rw [hri]; rfl)
        rw [HP.out] at hS8 ⊢
        go_wp2_with fail
        refine (iRight_any p.e _ hp.1.1 hp.1.2).mono ?_
        rintro en w9 ⟨rfl, hb9⟩
        rw [hri]
        go_wp2_with fail
        go_ret
        exact ⟨rfl, b3.trans ((b8.mono (by omega)).trans (hb9.mono (by omega)))⟩
      | true =>
        have hth := there_less hEs
        have HP : Hid (putE E p.e = (0, insE p.e E)) := Lib.hid (by unfold putE; rw [hri, hth]; rfl)
        rw [HP.out] at hS8 ⊢
        obtain ⟨q0, q1, q2⟩ := kcells3 pQ8
        go_wp2_with fail
        refine (sGetX_any base L (insE p.e E) u s _ hS8 (by rw [insE_length]; omega)).mono ?_
        rintro en w9 ⟨xb, bb, HB, rfl, hb9⟩
        have z9 := hb9.size
        have b9 : Below base w3 (w9.alloc (entObj xb)) := (b8.trans (hb9.mono (by omega))).trans ((balloc (bself w9) _).mono (by omega))
        have pR9 := (b9.block _ (by omega)).trans rB1
        have pQ9 := (b9.block _ (by omega)).trans rB2
        have xR9 := heap_alloc_new w9 (entObj xb)
        have yR9 := ((Below.heap_alloc w9 (entObj xb) w6.heap.size (by omega)).trans (hb9.block _ (by omega))).trans xR8
        clear g0 g1 g2 g3 g4 q0 q1 q2
        obtain ⟨g0, g1, g2, g3, g4⟩ := kcells5 pR9
        obtain ⟨q0, q1, q2⟩ := kcells3 pQ9
        obtain ⟨⟨j0, j1, j2, j3⟩, _, _, _, _⟩ := kcells4 xR9
        obtain ⟨⟨i0, i1, i2, i3⟩, _, _, _, _⟩ := kcells4 yR9
        have bE : Below w.heap.size w (w9.alloc (entObj xb)) := b3.trans (b9.mono (by omega))
        by_cases hue : (u.toList == p.e.user.toList) = true
        · by_cases hse : p.e.seq.toNat ≤ s.toNat
          · have HN : Hid (xb = p.e ∧ bb = true) := Lib.hid (by
              have := newest_is (q := ⟨u, s, 0, ⟨#[]⟩⟩) hEs (by simpa using hue) hse
              rw [HB.out] at this
              injection this with h1 h2
              exact ⟨h1, h2⟩)
            obtain ⟨rfl, rfl⟩ := HN.out
            clear HN HB
            go_wp2_with fail
            go_ret
            exact ⟨rfl, bE⟩
          · have HN : Hid (xb = xa ∧ bb = ba) := Lib.hid (by
              have := newest_not (q := ⟨u, s, 0, ⟨#[]⟩⟩) hE hth (fun h => hse h.2)
              rw [HB.out, HA.out] at this
              injection this with h1 h2
              exact ⟨h1, h2⟩)
            obtain ⟨rfl, rfl⟩ := HN.out
            clear HN HB HA
            go_wp2_with fail
            go_ret
            exact ⟨rfl, bE⟩
        · have HN : Hid (xb = xa ∧ bb = ba) := Lib.hid (by
            have := newest_not (q := ⟨u, s, 0, ⟨#[]⟩⟩) hE hth (fun h => hue (by simpa using h.1))
            rw [HB.out, HA.out] at this
            injection this with h1 h2
            exact ⟨h1, h2⟩)
          obtain ⟨rfl, rfl⟩ := HN.out
          clear HN HB HA
          have hue' : (u.toList == p.e.user.toList) = false := by simpa using hue
          clear hue
          go_wp2_with fail
          go_ret
          exact ⟨rfl, bE⟩
end Go.Proofs.Ytlphbkhcdnbbnaa
