/-
  What is proved here: what level of package tantalustop lays: a table of each part of a split, its meta, its bytes by its number, at this seat's numbers. Conditions: entries that may be, few of them; the table of constants.
  the tables of a level fit a state; a key's last entry up to a moment is found in the one table whose keys reach over it. No program in sight.
  what Get tells of a level's table; the head of the statement (stands) is true, at this seat's numbers. Conditions: the table of constants.
  the call of the statement TopLevels returns true and turns nothing that was there, at this seat's numbers. Conditions: the texts' lengths; the table of constants.
-/
import Derived.Test.YtchjknbideoieaaGreatDoorK49
import Derived.Test.YtchjknbideoieaaGreatDoorK50
import Derived.Test.YtchjknbideoieaaGreatDoorK45
import Derived.Test.YtchjknbideoieaaGreatDoorK06
import Derived.DeepKeys
namespace Go.Proofs.YtchjknbideoieaaGreatDoor
open Go.RowKit Go.Great Go.Proofs
def oneR : List UInt8 := 1 :: List.replicate 31 0
def oneA : Array Value := dgA oneR
abbrev hdT (n : Nat) : Hd := ⟨2, 1, 0, 0, n⟩
def IsTab (n ev : Nat) (blk : Int) (T : List Ent) (Y : Md) (b : List UInt8) : Prop :=
  ∃ filt, FiltOk filt T ∧ MtOf Y.1 (hdT n) (keyOfUse oneR (layH (hdT n))) (layH (hdT n)) ev blk T filt ∧ Y.1.count = T.length ∧ Y.1.mn = (T.getD 0 ent0).user ∧ Y.1.mx = (T.getD (T.length - 1) ent0).user ∧ b = tabB (keyOfUse oneR (layH (hdT n))) (layH (hdT n)) ev blk T filt
structure Tb where
  m : Md
  v : Value
  b : List UInt8
  t : List Ent
structure LvAt (w : World) (Bm base fr ev : Nat) (blk : Int) (vm : Value) (Q : List Tb) : Prop where
  o : OG 55 mdC 40 w base vm (Q.map (·.m))
  m : MapU w Bm (Q.map fun q => (q.m.1.n, q.v))
  b : ∀ q ∈ Q, OB w base q.v q.b
  t : ∀ q ∈ Q, Ap vm q.v
  i : ∀ j (h : j < Q.length), IsTab (fr + j) ev blk Q[j].t Q[j].m Q[j].b
theorem LvAt.on {w w' : World} {Bm base fr ev : Nat} {blk : Int} {vm : Value} {Q : List Tb} (h : LvAt w Bm base fr ev blk vm Q) (hb : Below w.heap.size w w') : LvAt w' Bm base fr ev blk vm Q :=
  ⟨h.o.below hb (Nat.le_refl _), h.m.on hb, fun q hq => (h.b q hq).below hb (Nat.le_refl _), h.t, h.i⟩
theorem LvAt.new {w : World} {Bm base fr ev : Nat} {blk : Int} (h : MapU w Bm []) : LvAt w Bm base fr ev blk (.slice none 0 0) [] :=
  ⟨OG.nil_ _ _ _ _ _, h, fun q hq => (by cases hq), fun q hq => (by cases hq), fun j hj => (by simp at hj)⟩
theorem LvAt.put {w w1 w2 : World} {Bm base fr ev n : Nat} {blk : Int} {vm vm' : Value} {Q : List Tb} {q : Tb} (h : LvAt w Bm base fr ev blk vm Q) (ho : OG 55 mdC 40 w1 base vm' (Q.map (·.m) ++ [q.m])) (hg : w.grownBy w1 vm.ownBlock) (hf : vm'.ownBlock = vm.ownBlock ∨ vm'.ownBlock = some n) (hn : w.heap.size ≤ n)
    (hqb : OB w base q.v q.b) (hqa : Ap vm q.v) (hm : MapU w2 Bm (Q.map (fun q => (q.m.1.n, q.v)) ++ [(q.m.1.n, q.v)])) (hg2 : w1.grownBy w2 (some Bm)) (hBm : Bm < base) (hi : IsTab (fr + Q.length) ev blk q.t q.m q.b) :
    LvAt w2 Bm base fr ev blk vm' (Q ++ [q]) := by
  have hne : ∀ {x : Value}, (∀ k, x.ownBlock = some k → base ≤ k) → x.ownBlock = none ∨ x.ownBlock ≠ some Bm := fun {x} hx => by
    rcases e : x.ownBlock with _ | j
    · exact .inl rfl
    · refine .inr fun e2 => ?_
      injection e2 with e2
      have := hx j e
      omega
  have hall : ∀ x ∈ Q ++ [q], OB w base x.v x.b ∧ Ap vm x.v := fun x hx => by
    rcases List.mem_append.1 hx with hx | hx
    · exact ⟨h.b x hx, h.t x hx⟩
    · rw [List.mem_singleton.1 hx]; exact ⟨hqb, hqa⟩
  refine ⟨?_, by simpa using hm, fun x hx => ?_, fun x hx => ?_, fun j hj => ?_⟩
  · rw [List.map_append]
    exact ho.grown hg2 (hne fun k hk => (ho.lt k hk).1)
  · obtain ⟨h1, h2⟩ := hall x hx
    have h3 : OB w1 base x.v x.b := World.ownsRow.kept h1 hg (Ap.symm h2)
    exact World.ownsRow.kept h3 hg2 (hne fun k hk => (World.ownsRow.lt h3 k hk).1)
  · obtain ⟨h1, h2⟩ := hall x hx
    exact h2.left (fun k hk => (World.ownsRow.lt h1 k hk).2) (fs_of hf hn)
  · rw [List.length_append, List.length_singleton] at hj
    rcases Nat.lt_or_ge j Q.length with h1 | h1
    · simp only [List.getElem_append_left h1]; exact h.i j h1
    · obtain rfl : j = Q.length := by omega
      simpa using hi
theorem flat_len_ge {α : Type} : ∀ (L : List (List α)), (∀ T ∈ L, 0 < T.length) → L.length ≤ L.flatten.length
  | [], _ => Nat.le_refl _
  | T :: L, h => by
    have h1 := h T (by simp)
    have h2 := flat_len_ge L (fun x hx => h x (by simp [hx]))
    rw [List.flatten_cons, List.length_append, List.length_cons]
    omega
theorem World.ownsRow.rebase' {w : World} {base base' : Nat} {v : Value} {l : List UInt8} (h : OB w base v l) (hB : base' ≤ base) : OB w base' v l := own_base h hB
def SpKept (w : World) (B : Nat) (r : Value) (P : List Pr) : Prop := SG prC 1 w B r P ∧ ∀ p ∈ P, SE w B p.1 p.2
theorem SpKept.keep {w w' : World} {B : Nat} {r : Value} {P : List Pr} (h : SpKept w B r P) (hk : ∀ p : Addr, p.block < B → w'.cell? p = w.cell? p) : SpKept w' B r P := ⟨h.1.keep hk, fun p hp => Sl.keep (h.2 p hp) hk⟩
theorem map_cell {w w' : World} {b : Nat} {L L' : List (Nat × Value)} (h : MapU w b L) (h' : MapU w' b L') (hg : w.grownBy w' (some b)) (p : Addr) (hp : p.block < w.heap.size) : w'.cell? p = w.cell? p := by
  by_cases e : p.block = b
  · obtain ⟨es, c, h1, _⟩ := h
    obtain ⟨es', c', h1', _⟩ := h'
    rw [← e] at h1 h1'
    unfold World.cell?
    rw [h1, h1']
  · exact World.cell?_of_block (hg.block _ hp (fun e2 => by injection e2 with e2; exact e e2))
theorem part_ok {most : Int} {l : List Ent} (hR : rightL l = true) (hlen : l.length ≤ 1000) (htx : textE l ≤ 10000) {T : List Ent} (hT : T ∈ splitL most l) : rightL T = true ∧ 0 < T.length ∧ T.length ≤ 1000 ∧ textE T ≤ 10000 := by
  obtain ⟨h1, h2⟩ := rightL_all hR
  obtain ⟨a, b, e⟩ := part_of hT
  rw [splitL_flat] at e
  have hl := congrArg List.length e
  have ht := congrArg textE e
  rw [textE_append, textE_append] at ht
  simp only [List.length_append] at hl
  refine ⟨?_, List.length_pos_iff.2 ((splitL_under most l h1).2 T hT), by omega, by omega⟩
  unfold rightL
  rw [Bool.and_eq_true, List.all_eq_true]
  exact ⟨rises_part h1 e, fun x hx => h2 x (by rw [e]; simp [hx])⟩
section
variable {ops : Array Oper} {rest : List Oper} {o : Oper} {a : Act} {Q : Exit → Act → World → Prop} {w : World}
set_option maxRecDepth 100000 in
theorem wl_bldOne (hgd : Region.wanted o (yielded ops a.tmps) = true) (ho : o.op = .build 53 #[(0, .const (.int .u8 1))]) (h : wpList Tryz.prog ops Q rest (a.put o.dst (.agg oneA)) w) : wpList Tryz.prog ops Q (o :: rest) a w := by
  refine wl_of hgd fun K hK => ?_
  have hr : (execOp a.eval o).run Tryz.prog w = .ok (.value (.agg oneA)) w := by
    unfold execOp
    simp only [ho]
    kernel_rfl
  exact wp_of_exec hr (hK _ _ h)
end
abbrev rowSh (blk ev bits : Nat) : Array Value := #[.int .i64 (blk : Int), .int .i64 (ev : Int), .int .i64 (bits : Int)]
def LevelPost (w : World) (fr ev : Nat) (blk : Int) (Ts : List (List Ent)) (e : Ending) (w' : World) : Prop := ∃ vm Bm B Q, e = .returned (.tuple #[vm, .map (some Bm), .bool true]) ∧ LvAt w' Bm B fr ev blk vm Q ∧ Q.map (·.t) = Ts ∧ w.heap.size ≤ Bm ∧ Bm < B ∧ Below w.heap.size w w'
set_option maxRecDepth 100000 in
set_option maxHeartbeats 8000000 in
theorem kLevel_any (l : List Ent) (v : Value) (most : Int) (fr blk ev bits : Nat) (w : World) (hv : SE w w.heap.size v l) (hR : rightL l = true) (hlen : l.length ≤ 1000) (htx : textE l ≤ 10000) (hmost : 0 ≤ most ∧ most ≤ 1000000) (hfr : fr ≤ 1000000) (hblk : 1 ≤ blk ∧ blk ≤ 1048576) (hev : 1 ≤ ev ∧ ev ≤ 1024) (hbits : 1 ≤ bits ∧ bits ≤ 64)
    (hk : KTab w 0) (h1 : 0 < w.heap.size) :
    Calls Tryz.prog 9 #[.int .i64 1, v, .int .i64 most, .int .u64 (fr : Int), .agg (rowSh blk ev bits)] w (LevelPost w fr ev (blk : Int) (splitL most l)) := by
  have hrise := (rightL_all hR).1
  have hz : ∀ e ∈ l, e.user.size ≤ 1048576 ∧ e.value.size ≤ 1048576 := fun e he => by have := rightE_le ((rightL_all hR).2 e he); omega
  have hpt : ∀ T ∈ splitL most l, rightL T = true ∧ 0 < T.length ∧ T.length ≤ 1000 ∧ textE T ≤ 10000 := fun T hT => part_ok hR hlen htx hT
  have HSplit : Hid (∀ W, Below w.heap.size w W → Calls Tryz.prog 21 #[v, .int .i64 most] W fun e w' => ∃ r P, e = .returned r ∧ OL w' W.heap.size r P ∧ P.map (·.2) = splitL most l ∧ Below W.heap.size W w') := Lib.hid (fun W hW => kSplit_any l v most W (hv.on hW) hrise hlen hz hmost)
  have HPT := Lib.hid hpt
  have hnp : (splitL most l).length ≤ 1000 := by
    have h := congrArg List.length (splitL_flat most l)
    have h2 := flat_len_ge (splitL most l) (fun T hT => (hpt T hT).2.1)
    omega
  obtain ⟨Ts, hTs⟩ : ∃ Ts, Ts = splitL most l := ⟨_, rfl⟩
  rw [← hTs] at HSplit HPT hnp ⊢
  clear hv hR hlen htx hrise hz hpt hTs
  have hwm := fun W => run_makeMap (P := Tryz.prog) 31 W
  go_enter Tryz.func9, Tryz.ntmps9
  go_upto_region 3 with fail
  have rSh := heap_alloc2_old w (.cells (rowSh blk ev bits) 35) (.map #[] 0)
  have hMp := MapU.new (w.alloc (.cells (rowSh blk ev bits) 35))
  have bB := balloc (balloc (bself w) (.cells (rowSh blk ev bits) 35)) (.map #[] 0)
  have zB : ((w.alloc (.cells (rowSh blk ev bits) 35)).alloc (.map #[] 0)).heap.size = w.heap.size + 1 + 1 := by simp
  simp only [World.size_alloc] at hMp
  generalize World.alloc _ _ = wB at rSh hMp bB zB ⊢
  obtain ⟨Bm, hBm⟩ : ∃ Bm, Bm = w.heap.size + 1 := ⟨_, rfl⟩
  rw [← hBm] at hMp zB ⊢
  have hBm1 : w.heap.size < Bm := by omega
  clear hBm hwm
  have HSp := Lib.hid (HSplit.out wB bB)
  go_wp2_with (go_at_call 21; refine HSp.out.mono ?_; rintro _ ws ⟨r, P, rfl, hol, hPs, hbs⟩; obtain ⟨Ar, cr, rfl, hcr, hcr2⟩ := hol.o.sg.form)
  have rSh2 := (hbs.block _ (show w.heap.size < wB.heap.size by omega)).trans rSh
  have hMp2 := hMp.on hbs
  have bS := bstep bB hbs
  obtain ⟨B, hB⟩ : ∃ B, B = ws.heap.size := ⟨_, rfl⟩
  have hSK : SpKept ws B (.slice Ar P.length cr) P := by rw [hB]; exact ⟨hol.o.sg, fun p hp => (hol.i p hp).se⟩
  have hBs : Bm < B := by have := hbs.size; omega
  obtain ⟨np, hnpd⟩ : ∃ np, np = P.length := ⟨_, rfl⟩
  have hnpl : np ≤ 1000 := by have := congrArg List.length hPs; rw [List.length_map] at this; omega
  rw [← hnpd] at hSK hcr ⊢
  have HP := Lib.hid (And.intro hPs hnpd)
  have hBle : B ≤ ws.heap.size := by omega
  clear hol hPs hnpd rSh hMp bB zB HSplit HSp hbs hB
  go_loopw [13, 26] (fun mv iv wi => ∃ (i : Nat) (A : Option Addr) (m c : Nat) (Q : List Tb), iv = .int .i64 (i : Int) ∧ mv = .slice A m c ∧ i ≤ np ∧ m ≤ i ∧ Hid (m = Q.length ∧ Q.map (·.t) = Ts.take i ∧ LvAt wi Bm B fr ev (blk : Int) (.slice A m c) Q) ∧ Hid (SpKept wi B (.slice Ar np cr) P) ∧ Hid (wi.heap[w.heap.size]? = some (.cells (rowSh blk ev bits) 35 (0, 0))) ∧ B ≤ wi.heap.size ∧ Below w.heap.size w wi) (fun _ iv _ => np - (intOf iv).toNat)
  case atStart => exact ⟨0, none, 0, 0, [], rfl, rfl, by omega, by omega, Lib.hid ⟨rfl, rfl, LvAt.new hMp2⟩, Lib.hid hSK, Lib.hid rSh2, hBle, bS⟩
  case round =>
    obtain ⟨i, A, m, c, Q, rfl, rfl, hi, hmi, HQ, HSK, HSh, hBi, hbi⟩ := hrel
    by_cases hin : i < np
    · have hiP : i < P.length := by rw [← HP.out.2]; exact hin
      obtain ⟨b, o, kk, e, hb, hr⟩ := HSK.out.1.at_ prC_length (by omega)
      injection e with e1 e2 e3
      subst e1; subst e3
      obtain ⟨p, hp⟩ : ∃ p : Pr, p = P[i] := ⟨_, rfl⟩
      have cP := hr i hiP 0 p.1 (by rw [hp]; rfl)
      have hse := HSK.out.2 p (by rw [hp]; exact List.getElem_mem hiP)
      rw [Nat.mul_one, Nat.add_zero] at cP
      obtain ⟨T, hT⟩ : ∃ T, T = p.2 := ⟨_, rfl⟩
      rw [← hT] at hse
      have hTi : Ts[i]? = some T := by rw [← HP.out.1, List.getElem?_map, List.getElem?_eq_getElem hiP, ← hp, hT]; rfl
      obtain ⟨v3, hv3⟩ : ∃ v3, v3 = p.1 := ⟨_, rfl⟩
      rw [← hv3] at cP hse
      obtain ⟨A3, k3, rfl, _, _⟩ := id hse
      obtain ⟨tl, htl⟩ : ∃ tl, tl = T.length := ⟨_, rfl⟩
      rw [← htl] at cP hse
      have HT := Lib.hid (And.intro hTi (And.intro hse e2))
      have hii : (i : Int) < (np : Int) := by omega
      obtain ⟨nm, hnm⟩ : ∃ nm, nm = fr + i := ⟨_, rfl⟩
      have gi8 : IntKind.u8.wrap 1 = 1 := by decide
      have giw : IntKind.u64.wrap (i : Int) = (i : Int) := by rw [IntKind.wrap_u64]; omega
      have gnm : (fr : Int) + (i : Int) = (nm : Int) := by omega
      have gnw : IntKind.u64.wrap (nm : Int) = (nm : Int) := by rw [IntKind.wrap_u64]; omega
      have HNM := Lib.hid hnm
      have hnmb : nm ≤ 1001000 := by omega
      clear hr hp hv3 hT hTi hse e2 htl hnm
      have HBuild : Hid (∀ W, Below wr.heap.size wr W → Calls Tryz.prog 17 #[.agg oneA, .agg #[.int .u8 2, .int .u8 1, .int .u64 0, .int .u64 0, .int .u64 (nm : Int)], .slice A3 tl k3, .agg (rowSh blk ev bits)] W fun e w' => ∃ r Y bts, e = .returned (.tuple #[r, .agg (mdC Y).toArray, .int .i64 0]) ∧ IsTab nm ev (blk : Int) T Y bts ∧ OB w' W.heap.size r bts ∧ Below W.heap.size W w') := Lib.hid (fun W hW => by
        have hTm : T ∈ Ts := List.mem_of_getElem? HT.out.1
        obtain ⟨t1, t2, t3, t4⟩ := HPT.out T hTm
        have hbw := bstep hbi hW
        have hseW : SE W W.heap.size (.slice A3 tl k3) T := (Sl.keep HT.out.2.1 (fun p hp => hW.cell (by omega))).more (by have := hW.size; omega)
        refine (kBuild_tab oneR rfl (hdT nm) ⟨by show 2 < 256; omega, by show 1 < 256; omega, by show 0 < 18446744073709551616; omega, by show 0 < 18446744073709551616; omega, by show nm < 18446744073709551616; omega⟩ rfl rfl T blk ev bits hblk hev hbits oneA rfl (.slice A3 tl k3) W hseW t1 t2 t3 t4 (hk.on hbw h1) (by have := hbw.size; omega)).mono ?_
        rintro e w' ⟨r, filt, rfl, hf, hob, hb⟩
        refine ⟨r, ⟨⟨1, 0, 0, nm, _, _, _, _, _⟩, (rootR jnD zD (tabL (keyOfUse oneR (layH (hdT nm))) (layH (hdT nm)) ev (blk : Int) T filt)).2⟩, _, rfl, ⟨filt, hf, ⟨rfl, rfl, rfl, rfl, rfl, rfl⟩, rfl, rfl, rfl, rfl⟩, hob, hb⟩)
      go_upto_region 7 with fail
      have hH := heap_alloc_new wr (.cells #[.int .u8 2, .int .u8 1, .int .u64 0, .int .u64 0, .int .u64 (nm : Int)] 65)
      have hS := (heap_alloc_old wr (.cells #[.int .u8 2, .int .u8 1, .int .u64 0, .int .u64 0, .int .u64 (nm : Int)] 65) (show w.heap.size < wr.heap.size by have := (Array.getElem?_eq_some_iff.1 HSh.out).1; omega)).trans HSh.out
      have bH := balloc (bself wr) (.cells #[.int .u8 2, .int .u8 1, .int .u64 0, .int .u64 0, .int .u64 (nm : Int)] 65)
      generalize World.alloc wr _ = wH at hH hS bH ⊢
      have h0 : wH.cell? ⟨wr.heap.size, 0, none⟩ = some (.int .u8 2) := cell_of_row _ _ 0 _ _ _ hH
      have h1c : wH.cell? ⟨wr.heap.size, 1, none⟩ = some (.int .u8 1) := cell_of_row _ _ 1 _ _ _ hH
      have h2 : wH.cell? ⟨wr.heap.size, 2, none⟩ = some (.int .u64 0) := cell_of_row _ _ 2 _ _ _ hH
      have h3 : wH.cell? ⟨wr.heap.size, 3, none⟩ = some (.int .u64 0) := cell_of_row _ _ 3 _ _ _ hH
      have h4 : wH.cell? ⟨wr.heap.size, 4, none⟩ = some (.int .u64 (nm : Int)) := cell_of_row _ _ 4 _ _ _ hH
      have s0 : wH.cell? ⟨w.heap.size, 0, none⟩ = some (.int .i64 (blk : Int)) := cell_of_row _ _ 0 _ _ _ hS
      have s1 : wH.cell? ⟨w.heap.size, 1, none⟩ = some (.int .i64 (ev : Int)) := cell_of_row _ _ 1 _ _ _ hS
      have s2 : wH.cell? ⟨w.heap.size, 2, none⟩ = some (.int .i64 (bits : Int)) := cell_of_row _ _ 2 _ _ _ hS
      have HBd := Lib.hid (HBuild.out wH bH)
      clear hH hS cP gi8 giw gnm gnw HBuild
      go_upto_region 8 with (first | (refine wl_bldOne rfl rfl ?_) | (go_at_call 17; refine HBd.out.mono ?_; rintro _ w3 ⟨r3, Y, bts, rfl, hit, hob, hb3⟩; obtain ⟨xc, hxc⟩ : ∃ xc, (mdC Y).toArray = xc := ⟨_, rfl⟩; rw [hxc]; obtain ⟨A4, k4, rfl, _, _⟩ := hob.sb; obtain ⟨bl, hbl⟩ : ∃ bl, bl = bts.length := ⟨_, rfl⟩; rw [← hbl] at hob ⊢; have HXP : Hid (xc.size = 40 ∧ ∀ v ∈ xc.toList, v.oneCell' = true) := Lib.hid (by rw [← hxc]; exact ⟨by simp [mdC_length], fun v hv => mdC_one Y v (by simpa using hv)⟩); have HY := Lib.hid (And.intro hxc (And.intro hit (And.intro hob hb3))); clear hxc hbl hit hob hb3) | (refine wl_storeT 55 (n := 40) infoMd rfl (.tmp 19) (.tmp 45) rfl _ rfl _ xc rfl (heap_alloc_new _ _) (by rfl) HXP.out.1 HXP.out.2 ?_))
      try simp only [Act.put]
      generalize hW4 : World.setRow _ _ _ = w4
      have hX4 : w4.heap[w3.heap.size]? = some (.cells xc 55 (0, 0)) := by rw [← hW4]; exact setRow_heap _ _ _ _ _ _ (heap_alloc_new _ _)
      have b34 : Below w3.heap.size w3 w4 := by rw [← hW4]; exact below_setRow (balloc (bself w3) _) (Nat.le_refl _) _
      have z4 : w3.heap.size < w4.heap.size := (Array.getElem?_eq_some_iff.1 hX4).1
      obtain ⟨hxc, hit, hob, hb3⟩ := HY.out
      have b4 : Below wr.heap.size wr w4 := bstep (bstep bH hb3) b34
      have hzr : wr.heap.size ≤ w3.heap.size := (bstep bH hb3).size
      have hzH : wr.heap.size ≤ wH.heap.size := bH.size
      have hY3 : Y.1.n = nm := by obtain ⟨_, _, q, _⟩ := hit; exact q.n
      have d3 : w4.cell? ⟨w3.heap.size, 3, none⟩ = some (.int .u64 (nm : Int)) := (cell_of_row _ _ 3 _ _ _ hX4).trans (by rw [← hxc, ← hY3]; rfl)
      obtain ⟨hQ1, hQ2, hQ3⟩ := HQ.out
      have hQl : Q.length = i := by
        have h5 := congrArg List.length hQ2
        have h6 := congrArg List.length HP.out.1
        rw [List.length_map, List.length_take] at h5
        rw [List.length_map, ← HP.out.2] at h6
        omega
      have hown := hQ3.o.lt
      have hrown := World.ownsRow.lt hob
      have hApR : Ap (.slice A m c) (.slice A4 bl k4) := by
        rcases e : (Value.slice A m c).ownBlock with _ | g
        · exact .inl e
        · refine .inr fun e2 => ?_
          rw [e] at e2
          have g1 := (hown g e).2
          have g2 := (hrown g e2.symm).1
          omega
      have HL4 := Lib.hid (hQ3.on b4)
      have HOR : Hid (OB w4 B (.slice A4 bl k4) bts) := Lib.hid ((World.ownsRow.rebase' hob (by omega)).below b34 (Nat.le_refl _))
      have hneX : some w3.heap.size ≠ (Value.slice A m c).ownBlock := fun e => by have := (hown _ e.symm).2; omega
      have HNeX := Lib.hid hneX
      have hkeys : ∀ p ∈ Q.map (fun q => (q.m.1.n, q.v)), p.1 ≠ nm := fun p hp => by
        obtain ⟨q, hq, rfl⟩ := List.mem_map.1 hp
        obtain ⟨j, hj, rfl⟩ := List.getElem_of_mem hq
        obtain ⟨_, _, mt, _⟩ := hQ3.i j hj
        have := mt.n
        show Q[j].m.1.n ≠ nm
        rw [this]
        show fr + j ≠ nm
        have := HNM.out
        omega
      have HKeys := Lib.hid hkeys
      have hlQ : (Q.map (·.m)).length = i := by rw [List.length_map]; exact hQl
      have HlQ := Lib.hid (And.intro hlQ hQl)
      have HY3 := Lib.hid hY3
      have hBw4 : B ≤ w4.heap.size := by omega
      clear hW4 hxc hit hob hb3 hQ1 hQ2 hQ3 hQl hown hrown hneX hkeys hlQ hY3
      go_upto_region 11 with (first | (refine wpList_load_row rfl 55 (.tmp 19) rfl _ rfl _ xc (0, 0) _ hX4 Tryz.underlying55 rfl (by rw [HXP.out.1]; exact infoMd) ?_) | (refine wl_buildG rfl 30 55 _ 112 infoMdz Tryz.underlying30 (by omega) (by omega) (by omega) (.tmp 50) rfl xc rfl HXP.out.1 ?_) | (at_builtin; refine wl_appG rfl 30 55 _ 112 infoMdz Tryz.underlying30 rfl (by omega) (.tmp 49) (.tmp 51) rfl B (.slice A m c) (Q.map (·.m)) rfl (HL4.out.o.alloc _) (w4.heap.size + 1) _ [Y] (fun x hx u hu => by rw [List.mem_singleton.1 hx] at hu; exact mdC_one Y u hu) rfl (by rw [← HY.out.1]; exact SG.new1 w4 mdC 40 55 Y (mdC_length Y) rfl (Nat.lt_succ_self _)) (by have := HlQ.out.1; simp [maxLen] at this ⊢; omega) (by have := HlQ.out.1; simp at this ⊢; omega) (by rw [World.size_alloc]; omega) ?_; intro v6 w6 ho6 hg6 hf6 hb6; obtain ⟨A6, k6, rfl, _, _⟩ := ho6.sg.form; obtain ⟨m6, hm6⟩ : ∃ m6, m6 = (Q.map (·.m) ++ [Y]).length := ⟨_, rfl⟩; rw [← hm6] at ho6 hf6 ⊢; have H6 := Lib.hid (And.intro hm6 (And.intro ho6 (And.intro hg6 (And.intro hf6 hb6)))); clear hm6 ho6 hg6 hf6 hb6))
      obtain ⟨hm6, ho6, hg6, hf6, hb6⟩ := H6.out
      have hXa : w3.heap.size < (w4.alloc (.cells xc 55)).heap.size := by rw [World.size_alloc]; omega
      have d3' : w6.cell? ⟨w3.heap.size, 3, none⟩ = some (.int .u64 (nm : Int)) := (grown_cell hg6 hXa HNeX.out 3).1.trans ((World.cell?_alloc_lt w4 _ _ z4).trans d3)
      have hMa := HL4.out.m.alloc (.cells xc 55)
      have hBne : some Bm ≠ (Value.slice A m c).ownBlock := fun e => by have := (HL4.out.o.lt _ e.symm).1; omega
      have HM6 : Hid (MapU w6 Bm (Q.map fun q => (q.m.1.n, q.v))) := Lib.hid (hMa.blk (hg6.block Bm hMa.lt hBne))
      have hz6 := hb6.size
      rw [World.size_alloc] at hz6
      clear hm6 ho6 hg6 hf6 hb6 d3 hXa hMa hBne
      go_upto_region 12 with (at_mapUpdate; refine wl_mapU rfl (.tmp 53) (.tmp 55) (.tmp 56) 31 rfl Tryz.underlying31 Tryz.underlying23 Bm _ rfl HM6.out nm rfl _ rfl HKeys.out ?_; intro w7 hm7 hg7)
      have HW7 := Lib.hid (And.intro hm7 hg7)
      clear hm7 hg7
      go_wp2_with fail
      go_roundw
      case rel =>
        obtain ⟨hm6, ho6, hg6, hf6, hb6⟩ := H6.out
        obtain ⟨hm7, hg7⟩ := HW7.out
        obtain ⟨_, hit, _, _⟩ := HY.out
        have hB34 : Below B wr w4 := b4.mono hBi
        have hB6 : Below B wr w6 := (hB34.alloc hBw4 _).trans hb6
        have hL7 : LvAt w7 Bm B fr ev (blk : Int) (.slice A6 m6 k6) (Q ++ [⟨Y, .slice A4 bl k4, bts, T⟩]) := by
          refine HL4.out.put (n := w4.heap.size + 1) (q := ⟨Y, .slice A4 bl k4, bts, T⟩) ho6 ((World.grownBy_alloc w4 _ _).trans hg6) (by simpa using hf6) (by omega) HOR.out hApR ?_ hg7 hBs ?_
          · rw [← HY3.out] at hm7; exact hm7
          · rw [HlQ.out.2, ← HNM.out]; exact hit
        have hSK6 : SpKept w6 B (.slice (some ⟨b, o, none⟩) np cr) P := HSK.out.keep fun p hp => hB6.cell hp
        have hBw6 : B ≤ w6.heap.size := by have := hb6.size; rw [World.size_alloc] at this; omega
        refine ⟨i + 1, A6, m6, k6, Q ++ [⟨Y, .slice A4 bl k4, bts, T⟩], by go_num, rfl, by omega, ?_, Lib.hid ⟨?_, ?_, hL7⟩, Lib.hid ?_, Lib.hid ?_, ?_, ?_⟩
        · rw [hm6, List.length_append, HlQ.out.1]; simp
        · rw [hm6, List.length_append, HlQ.out.1, List.length_append, HlQ.out.2]
          rfl
        · have hi2 := List.getElem?_eq_some_iff.1 HT.out.1
          obtain ⟨hi3, hi4⟩ := hi2
          rw [List.map_append, HQ.out.2.1, List.take_succ_eq_append_getElem hi3, hi4]
          rfl
        · exact hSK6.keep fun p hp => map_cell HM6.out hm7 hg7 p (by omega)
        · exact (hg7.block _ (by have := hbi.size; omega) (by intro e; injection e with e; omega)).trans ((hB6.block _ (by omega)).trans HSh.out)
        · have := hg7.size; omega
        · exact below_grown (hbi.trans (hB6.mono (by omega))) hg7 (by have := hbi.size; have := hB6.size; omega) (fun g e => by injection e with e; omega)
      case measure => simp [intOf]; omega
    · have hii : ¬ (i : Int) < (np : Int) := by omega
      go_wp2_with fail
      refine bodyPost_ret (v := .tuple #[.slice A m c, .map (some Bm), .bool true]) (by simp [results, Tryz.results9, go_sem]) rfl ?_
      obtain ⟨q1, q2, q3⟩ := HQ.out
      refine ⟨_, Bm, B, Q, rfl, q3, ?_, by omega, hBs, hbi⟩
      rw [q2, show i = Ts.length by have h := congrArg List.length HP.out.1; rw [List.length_map, ← HP.out.2] at h; omega, List.take_length]
end Go.Proofs.YtchjknbideoieaaGreatDoor
namespace Go.Proofs.YtchjknbideoieaaGreatDoor
open Go.RowKit
theorem few_le : ∀ (l : List Ent) (i left : Nat), fewF i l left = true → l.length ≤ 200 - i ∧ textE l ≤ left
  | [], _, _, _ => by simp [textE]
  | o :: l, i, left, h => by
    rw [fewF] at h
    simp only [Bool.and_eq_true, decide_eq_true_eq] at h
    obtain ⟨⟨⟨h1, h2⟩, h3⟩, h4⟩ := h
    obtain ⟨h5, h6⟩ := few_le l (i + 1) _ h4
    rw [textE_cons, List.length_cons]
    omega
structure LvQ (fr ev : Nat) (blk : Int) (most : Int) (l : List Ent) (Q : List Tb) : Prop where
  t : Q.map (·.t) = splitL most l
  i : ∀ j (h : j < Q.length), IsTab (fr + j) ev blk Q[j].t Q[j].m Q[j].b
  R : rightL l = true
  len : l.length ≤ 1000
  tx : textE l ≤ 10000
section
variable {fr ev : Nat} {blk most : Int} {l : List Ent} {Q : List Tb}
theorem LvQ.part (h : LvQ fr ev blk most l Q) {j : Nat} (hj : j < Q.length) : rightL Q[j].t = true ∧ 0 < Q[j].t.length ∧ Q[j].t.length ≤ 1000 ∧ textE Q[j].t ≤ 10000 :=
  part_ok h.R h.len h.tx (by rw [← h.t]; exact List.mem_map.2 ⟨Q[j], List.getElem_mem hj, rfl⟩)
theorem LvQ.num (h : LvQ fr ev blk most l Q) {j : Nat} (hj : j < Q.length) : Q[j].m.1.n = fr + j := by
  obtain ⟨_, _, mt, _⟩ := h.i j hj
  exact mt.n
theorem getD_in {T : List Ent} {k : Nat} (hk : k < T.length) : T.getD k ent0 = T[k] := by rw [List.getD_eq_getElem?_getD, List.getElem?_eq_getElem hk]; rfl
theorem LvQ.fits (h : LvQ fr ev blk most l Q) {j : Nat} (hj : j < Q.length) : FitM (fr + Q.length) Q[j].m.1 := by
  obtain ⟨p1, p2, p3, p4⟩ := h.part hj
  obtain ⟨filt, hf, mt, hc, hmn, hmx, hb⟩ := h.i j hj
  obtain ⟨hR, hA⟩ := rightL_all p1
  have e1 := hA _ (List.getElem_mem (show 0 < Q[j].t.length from p2))
  have e2 := hA _ (List.getElem_mem (show Q[j].t.length - 1 < Q[j].t.length by omega))
  obtain ⟨L, pb, hfl, hL0, hLm, _⟩ := hf
  have hfl2 : filt.length ≤ 1048600 := by rw [hfl, List.length_append]; simp only [List.length_cons, List.length_nil]; omega
  have hsz := tab_le (keyOfUse oneR (layH (hdT (fr + j)))) (layH (hdT (fr + j))) (layH_len _) ev blk Q[j].t filt p1 p3 p4 hfl2
  have hpos : 1 ≤ (tabB (keyOfUse oneR (layH (hdT (fr + j)))) (layH (hdT (fr + j))) ev blk Q[j].t filt).length := by
    unfold tabB tableB
    simp only [List.length_append, layH_len]
    omega
  refine ⟨mt.lv, mt.g, by rw [mt.n]; show fr + j < _; omega, ?_, ?_, ?_, by rw [hc]; omega, by rw [hc]; omega, by rw [mt.size]; exact hpos, by rw [mt.size]; omega⟩
  · rw [hmn, hmx]
    exact rises_user hR 0 (Q[j].t.length - 1) (by omega) (by omega)
  · rw [hmn, getD_in p2]; exact (rightE_le e1).1
  · rw [hmx, getD_in (show Q[j].t.length - 1 < Q[j].t.length by omega)]; exact (rightE_le e2).1
theorem LvQ.msok (h : LvQ fr ev blk most l Q) : MsOk (fr + Q.length) (Q.map (·.m)) := by
  have hlen : Q.length ≤ 1000 := by
    have h1 := congrArg List.length (splitL_flat most l)
    have h2 := flat_len_ge (splitL most l) (fun T hT => (part_ok h.R h.len h.tx hT).2.1)
    have h3 := congrArg List.length h.t
    rw [List.length_map] at h3
    have := h.len
    omega
  have hun := (splitL_under most l (rightL_all h.R).1).1
  rw [← h.t, List.pairwise_map] at hun
  refine ⟨by rw [List.length_map]; exact hlen, fun x hx => ?_, ?_, fun i hi => ?_⟩
  · obtain ⟨q, hq, rfl⟩ := List.mem_map.1 hx
    obtain ⟨j, hj, rfl⟩ := List.getElem_of_mem hq
    exact h.fits hj
  · rw [List.pairwise_map, List.pairwise_iff_getElem]
    intro i j hi hj hij
    rw [h.num hi, h.num hj]
    omega
  · rw [List.length_map] at hi
    simp only [List.getElem_map]
    have hi0 : i < Q.length := by omega
    obtain ⟨_, _, _, _, _, hmx, _⟩ := h.i i hi0
    obtain ⟨_, _, _, _, hmn, _, _⟩ := h.i (i + 1) hi
    rw [hmx, hmn]
    have p1 := (h.part hi0).2.1
    have p2 := (h.part hi).2.1
    rw [getD_in (show Q[i].t.length - 1 < Q[i].t.length by omega), getD_in p2]
    exact List.pairwise_iff_getElem.1 hun i (i + 1) hi0 hi (by omega) _ (List.getElem_mem _) _ (List.getElem_mem _)
theorem LvQ.has (h : LvQ fr ev blk most l Q) (u : ByteArray) {q : Tb} (hq : q ∈ Q) : hasM u q.m = hasU u q.t := by
  obtain ⟨j, hj, rfl⟩ := List.getElem_of_mem hq
  obtain ⟨_, _, _, _, hmn, hmx, _⟩ := h.i j hj
  unfold hasM hasU
  rw [hmn, hmx]
theorem LvQ.look (h : LvQ fr ev blk most l Q) (q : Ent) : ((Q.map (·.m)).filter (hasM q.user) = [] ∧ seekE q l = none) ∨ ∃ j, ∃ hj : j < Q.length, (Q.map (·.m)).filter (hasM q.user) = [Q[j].m] ∧ seekE q l = seekE q Q[j].t := by
  have h1 : (Q.map (·.m)).filter (hasM q.user) = (Q.filter (fun x => hasU q.user x.t)).map (·.m) := by
    rw [List.filter_map]
    congr 1
    apply List.filter_congr
    intro x hx
    exact h.has q.user hx
  have h2 : (splitL most l).filter (hasU q.user) = (Q.filter (fun x => hasU q.user x.t)).map (·.t) := by
    rw [← h.t, List.filter_map]
    rfl
  have hR := (rightL_all h.R).1
  obtain ⟨u1, u2⟩ := splitL_under most l hR
  have hone := has_once (u := q.user) u1 u2
  have hseek := seek_tables q (splitL most l) (by rw [splitL_flat]; exact hR) hone
  rw [splitL_flat] at hseek
  rw [h2] at hone hseek
  rw [h1]
  cases hF : Q.filter (fun x => hasU q.user x.t) with
  | nil =>
    rw [hF] at hseek
    exact .inl ⟨rfl, hseek⟩
  | cons a r =>
    rw [hF] at hone hseek
    rw [List.length_map, List.length_cons] at hone
    have hr : r = [] := List.length_eq_zero_iff.1 (by omega)
    subst hr
    have ha : a ∈ Q := by
      have : a ∈ Q.filter (fun x => hasU q.user x.t) := by rw [hF]; simp
      exact (List.mem_filter.1 this).1
    obtain ⟨j, hj, rfl⟩ := List.getElem_of_mem ha
    exact .inr ⟨j, hj, rfl, hseek⟩
end
end Go.Proofs.YtchjknbideoieaaGreatDoor
namespace Go.Proofs.YtchjknbideoieaaGreatDoor
open Go.RowKit Go.Great Go.Proofs
set_option maxRecDepth 100000 in
theorem kGetLv_any (q : Tb) (n ev : Nat) (blk : Int) (user : ByteArray) (hus : user.size ≤ 140737488355328) (seq : UInt64) (v : Value) (w : World) (hn : n < 18446744073709551616) (hi : IsTab n ev blk q.t q.m q.b) (hev : 1 ≤ ev ∧ ev ≤ 1024) (hL : rightL q.t = true) (hne : 0 < q.t.length) (hlen : q.t.length ≤ 1000) (htx : textE q.t ≤ 10000)
    (hv : SB w w.heap.size v q.b) (hk : KTab w 0) (h1 : 0 < w.heap.size) :
    Calls Tryz.prog 14 #[.agg oneA, .agg (mdC q.m).toArray, v, .string user, .int .u64 (seq.toNat : Int)] w (GetPost w (seekE (keyQ user seq) q.t)) := by
  obtain ⟨filt, hf, mt, _, _, _, hb⟩ := hi
  rw [hb] at hv
  rw [← only_seek (rightL_all hL).1]
  exact kGet_any oneR rfl (hdT n) ⟨by show 2 < 256; omega, by show 1 < 256; omega, by show 0 < 18446744073709551616; omega, by show 0 < 18446744073709551616; omega, hn⟩ rfl rfl q.m.1 _ _ rfl rfl ev blk q.t filt mt hev hf hL hne hlen htx user hus seq oneA _ rfl rfl v w hv hk h1
set_option maxRecDepth 100000 in
theorem exec_bldOne {o : Oper} {a : Act} (w : World) (ho : o.op = .build 53 #[(0, .const (.int .u8 1))]) : (execOp a.eval o).run Tryz.prog w = .ok (.value (.agg oneA)) w := by
  unfold execOp
  simp only [ho]
  kernel_rfl
def e0T : Ent := ⟨⟨#[97]⟩, 2, 1, ⟨#[120]⟩⟩
theorem e0_right : rightL [e0T] = true := by decide
theorem e0_seek : seekE (keyQ ⟨#[97]⟩ 5) [e0T] = some e0T := by
  unfold seekE
  rw [List.find?_cons]
  have : (decide (e0T.user = (keyQ ⟨#[97]⟩ 5).user) && decide (e0T.seq.toNat ≤ (keyQ ⟨#[97]⟩ 5).seq.toNat)) = true := by decide
  rw [this]
set_option maxRecDepth 100000 in
set_option maxHeartbeats 4000000 in
theorem kStandsT (w : World) (hk : KTab w 0) (h1 : 0 < w.heap.size) : Calls Tryz.prog 5 #[] w fun e w' => e = .returned (.bool true) ∧ Below w.heap.size w w' := by
  have HSh : Hid (∀ W, Calls Tryz.prog 10 #[.int .u8 9] W fun e w' => e = .returned (.agg (rowSh 10 3 10)) ∧ Below W.heap.size W w') := Lib.hid (fun W => kShape_any 9 W)
  have HLev : Hid (∀ W v, Below w.heap.size w W → SE W W.heap.size v [e0T] → Calls Tryz.prog 9 #[.int .i64 1, v, .int .i64 10, .int .u64 3, .agg (rowSh 10 3 10)] W (LevelPost W 3 3 10 [[e0T]])) := Lib.hid (fun W v hW hv =>
    kLevel_any [e0T] v 10 3 10 3 10 W hv e0_right (by decide) (by decide) ⟨by omega, by omega⟩ (by omega) ⟨by omega, by omega⟩ ⟨by omega, by omega⟩ ⟨by omega, by omega⟩ (hk.on hW h1) (by have := hW.size; omega))
  go_enter Tryz.func5, Tryz.ntmps5
  go_upto_region 2 with (first | (go_at_call 10; refine (HSh.out _).mono ?_; rintro _ w1 ⟨rfl, hb1⟩))
  have bA := balloc (bself w) (.cells #[.string ⟨#[97]⟩, .int .u64 2, .int .u8 1, .string ⟨#[120]⟩] 29)
  have bA1 := bstep bA hb1
  have hse : SE (w.alloc (.cells #[.string ⟨#[97]⟩, .int .u64 2, .int .u8 1, .string ⟨#[120]⟩] 29)) (w.alloc (.cells #[.string ⟨#[97]⟩, .int .u64 2, .int .u8 1, .string ⟨#[120]⟩] 29)).heap.size (.slice (some ⟨w.heap.size, 0, none⟩) 1 1) [e0T] := SE.newAt (W := w) e0T rfl (by simp)
  have hse1 := hse.on hb1
  have HL0 := Lib.hid (HLev.out w1 _ bA1 hse1)
  clear hse hse1 bA hb1 HSh HLev
  refine HL0.out.mono ?_
  rintro _ w2 ⟨vm, Bm, B, Q, rfl, hL, hQt, hBm, hBB, hb2⟩
  obtain ⟨q, rfl⟩ : ∃ q, Q = [q] := List.length_eq_one_iff.1 (by have := congrArg List.length hQt; simpa using this)
  have hqt : q.t = [e0T] := by simpa using hQt
  obtain ⟨g, k, e⟩ := hL.o.form0 (by simp)
  have e2 : vm = .slice (some ⟨g, 0, none⟩) 1 k := by rw [e]; rfl
  subst e2
  have hit := hL.i 0 (by simp)
  simp only [List.getElem_cons_zero, Nat.add_zero] at hit
  have hqn : q.m.1.n = 3 := by obtain ⟨_, _, mt, _⟩ := hit; exact mt.n
  have hob := hL.b q (by simp)
  have hM := hL.m
  simp only [List.map_cons, List.map_nil] at hM
  rw [hqn] at hM
  have hrg : w2.rangeAt g 0 (mdC q.m) := by
    obtain ⟨b', o', k', e', _, hr⟩ := hL.o.sg.at_ mdC_length (by simp)
    injection e' with e1 _ _
    injection e1 with e1
    injection e1 with e1 e2
    subst e1; subst e2
    have := hr 0 (by simp)
    simpa using this
  have hgl := (hL.o.lt g rfl).2
  obtain ⟨qv, hqv⟩ : ∃ qv, qv = q.v := ⟨_, rfl⟩
  rw [← hqv] at hob hM
  obtain ⟨A4, k4, rfl, _, _⟩ := id hob.sb
  obtain ⟨bl, hbl⟩ : ∃ bl, bl = q.b.length := ⟨_, rfl⟩
  rw [← hbl] at hob hM
  obtain ⟨xc, hxc⟩ : ∃ xc, xc = (mdC q.m).toArray := ⟨_, rfl⟩
  have b2 := bstep bA1 hb2
  have KS : Hid (∀ W, Below w2.heap.size w2 W → W.rangeAt g 0 (mdC q.m) ∧ MapU W Bm [(3, .slice A4 bl k4)]) := Lib.hid (fun W hW => ⟨SGr hW hgl hrg, hM.on hW⟩)
  have HGet : Hid (∀ W, Below w2.heap.size w2 W → Calls Tryz.prog 14 #[.agg oneA, .agg xc, .slice A4 bl k4, .string ⟨#[97]⟩, .int .u64 5] W fun e w' => e = .returned (.tuple #[.agg #[.string ⟨#[97]⟩, .int .u64 2, .int .u8 1, .string ⟨#[120]⟩], .bool true, .int .i64 0]) ∧ Below W.heap.size W w') := Lib.hid (fun W hW => by
    have hbw := bstep b2 hW
    have h := kGetLv_any q 3 3 10 ⟨#[97]⟩ (by decide) 5 (.slice A4 bl k4) W (by omega) hit ⟨by omega, by omega⟩ (by rw [hqt]; exact e0_right) (by rw [hqt]; decide) (by rw [hqt]; decide) (by rw [hqt]; decide) ((hob.sb).on hW) (hk.on hbw h1) (by have := hbw.size; omega)
    rw [hqt, e0_seek, ← hxc] at h
    exact h)
  have HX := Lib.hid (And.intro hxc (And.intro b2 hgl))
  clear HL0 hL hQt hqt e hit hqn hob hM hrg hgl hqv hbl hxc b2 hb2 bA1
  go_upto_region 4 with fail
  have b2d := bdrew (bself w2)
  refine wp_region_noPanic ?_
  refine wp_region_held_drew (S := fun W => True ∧ W.rangeAt g 0 (mdC q.m) ∧ MapU W Bm [(3, .slice A4 bl k4)]) (by kernel_rfl) ⟨trivial, KS.out _ b2d⟩ (fun hHeld => ?_)
  refine reg_take 0 (v := .agg oneA) (by rfl) (by kernel_rfl) (by kernel_rfl) (by kernel_rfl) (fun _ _ _ h => h) (by rfl) ?_ (by assumption) ?_
  · (intro wq hSq; exact exec_bldOne _ rfl)
  try simp only [Act.put, q1, q2, q3]
  refine rtk 1 ?_ ?_ ?_
  rotate_left
  · (intro wq hSq; (try dsimp only at hSq); go_split_ands; go_simp; (try with_reducible rfl))
  try simp only [Act.put, q1, q2, q3]
  refine rtk 2 ?_ ?_ ?_
  rotate_left
  · (intro wq hSq; (try dsimp only at hSq); go_split_ands; go_simp; (try with_reducible rfl))
  try simp only [Act.put, q1, q2, q3]
  refine reg_take 3 (v := .agg (mdC q.m).toArray) (by rfl) (by kernel_rfl) (by kernel_rfl) (by kernel_rfl) (fun _ _ _ h => h) (by rfl) ?_ (by assumption) ?_
  · (intro wq hSq; exact exec_loadG 55 Tryz.underlying55 rfl infoMd (.tmp 25) rfl g 0 rfl (mdC q.m) (mdC_length q.m) hSq.2.1)
  try simp only [Act.put, q1, q2, q3]
  rw [← HX.out.1]
  refine rtk 4 ?_ ?_ ?_
  rotate_left
  · (intro wq hSq; (try dsimp only at hSq); go_split_ands; go_simp; (try with_reducible rfl))
  try simp only [Act.put, q1, q2, q3]
  refine reg_take 5 (v := .slice A4 bl k4) (by rfl) (by kernel_rfl) (by kernel_rfl) (by kernel_rfl) (fun _ _ _ h => h) (by rfl) ?_ (by assumption) ?_
  · (intro wq hSq; exact exec_lookU 31 (.tmp 27) (.const (.int .u64 3)) rfl Bm 3 rfl rfl (hSq.2.2.look Tryz.underlying31 Tryz.underlying23 3 _ (fun p hp _ => by rw [List.mem_singleton.1 hp]) ⟨_, List.mem_singleton.2 rfl, rfl⟩))
  try simp only [Act.put, q1, q2, q3]
  refine reg_pair 6 11 (by rfl) (by rfl) (by kernel_rfl) (by rfl) (by rfl) (fun K hK => ?_) (fun K hK => ?_)
  · skip
    (go_simp; go_at_call 14; refine (HGet.out _ b2d).mono ?_; rintro _ w5 ⟨rfl, hb5⟩; have b5 := bstep b2d hb5; go_wp2_with fail)
    refine hK.out _ _ ?_ (fun hHeld => ?_)
    · exact ⟨trivial, KS.out _ b5⟩
    clear hK K
    try simp only [Act.put, q1, q2, q3]
    refine rtk 7 ?_ ?_ ?_
    rotate_left
    · (intro wq hSq; (try dsimp only at hSq); go_split_ands; go_simp; (try with_reducible rfl))
    try simp only [Act.put, q1, q2, q3]
    refine rtk 8 ?_ ?_ ?_
    rotate_left
    · (intro wq hSq; (try dsimp only at hSq); go_split_ands; go_simp; (try with_reducible rfl))
    try simp only [Act.put, q1, q2, q3]
    refine rtk 9 ?_ ?_ ?_
    rotate_left
    · (intro wq hSq; (try dsimp only at hSq); go_split_ands; go_simp; (try with_reducible rfl))
    try simp only [Act.put, q1, q2, q3]
    refine rtk 10 ?_ ?_ ?_
    rotate_left
    · (intro wq hSq; (try dsimp only at hSq); go_split_ands; go_simp; (try with_reducible rfl))
    try simp only [Act.put, q1, q2, q3]
    refine reg_one 11 (by rfl) (by kernel_rfl) (by rfl) (fun K hK => ?_)
    (go_simp)
    refine hK.out _ _ ?_ (fun hHeld => ?_)
    · exact ⟨trivial, KS.out _ (balloc b5 _)⟩
    clear hK K
    try simp only [Act.put, q1, q2, q3]
    refine reg_one 12 (by rfl) (by kernel_rfl) (by rfl) (fun K hK => ?_)
    (go_simp)
    refine hK.out _ _ ?_ (fun hHeld => ?_)
    · exact ⟨trivial, KS.out _ (balloc b5 _)⟩
    clear hK K
    try simp only [Act.put, q1, q2, q3]
    refine rtk 13 ?_ ?_ ?_
    rotate_left
    · (intro wq hSq; (try dsimp only at hSq); go_split_ands; go_simp; (try with_reducible rfl))
    try simp only [Act.put, q1, q2, q3]
    refine rtk 14 ?_ ?_ ?_
    rotate_left
    · (intro wq hSq; (try dsimp only at hSq); go_split_ands; go_simp; (try with_reducible rfl))
    try simp only [Act.put, q1, q2, q3]
    refine wpAnyH_done (by kernel_rfl) (noPanic_mk ?_) _
    clear hHeld
    have hE := heap_alloc_new w5 (.cells #[.string ⟨#[97]⟩, .int .u64 2, .int .u8 1, .string ⟨#[120]⟩] 29)
    have bE := balloc b5 (.cells #[.string ⟨#[97]⟩, .int .u64 2, .int .u8 1, .string ⟨#[120]⟩] 29)
    generalize World.alloc w5 _ = w6 at hE bE ⊢
    have c3 : w6.cell? ⟨w5.heap.size, 3, none⟩ = some (.string ⟨#[120]⟩) := cell_of_row _ _ 3 _ _ _ hE
    go_wp2_with fail
    go_ret
    exact ⟨rfl, bstep HX.out.2.1 bE⟩
  · skip
    (go_simp)
    refine hK.out _ _ ?_ (fun hHeld => ?_)
    · exact ⟨trivial, KS.out _ (balloc b2d _)⟩
    clear hK K
    try simp only [Act.put, q1, q2, q3]
    have hE : (w2.alloc (.cells #[.string ⟨#[]⟩, .int .u64 0, .int .u8 0, .string ⟨#[]⟩] 29)).drew.heap[w2.heap.size]? = some (.cells #[.string ⟨#[]⟩, .int .u64 0, .int .u8 0, .string ⟨#[]⟩] 29 (0, 0)) := heap_alloc_new w2 (.cells #[.string ⟨#[]⟩, .int .u64 0, .int .u8 0, .string ⟨#[]⟩] 29)
    have bE := bdrew (balloc (bself w2) (.cells #[.string ⟨#[]⟩, .int .u64 0, .int .u8 0, .string ⟨#[]⟩] 29))
    generalize World.drew (World.alloc w2 _) = w4 at hE bE ⊢
    refine reg_one 6 (by rfl) (by kernel_rfl) (by rfl) (fun K hK => ?_)
    (go_simp; go_at_call 14; refine (HGet.out _ bE).mono ?_; rintro _ w5 ⟨rfl, hb5⟩; have b5 := bstep bE hb5; go_wp2_with fail)
    refine hK.out _ _ ?_ (fun hHeld => ?_)
    · exact ⟨trivial, KS.out _ b5⟩
    clear hK K
    try simp only [Act.put, q1, q2, q3]
    have hE5 := (hb5.block _ (Array.getElem?_eq_some_iff.1 hE).1).trans hE
    have bR : Below w2.heap.size w2 (World.setRow w5 w2.heap.size #[.string ⟨#[97]⟩, .int .u64 2, .int .u8 1, .string ⟨#[120]⟩]) := below_setRow b5 (Nat.le_refl _) _
    refine rtk 7 ?_ ?_ ?_
    rotate_left
    · (intro wq hSq; (try dsimp only at hSq); go_split_ands; go_simp; (try with_reducible rfl))
    try simp only [Act.put, q1, q2, q3]
    refine rtk 8 ?_ ?_ ?_
    rotate_left
    · (intro wq hSq; (try dsimp only at hSq); go_split_ands; go_simp; (try with_reducible rfl))
    try simp only [Act.put, q1, q2, q3]
    refine rtk 9 ?_ ?_ ?_
    rotate_left
    · (intro wq hSq; (try dsimp only at hSq); go_split_ands; go_simp; (try with_reducible rfl))
    try simp only [Act.put, q1, q2, q3]
    refine rtk 10 ?_ ?_ ?_
    rotate_left
    · (intro wq hSq; (try dsimp only at hSq); go_split_ands; go_simp; (try with_reducible rfl))
    try simp only [Act.put, q1, q2, q3]
    refine reg_one 12 (by rfl) (by kernel_rfl) (by rfl) (fun K hK => ?_)
    (refine wp_storeR 29 (.tmp 4) (.tmp 30) rfl _ rfl _ #[.string ⟨#[97]⟩, .int .u64 2, .int .u8 1, .string ⟨#[120]⟩] rfl hE5 (by kernel_rfl) (by rfl) (by simp [Value.oneCell']) ?_)
    refine hK.out _ _ ?_ (fun hHeld => ?_)
    · exact ⟨trivial, KS.out _ bR⟩
    clear hK K
    try simp only [Act.put]
    refine rtk 13 ?_ ?_ ?_
    rotate_left
    · (intro wq hSq; (try dsimp only at hSq); go_split_ands; go_simp; (try with_reducible rfl))
    try simp only [Act.put, q1, q2, q3]
    refine rtk 14 ?_ ?_ ?_
    rotate_left
    · (intro wq hSq; (try dsimp only at hSq); go_split_ands; go_simp; (try with_reducible rfl))
    try simp only [Act.put, q1, q2, q3]
    refine wpAnyH_done (by kernel_rfl) (noPanic_mk ?_) _
    clear hHeld
    have hE6 := setRow_heap _ _ _ #[.string ⟨#[97]⟩, .int .u64 2, .int .u8 1, .string ⟨#[120]⟩] _ _ hE5
    generalize World.setRow _ _ _ = w6 at hE6 bR ⊢
    have c3 : w6.cell? ⟨w2.heap.size, 3, none⟩ = some (.string ⟨#[120]⟩) := cell_of_row _ _ 3 _ _ _ hE6
    go_wp2_with fail
    go_ret
    exact ⟨rfl, bstep HX.out.2.1 bR⟩
end Go.Proofs.YtchjknbideoieaaGreatDoor
namespace Go.Proofs.YtchjknbideoieaaGreatDoor
open Go.RowKit Go.Great Go.Proofs
theorem only_some {q : Ent} {o : Option Ent} : (o.isSome && ((o.getD ent0).user.toList == q.user.toList)) = (onlyE q o).isSome := by
  unfold onlyE
  cases o with
  | none => rfl
  | some e =>
    simp only [Option.isSome_some, Option.getD_some, Bool.true_and, Option.bind_some]
    by_cases h : e.user = q.user
    · rw [if_pos h, h]; simp
    · rw [if_neg h]
      have : (e.user.toList == q.user.toList) = false := by rw [beq_eq_false_iff_ne]; intro e; exact h (ext_toList e)
      rw [this]; rfl
set_option maxRecDepth 100000 in
set_option maxHeartbeats 8000000 in
theorem topLevels_any (v : Value) (l : List Ent) (n : UInt8) (user : ByteArray) (seq : UInt64) (w : World) (hv : SE w w.heap.size v l) (hl : l.length ≤ 140737488351232) (hz : ∀ e ∈ l, e.user.size ≤ 9223372036854775807 ∧ e.value.size ≤ 9223372036854775807) (hus : user.size ≤ 140737488355328) (hk : KTab w 0) (h1 : 0 < w.heap.size) :
    Calls Tryz.prog 3 #[v, .int .u8 (n.toNat : Int), .string user, .int .u64 (seq.toNat : Int)] w fun e w' => e = .returned (.bool true) ∧ Below w.heap.size w w' := by
  have HStands := Lib.hid (kStandsT w hk h1)
  have HFew : Hid (∀ W, Below w.heap.size w W → Calls Tryz.prog 6 #[v] W fun e w' => e = .returned (.bool (fewB l)) ∧ Below W.heap.size W w') := Lib.hid (fun W hW => few_any v l W (hv.on hW) hz)
  have HRise : Hid (∀ W, Below w.heap.size w W → Calls Tryz.prog 7 #[v] W fun e w' => e = .returned (.bool (risesE l)) ∧ Below W.heap.size W w') := Lib.hid (fun W hW => iRises_any v l W (hv.on hW) hl)
  obtain ⟨A, c, rfl, hc, hm, hr⟩ := id hv
  have hm' : c ≤ 9223372036854775807 := by unfold maxLen at hm; omega
  have HV := Lib.hid (And.intro hv hr)
  have HZ := Lib.hid hz
  have HK := Lib.hid hk
  obtain ⟨len, hlen⟩ : ∃ len, len = l.length := ⟨_, rfl⟩
  rw [← hlen] at HV HFew HRise hc ⊢
  have HLen := Lib.hid hlen
  clear hv hr hz hk hm hl hlen
  go_enter Tryz.func3, Tryz.ntmps3
  cases hf : fewB l with
  | false =>
    rw [hf] at HFew
    go_upto_region 2 with (go_at_call 5; refine HStands.out.mono ?_; rintro _ w1 ⟨rfl, hb1⟩)
    go_wp2_with (go_at_call 6; refine (HFew.out _ hb1).mono ?_; rintro _ w2 ⟨rfl, hb2⟩)
    go_ret
    exact ⟨rfl, bstep hb1 hb2⟩
  | true =>
    rw [hf] at HFew
    cases hri : risesE l with
    | false =>
      rw [hri] at HRise
      go_upto_region 2 with (go_at_call 5; refine HStands.out.mono ?_; rintro _ w1 ⟨rfl, hb1⟩)
      go_wp2_with (first | (go_at_call 6; refine (HFew.out _ hb1).mono ?_; rintro _ w2 ⟨rfl, hb2⟩; have b2 := bstep hb1 hb2) | (go_at_call 7; refine (HRise.out _ b2).mono ?_; rintro _ w3 ⟨rfl, hb3⟩))
      go_ret
      exact ⟨rfl, bstep b2 hb3⟩
    | true =>
      rw [hri] at HRise
      go_upto_region 2 with (go_at_call 5; refine HStands.out.mono ?_; rintro _ w1 ⟨rfl, hb1⟩)
      go_wp2_with (first | (go_at_call 6; refine (HFew.out _ hb1).mono ?_; rintro _ w2 ⟨rfl, hb2⟩; have b2 := bstep hb1 hb2) | (go_at_call 7; refine (HRise.out _ b2).mono ?_; rintro _ w3 ⟨rfl, hb3⟩; have b3 := bstep b2 hb3))
      have HFR := Lib.hid (And.intro hf hri)
      clear hf hri HStands HFew HRise b2 hb1 hb2 hb3
      go_loopw [35] (fun iv wi => ∃ i : Nat, iv = .int .i64 (i : Int) ∧ i ≤ len ∧ Hid (∀ j (h : j < l.length), j < i → rightE l[j] = true) ∧ Below w.heap.size w wi) (fun iv _ => len - (intOf iv).toNat)
      case atStart => exact ⟨0, rfl, by omega, Lib.hid (fun j h h0 => by omega), b3⟩
      case round =>
        obtain ⟨i, rfl, hi, hall, hbi⟩ := hrel
        by_cases hin : i < len
        · have hiL : i < l.length := by rw [← HLen.out]; exact hin
          obtain ⟨b, o, rfl, hb, c0, c1, c2, c3⟩ := (HV.out.2.below hbi).ent HLen.out hiL
          obtain ⟨x, hx⟩ : ∃ x, x = l[i] := ⟨_, rfl⟩
          have hxz := HZ.out l[i] (List.getElem_mem hiL)
          rw [← hx] at c0 c1 c2 c3 hxz
          have HX := Lib.hid hx
          have hii : (i : Int) < (len : Int) := by omega
          have HRt := Lib.hid (fun W => iRight_any x W hxz.1 hxz.2)
          clear hx hxz
          cases hR : rightE x with
          | false =>
            rw [hR] at HRt
            go_wp2_with (go_at_call 8; refine (HRt.out _).mono ?_; rintro _ w4 ⟨rfl, hb4⟩)
            go_ret
            exact ⟨rfl, bstep hbi hb4⟩
          | true =>
            rw [hR] at HRt
            have HRR := Lib.hid hR
            clear hR
            go_wp2_with (go_at_call 8; refine (HRt.out _).mono ?_; rintro _ w4 ⟨rfl, hb4⟩)
            go_roundw
            case rel =>
              refine ⟨i + 1, by go_num, by omega, Lib.hid (fun j h hj => ?_), bstep hbi hb4⟩
              rcases Nat.lt_or_ge j i with h1 | h1
              · exact hall.out j h h1
              · obtain rfl : i = j := by omega
                rw [← HX.out]; exact HRR.out
            case measure => simp [intOf]; omega
        · have hii : ¬ (i : Int) < (len : Int) := by omega
          have hR : rightL l = true := by
            unfold rightL
            rw [Bool.and_eq_true, List.all_eq_true]
            refine ⟨HFR.out.2, fun x hx => ?_⟩
            obtain ⟨j, hj, rfl⟩ := List.getElem_of_mem hx
            exact hall.out j hj (by have := HLen.out; omega)
          obtain ⟨f1, f2⟩ := few_le l 0 3000 HFR.out.1
          have hn := u8_lt n
          obtain ⟨blk, hblk⟩ : ∃ blk, blk = n.toNat % 60 + 1 := ⟨_, rfl⟩
          obtain ⟨ev, hev⟩ : ∃ ev, ev = n.toNat % 7 + 1 := ⟨_, rfl⟩
          obtain ⟨bits, hbits⟩ : ∃ bits, bits = n.toNat % 20 + 1 := ⟨_, rfl⟩
          have hev1 : 1 ≤ ev ∧ ev ≤ 1024 := by omega
          have HSh : Hid (∀ W, Calls Tryz.prog 10 #[.int .u8 (n.toNat : Int)] W fun e w' => e = .returned (.agg (rowSh blk ev bits)) ∧ Below W.heap.size W w') := Lib.hid (fun W => by rw [hblk, hev, hbits]; exact kShape_any n W)
          have HLev : Hid (∀ W, Below w.heap.size w W → Calls Tryz.prog 9 #[.int .i64 1, .slice A len c, .int .i64 (n.toNat : Int), .int .u64 5, .agg (rowSh blk ev bits)] W (LevelPost W 5 ev (blk : Int) (splitL (n.toNat : Int) l))) := Lib.hid (fun W hW =>
            kLevel_any l _ (n.toNat : Int) 5 blk ev bits W (HV.out.1.on hW) hR (by omega) (by omega) ⟨by omega, by omega⟩ (by omega) ⟨by omega, by omega⟩ hev1 ⟨by omega, by omega⟩ (HK.out.on hW h1) (by have := hW.size; omega))
          have gnw : IntKind.i64.wrap (n.toNat : Int) = (n.toNat : Int) := by rw [IntKind.wrap_i64]; omega
          have HFac := Lib.hid (And.intro hR (And.intro f1 f2))
          clear hR f1 f2 hblk hev hbits hall
          go_upto_region 11 with (go_at_call 10; refine (HSh.out _).mono ?_; rintro _ w4 ⟨rfl, hb4⟩; have b4 := bstep hbi hb4)
          refine (HLev.out _ b4).mono ?_
          rintro _ w5 ⟨vm, Bm, B, Q, rfl, hL, hQt, hBm, hBB, hb5⟩
          have hLQ : LvQ 5 ev (blk : Int) (n.toNat : Int) l Q := ⟨hQt, hL.i, HFac.out.1, by have := HFac.out.2.1; omega, by have := HFac.out.2.2; omega⟩
          obtain ⟨Am, km, rfl, hkm, hkm2⟩ := hL.o.sg.form
          obtain ⟨qn, hqn⟩ : ∃ qn, qn = Q.length := ⟨_, rfl⟩
          rw [List.length_map, ← hqn] at hL hkm ⊢
          have HLv := Lib.hid (And.intro hL (And.intro hLQ hqn))
          have b5 := bstep b4 hb5
          clear hL hLQ hQt hb5 b4 hb4 HSh HLev hqn
          have hmok := HLv.out.2.1.msok
          have hqn1 : qn ≤ 1000 := by have := hmok.len; rw [List.length_map] at this; rw [HLv.out.2.2]; exact this
          obtain ⟨N, hN⟩ : ∃ N, N = 5 + qn := ⟨_, rfl⟩
          have gqw : IntKind.u64.wrap (qn : Int) = (qn : Int) := by rw [IntKind.wrap_u64]; omega
          have gN : (5 : Int) + (qn : Int) = (N : Int) := by omega
          have gNw : IntKind.u64.wrap (N : Int) = (N : Int) := by rw [IntKind.wrap_u64]; omega
          obtain ⟨c0, hc0⟩ : ∃ c0, c0 = (stC (.slice none 0 0) 0).toArray := ⟨_, rfl⟩
          have HC0 : Hid (c0.size = 14) := Lib.hid (by rw [hc0]; rfl)
          have HApply : Hid (∀ W, Below w5.heap.size w5 W → Calls Tryz.prog 11 #[.agg c0, .agg #[.int .u64 0, .int .u64 (N : Int), .int .u64 0, .int .u64 0, .int .u64 0, .int .u64 0, .int .u64 0, .int .u64 0, .int .u64 0, .slice Am qn km, .slice none 0 0]] W fun e w' => ∃ v', e = .returned (.tuple #[.agg (stC v' N).toArray, .int .i64 0]) ∧ SG mdC 40 w' w'.heap.size v' (Q.map (·.m)) ∧ Below W.heap.size W w') := Lib.hid (fun W hW => by
            have h := kApply_any (.slice Am qn km) N (Q.map (fun q : Tb => q.m)) W (HLv.out.1.o.sg.on hW) (by rw [hN, HLv.out.2.2]; exact hmok) (by omega) c0 _ hc0 rfl
            exact h)
          have HN := Lib.hid (And.intro hN hmok)
          have b5' := b5
          clear hmok hN
          go_upto_region 14 with fail
          have rS0 := heap_alloc_new w5 (.cells (stC (.slice none 0 0) 0).toArray 40)
          have bS0 := balloc (bself w5) (.cells (stC (.slice none 0 0) 0).toArray 40)
          simp only [stC] at rS0 bS0
          generalize World.alloc w5 _ = w6 at rS0 bS0 ⊢
          have rS1 : w6.heap[w5.heap.size]? = some (.cells c0 40 (0, 0)) := by rw [hc0]; exact rS0
          have HA6 := Lib.hid (HApply.out w6 bS0)
          clear rS0 HApply hc0
          go_upto_region 15 with (first | (refine wpList_load_row rfl 40 (.tmp 14) rfl _ rfl _ c0 (0, 0) _ rS1 Tryz.underlying40 rfl (by rw [HC0.out]; exact infoSt14) ?_) | (go_at_call 11; refine HA6.out.mono ?_; rintro _ w7 ⟨v7, rfl, hs7, hb7⟩; obtain ⟨cs, hcs⟩ : ∃ cs, cs = (stC v7 N).toArray := ⟨_, rfl⟩; rw [← hcs]; have HCSp : Hid (cs.size = 14 ∧ ∀ v ∈ cs.toList, v.oneCell' = true) := Lib.hid (by rw [hcs]; refine ⟨rfl, stC_one ?_ N⟩; obtain ⟨_, _, e, _⟩ := hs7.form; rw [e]; rfl); have HCS := Lib.hid (And.intro hcs hs7); clear hcs hs7) | (refine wl_storeT 40 (n := 14) infoSt14 rfl (.tmp 15) (.tmp 67) rfl _ rfl _ cs rfl (heap_alloc_new _ _) (by rfl) HCSp.out.1 HCSp.out.2 ?_))
          try simp only [Act.put]
          generalize hW8 : World.setRow _ _ _ = w8
          have hX8 : w8.heap[w7.heap.size]? = some (.cells cs 40 (0, 0)) := by rw [← hW8]; exact setRow_heap _ _ _ _ _ _ (heap_alloc_new _ _)
          have b78 : Below w7.heap.size w7 w8 := by rw [← hW8]; exact below_setRow (balloc (bself w7) _) (Nat.le_refl _) _
          have b58 := bstep (bstep bS0 hb7) b78
          have HLk : Hid (Calls Tryz.prog 12 #[.agg cs, .string user] w8 fun e w' => ∃ r, e = .returned r ∧ OG 55 mdC 40 w' w8.heap.size r ((Q.map (fun q : Tb => q.m)).filter (hasM user)) ∧ Below w8.heap.size w8 w') := Lib.hid (kLookup_any v7 N (Q.map (fun q : Tb => q.m)) user w8 (HCS.out.2.on b78) (by have := HN.out.2.len; exact this) cs HCS.out.1)
          obtain ⟨F, hF⟩ : ∃ F, F = (Q.map (fun q : Tb => q.m)).filter (hasM user) := ⟨_, rfl⟩
          rw [← hF] at HLk
          have hlook := HLv.out.2.1.look (keyQ user seq)
          have hFl : F.length ≤ 1 := by
            rcases hlook with ⟨h, _⟩ | ⟨j, hj, h, _⟩
            · rw [hF, show (Q.map (fun q : Tb => q.m)).filter (hasM user) = [] from h]; simp
            · rw [hF, show (Q.map (fun q : Tb => q.m)).filter (hasM user) = [Q[j].m] from h]; simp
          obtain ⟨fn, hfn⟩ : ∃ fn, fn = F.length := ⟨_, rfl⟩
          have hfn1 : ¬ (1 : Int) < (fn : Int) := by omega
          obtain ⟨x, hx⟩ : ∃ x, x = (firstE l (keyQ user seq)).getD ent0 := ⟨_, rfl⟩
          obtain ⟨is, his⟩ : ∃ is, is = (firstE l (keyQ user seq)).isSome := ⟨_, rfl⟩
          have HFst : Hid (∀ W, Below w.heap.size w W → Calls Tryz.prog 13 #[.slice A len c, .string user, .int .u64 (seq.toNat : Int)] W fun e w' => e = .returned (.tuple #[.agg #[.string x.user, .int .u64 (x.seq.toNat : Int), .int .u8 (x.kind.toNat : Int), .string x.value], .bool is]) ∧ Below W.heap.size W w') := Lib.hid (fun W hW => by
            rw [hx, his]; exact rFirst_any _ l user seq W (HV.out.1.on hW))
          have hthere : (is && (x.user.toList == user.toList)) = (seekE (keyQ user seq) l).isSome := by rw [hx, his, only_some (q := keyQ user seq), only_seek (rightL_all HFac.out.1).1]
          have HTh := Lib.hid (And.intro hthere (And.intro hF (And.intro hlook (And.intro hfn (And.intro hx his)))))
          have hcsr := hX8
          clear hW8 hF hlook hfn hx his hthere hFl bS0 hb7 b78 rS1 HA6 HCS hX8 gN gNw gqw gnw
          go_upto_region 20 with (first | (refine wpList_load_row rfl 40 (.tmp 15) rfl _ rfl _ cs (0, 0) _ hcsr Tryz.underlying40 rfl (by rw [HCSp.out.1]; exact infoSt14) ?_) | (go_at_call 12; refine HLk.out.mono ?_; rintro _ w9 ⟨r9, rfl, ho9, hb9⟩; obtain ⟨A9, k9, rfl, _, _⟩ := ho9.sg.form; rw [← HTh.out.2.2.2.1] at ho9 ⊢; have HO9 := Lib.hid ho9; clear ho9))
          have b59 := bstep b58 hb9
          have b9 := bstep b5' b59
          go_upto_region 21 with (go_at_call 13; refine (HFst.out _ b9).mono ?_; rintro _ w10 ⟨rfl, hb10⟩)
          have hXr := heap_alloc_new w10 (.cells #[.string x.user, .int .u64 (x.seq.toNat : Int), .int .u8 (x.kind.toNat : Int), .string x.value] 29)
          have b11 := balloc (bstep b59 hb10) (.cells #[.string x.user, .int .u64 (x.seq.toNat : Int), .int .u8 (x.kind.toNat : Int), .string x.value] 29)
          have b911 := balloc hb10 (.cells #[.string x.user, .int .u64 (x.seq.toNat : Int), .int .u8 (x.kind.toNat : Int), .string x.value] 29)
          generalize World.alloc w10 _ = w11 at hXr b11 b911 ⊢
          have x0 : w11.cell? ⟨w10.heap.size, 0, none⟩ = some (.string x.user) := cell_of_row _ _ 0 _ _ _ hXr
          have bw11 := bstep b5' b11
          have HXr := Lib.hid (And.intro hXr (And.intro b11 b911))
          clear hXr b911 hb10 b59 b9 hb9 b58 HFst HLk hcsr
          rcases HTh.out.2.2.1 with ⟨hFn, hsn⟩ | ⟨j, hj, hF1, hs1⟩
          · have hfn0 : fn = 0 := by rw [HTh.out.2.2.2.1, HTh.out.2.1, show (Q.map (fun q : Tb => q.m)).filter (hasM user) = [] from hFn]; rfl
            have hth := HTh.out.1
            rw [hsn] at hth
            have hf0 : ((fn : Int) == 0) = true := by rw [hfn0]; rfl
            clear hFn hsn hfn0
            cases is with
            | false =>
              clear hth
              go_wp2_with fail
              go_ret
              exact ⟨rfl, bw11⟩
            | true =>
              have he : (x.user.toList == user.toList) = false := by simpa using hth
              clear hth
              go_wp2_with fail
              go_ret
              exact ⟨rfl, bw11⟩
          · have hfn2 : fn = 1 := by rw [HTh.out.2.2.2.1, HTh.out.2.1, show (Q.map (fun q : Tb => q.m)).filter (hasM user) = [Q[j].m] from hF1]; rfl
            subst hfn2
            have hF2 : F = [Q[j].m] := HTh.out.2.1.trans hF1
            have hO := HO9.out
            rw [hF2] at hO
            have hO11 := hO.below HXr.out.2.2 (Nat.le_refl _)
            obtain ⟨g9, k9', e⟩ := hO11.form0 (by simp)
            injection e with e1 e2 e3
            subst e1; subst e3
            clear e2
            obtain ⟨qj, hqj⟩ : ∃ qj, qj = Q[j] := ⟨_, rfl⟩
            rw [← hqj] at hO11 hs1
            have hrg : w11.rangeAt g9 0 (mdC qj.m) := by
              obtain ⟨b', o', k', e', _, hr⟩ := hO11.sg.at_ mdC_length (by simp)
              injection e' with e1 _ _
              injection e1 with e1
              injection e1 with e1 e2
              subst e1; subst e2
              have := hr 0 (by simp)
              simpa using this
            have hgl := (hO11.lt g9 rfl).2
            have hL11 := HLv.out.1.on HXr.out.2.1
            have hit := hL11.i j hj
            rw [← hqj] at hit
            have hpt := HLv.out.2.1.part hj
            rw [← hqj] at hpt
            have hny := HLv.out.2.1.num hj
            rw [← hqj] at hny
            have hob := hL11.b qj (by rw [hqj]; exact List.getElem_mem hj)
            obtain ⟨L, hLd⟩ : ∃ L, L = Q.map (fun q => (q.m.1.n, q.v)) := ⟨_, rfl⟩
            have hM := hL11.m
            rw [← hLd] at hM
            obtain ⟨ny, hnyd⟩ : ∃ ny, ny = 5 + j := ⟨_, rfl⟩
            rw [← hnyd] at hny hit
            obtain ⟨qv, hqv⟩ : ∃ qv, qv = qj.v := ⟨_, rfl⟩
            rw [← hqv] at hob
            have HLk2 : Hid (∀ W, MapU W Bm L → (Instr.lookup 31 (.map (some Bm)) (.int .u64 (ny : Int)) false).run Tryz.prog W = .ok qv W) := Lib.hid (fun W hW => by
              refine hW.look Tryz.underlying31 Tryz.underlying23 ny qv (fun p hp hpn => ?_) ⟨(qj.m.1.n, qj.v), ?_, hny⟩
              · rw [hLd] at hp
                obtain ⟨q, hq, rfl⟩ := List.mem_map.1 hp
                obtain ⟨i', hi', rfl⟩ := List.getElem_of_mem hq
                have h5 := HLv.out.2.1.num hi'
                have h6 : Q[i'].m.1.n = ny := hpn
                have h7 : i' = j := by omega
                subst h7
                rw [hqv, hqj]
              · rw [hLd, hqj]; exact List.mem_map.2 ⟨Q[j], List.getElem_mem hj, rfl⟩)
            have hnyb : ny ≤ 1000000 := by have := HLv.out.2.2; omega
            have c3 : w11.cell? ⟨g9, 3, none⟩ = some (.int .u64 (ny : Int)) := by
              have h5 := hrg 3 (.int .u64 (qj.m.1.n : Int)) rfl
              rw [hny] at h5
              simpa using h5
            obtain ⟨A4, k4, rfl, _, _⟩ := id hob.sb
            obtain ⟨bl, hbl⟩ : ∃ bl, bl = qj.b.length := ⟨_, rfl⟩
            rw [← hbl] at hob HLk2
            obtain ⟨xc, hxc⟩ : ∃ xc, xc = (mdC qj.m).toArray := ⟨_, rfl⟩
            have HXC := Lib.hid hxc
            obtain ⟨ans, hans⟩ : ∃ ans, ans = seekE (keyQ user seq) qj.t := ⟨_, rfl⟩
            have HGet : Hid (∀ W, Below w11.heap.size w11 W → Calls Tryz.prog 14 #[.agg oneA, .agg xc, .slice A4 bl k4, .string user, .int .u64 (seq.toNat : Int)] W (GetPost W ans)) := Lib.hid (fun W hW => by
              have hbw := bstep bw11 hW
              rw [hans, hxc]
              exact kGetLv_any qj ny ev (blk : Int) user hus seq (.slice A4 bl k4) W (by omega) hit hev1 hpt.1 hpt.2.1 hpt.2.2.1 hpt.2.2.2 ((hob.sb).on hW) (HK.out.on hbw h1) (by have := hbw.size; omega))
            have hxl := (Array.getElem?_eq_some_iff.1 HXr.out.1).1
            have KS : Hid (∀ W, Below w11.heap.size w11 W → W.rangeAt g9 0 (mdC qj.m) ∧ W.cell? ⟨g9, 3, none⟩ = some (.int .u64 (ny : Int)) ∧ MapU W Bm L) := Lib.hid (fun W hW => ⟨SGr hW hgl hrg, (hW.cell (p := ⟨g9, 3, none⟩) hgl).trans c3, hM.on hW⟩)
            have KX : Hid (∀ W, Below w11.heap.size w11 W → W.heap[w10.heap.size]? = some (.cells #[.string x.user, .int .u64 (x.seq.toNat : Int), .int .u8 (x.kind.toNat : Int), .string x.value] 29 (0, 0))) := Lib.hid (fun W hW => (hW.block _ hxl).trans HXr.out.1)
            have hth := HTh.out.1
            rw [hs1, ← hans] at hth
            have HAns := Lib.hid (And.intro hans hs1)
            clear hnyd hF1 hF2 hO hO11 hqj hs1 hrg hL11 hit hpt hny hob hLd hM hqv c3 hbl hxc hans
            cases ans with
            | none =>
              cases is with
              | false =>
                clear hth
                have HGet2 : Hid (∀ W, Below w11.heap.size w11 W → Calls Tryz.prog 14 #[.agg oneA, .agg xc, .slice A4 bl k4, .string user, .int .u64 (seq.toNat : Int)] W fun e w' => e = .returned (.tuple #[.agg #[.string ⟨#[]⟩, .int .u64 0, .int .u8 0, .string ⟨#[]⟩], .bool false, .int .i64 0]) ∧ Below W.heap.size W w') := Lib.hid (fun W hW => by
                  have h := HGet.out W hW
                  unfold GetPost at h
                  simpa only [Option.getD_none, Option.getD_some, ent0_V, Option.isSome_none, Option.isSome_some] using h)
                go_upto_region 24 with fail
                have b2d := bdrew (bself w11)
                refine wp_region_noPanic ?_
                refine wp_region_held_drew (S := fun W => True ∧ W.rangeAt g9 0 (mdC qj.m) ∧ W.cell? ⟨g9, 3, none⟩ = some (.int .u64 (ny : Int)) ∧ MapU W Bm L) (by kernel_rfl) ⟨trivial, KS.out _ b2d⟩ (fun hHeld => ?_)
                refine reg_take 0 (v := .agg oneA) (by rfl) (by kernel_rfl) (by kernel_rfl) (by kernel_rfl) (fun _ _ _ h => h) (by rfl) ?_ (by assumption) ?_
                · (intro wq hSq; exact exec_bldOne _ rfl)
                try simp only [Act.put, q1, q2, q3]
                refine rtk 1 ?_ ?_ ?_
                rotate_left
                · (intro wq hSq; (try dsimp only at hSq); go_split_ands; go_simp; (try with_reducible rfl))
                try simp only [Act.put, q1, q2, q3]
                refine rtk 2 ?_ ?_ ?_
                rotate_left
                · (intro wq hSq; (try dsimp only at hSq); go_split_ands; go_simp; (try with_reducible rfl))
                try simp only [Act.put, q1, q2, q3]
                refine reg_take 3 (v := .agg (mdC qj.m).toArray) (by rfl) (by kernel_rfl) (by kernel_rfl) (by kernel_rfl) (fun _ _ _ h => h) (by rfl) ?_ (by assumption) ?_
                · (intro wq hSq; exact exec_loadG 55 Tryz.underlying55 rfl infoMd (.tmp 102) rfl g9 0 rfl (mdC qj.m) (mdC_length qj.m) hSq.2.1)
                try simp only [Act.put, q1, q2, q3]
                rw [← HXC.out]
                refine rtk 4 ?_ ?_ ?_
                rotate_left
                · (intro wq hSq; (try dsimp only at hSq); go_split_ands; go_simp; (try with_reducible rfl))
                try simp only [Act.put, q1, q2, q3]
                refine rtk 5 ?_ ?_ ?_
                rotate_left
                · (intro wq hSq; (try dsimp only at hSq); go_split_ands; go_simp; (try with_reducible rfl))
                try simp only [Act.put, q1, q2, q3]
                refine rtk 6 ?_ ?_ ?_
                rotate_left
                · (intro wq hSq; (try dsimp only at hSq); go_split_ands; go_simp; (try with_reducible rfl))
                try simp only [Act.put, q1, q2, q3]
                refine rtk 7 ?_ ?_ ?_
                rotate_left
                · (intro wq hSq; (try dsimp only at hSq); go_split_ands; go_simp; (try with_reducible rfl))
                try simp only [Act.put, q1, q2, q3]
                refine rtk 8 ?_ ?_ ?_
                rotate_left
                · (intro wq hSq; (try dsimp only at hSq); go_split_ands; go_simp; (try with_reducible rfl))
                try simp only [Act.put, q1, q2, q3]
                refine reg_take 9 (v := .slice A4 bl k4) (by rfl) (by kernel_rfl) (by kernel_rfl) (by kernel_rfl) (fun _ _ _ h => h) (by rfl) ?_ (by assumption) ?_
                · (intro wq hSq; exact exec_lookU 31 (.tmp 104) (.tmp 108) rfl Bm ny rfl rfl (HLk2.out _ hSq.2.2.2))
                try simp only [Act.put, q1, q2, q3]
                refine rtk 10 ?_ ?_ ?_
                rotate_left
                · (intro wq hSq; (try dsimp only at hSq); go_split_ands; go_simp; (try with_reducible rfl))
                try simp only [Act.put, q1, q2, q3]
                refine rtk 11 ?_ ?_ ?_
                rotate_left
                · (intro wq hSq; (try dsimp only at hSq); go_split_ands; go_simp; (try with_reducible rfl))
                try simp only [Act.put, q1, q2, q3]
                refine reg_pair 12 17 (by rfl) (by rfl) (by kernel_rfl) (by rfl) (by rfl) (fun K hK => ?_) (fun K hK => ?_)
                · skip
                  (go_simp; go_at_call 14; refine (HGet2.out _ b2d).mono ?_; rintro _ w12 ⟨rfl, hb12⟩; have b12 := bstep b2d hb12; go_wp2_with fail)
                  refine hK.out _ _ ?_ (fun hHeld => ?_)
                  · exact ⟨trivial, KS.out _ b12⟩
                  clear hK K
                  try simp only [Act.put, q1, q2, q3]
                  refine rtk 13 ?_ ?_ ?_
                  rotate_left
                  · (intro wq hSq; (try dsimp only at hSq); go_split_ands; go_simp; (try with_reducible rfl))
                  try simp only [Act.put, q1, q2, q3]
                  refine rtk 14 ?_ ?_ ?_
                  rotate_left
                  · (intro wq hSq; (try dsimp only at hSq); go_split_ands; go_simp; (try with_reducible rfl))
                  try simp only [Act.put, q1, q2, q3]
                  refine rtk 15 ?_ ?_ ?_
                  rotate_left
                  · (intro wq hSq; (try dsimp only at hSq); go_split_ands; go_simp; (try with_reducible rfl))
                  try simp only [Act.put, q1, q2, q3]
                  refine rtk 16 ?_ ?_ ?_
                  rotate_left
                  · (intro wq hSq; (try dsimp only at hSq); go_split_ands; go_simp; (try with_reducible rfl))
                  try simp only [Act.put, q1, q2, q3]
                  refine reg_one 17 (by rfl) (by kernel_rfl) (by rfl) (fun K hK => ?_)
                  (go_simp)
                  refine hK.out _ _ ?_ (fun hHeld => ?_)
                  · exact ⟨trivial, KS.out _ (balloc b12 _)⟩
                  clear hK K
                  try simp only [Act.put, q1, q2, q3]
                  refine reg_one 18 (by rfl) (by kernel_rfl) (by rfl) (fun K hK => ?_)
                  (go_simp)
                  refine hK.out _ _ ?_ (fun hHeld => ?_)
                  · exact ⟨trivial, KS.out _ (balloc b12 _)⟩
                  clear hK K
                  try simp only [Act.put, q1, q2, q3]
                  refine rtk 19 ?_ ?_ ?_
                  rotate_left
                  · (intro wq hSq; (try dsimp only at hSq); go_split_ands; go_simp; (try with_reducible rfl))
                  try simp only [Act.put, q1, q2, q3]
                  refine rtk 20 ?_ ?_ ?_
                  rotate_left
                  · (intro wq hSq; (try dsimp only at hSq); go_split_ands; go_simp; (try with_reducible rfl))
                  try simp only [Act.put, q1, q2, q3]
                  refine wpAnyH_done (by kernel_rfl) (noPanic_mk ?_) _
                  clear hHeld
                  have hE := heap_alloc_new w12 (.cells #[.string ⟨#[]⟩, .int .u64 0, .int .u8 0, .string ⟨#[]⟩] 29)
                  have bE := balloc b12 (.cells #[.string ⟨#[]⟩, .int .u64 0, .int .u8 0, .string ⟨#[]⟩] 29)
                  generalize World.alloc w12 _ = w13 at hE bE ⊢
                  have hXf := KX.out _ bE
                  obtain ⟨⟨y0, y1, y2, y3⟩, _⟩ := cells4 hXf
                  obtain ⟨⟨z0, z1, z2, z3⟩, _⟩ := cells4 hE
                  clear hXf hE
                  go_wp2_with fail
                  go_ret
                  exact ⟨ret_bool (by simp), bstep bw11 bE⟩
                · skip
                  (go_simp)
                  refine hK.out _ _ ?_ (fun hHeld => ?_)
                  · exact ⟨trivial, KS.out _ (balloc b2d _)⟩
                  clear hK K
                  try simp only [Act.put, q1, q2, q3]
                  have hE0 : (w11.alloc (.cells #[.string ⟨#[]⟩, .int .u64 0, .int .u8 0, .string ⟨#[]⟩] 29)).drew.heap[w11.heap.size]? = some (.cells #[.string ⟨#[]⟩, .int .u64 0, .int .u8 0, .string ⟨#[]⟩] 29 (0, 0)) := heap_alloc_new w11 (.cells #[.string ⟨#[]⟩, .int .u64 0, .int .u8 0, .string ⟨#[]⟩] 29)
                  have bE0 := bdrew (balloc (bself w11) (.cells #[.string ⟨#[]⟩, .int .u64 0, .int .u8 0, .string ⟨#[]⟩] 29))
                  generalize World.drew (World.alloc w11 _) = w14 at hE0 bE0 ⊢
                  refine reg_one 12 (by rfl) (by kernel_rfl) (by rfl) (fun K hK => ?_)
                  (go_simp; go_at_call 14; refine (HGet2.out _ bE0).mono ?_; rintro _ w12 ⟨rfl, hb12⟩; have b12 := bstep bE0 hb12; go_wp2_with fail)
                  refine hK.out _ _ ?_ (fun hHeld => ?_)
                  · exact ⟨trivial, KS.out _ b12⟩
                  clear hK K
                  try simp only [Act.put, q1, q2, q3]
                  have hE5 := (hb12.block _ (Array.getElem?_eq_some_iff.1 hE0).1).trans hE0
                  have bE : Below w11.heap.size w11 (World.setRow w12 w11.heap.size #[.string ⟨#[]⟩, .int .u64 0, .int .u8 0, .string ⟨#[]⟩]) := below_setRow b12 (Nat.le_refl _) _
                  refine rtk 13 ?_ ?_ ?_
                  rotate_left
                  · (intro wq hSq; (try dsimp only at hSq); go_split_ands; go_simp; (try with_reducible rfl))
                  try simp only [Act.put, q1, q2, q3]
                  refine rtk 14 ?_ ?_ ?_
                  rotate_left
                  · (intro wq hSq; (try dsimp only at hSq); go_split_ands; go_simp; (try with_reducible rfl))
                  try simp only [Act.put, q1, q2, q3]
                  refine rtk 15 ?_ ?_ ?_
                  rotate_left
                  · (intro wq hSq; (try dsimp only at hSq); go_split_ands; go_simp; (try with_reducible rfl))
                  try simp only [Act.put, q1, q2, q3]
                  refine rtk 16 ?_ ?_ ?_
                  rotate_left
                  · (intro wq hSq; (try dsimp only at hSq); go_split_ands; go_simp; (try with_reducible rfl))
                  try simp only [Act.put, q1, q2, q3]
                  refine reg_one 18 (by rfl) (by kernel_rfl) (by rfl) (fun K hK => ?_)
                  (refine wp_storeR 29 (.tmp 20) (.tmp 113) rfl _ rfl _ #[.string ⟨#[]⟩, .int .u64 0, .int .u8 0, .string ⟨#[]⟩] rfl hE5 (by kernel_rfl) (by rfl) (by simp [Value.oneCell']) ?_)
                  refine hK.out _ _ ?_ (fun hHeld => ?_)
                  · exact ⟨trivial, KS.out _ bE⟩
                  clear hK K
                  try simp only [Act.put]
                  refine rtk 19 ?_ ?_ ?_
                  rotate_left
                  · (intro wq hSq; (try dsimp only at hSq); go_split_ands; go_simp; (try with_reducible rfl))
                  try simp only [Act.put, q1, q2, q3]
                  refine rtk 20 ?_ ?_ ?_
                  rotate_left
                  · (intro wq hSq; (try dsimp only at hSq); go_split_ands; go_simp; (try with_reducible rfl))
                  try simp only [Act.put, q1, q2, q3]
                  refine wpAnyH_done (by kernel_rfl) (noPanic_mk ?_) _
                  clear hHeld
                  have hE := setRow_heap _ _ _ #[.string ⟨#[]⟩, .int .u64 0, .int .u8 0, .string ⟨#[]⟩] _ _ hE5
                  generalize World.setRow _ _ _ = w13 at hE bE ⊢
                  have hXf := KX.out _ bE
                  obtain ⟨⟨y0, y1, y2, y3⟩, _⟩ := cells4 hXf
                  obtain ⟨⟨z0, z1, z2, z3⟩, _⟩ := cells4 hE
                  clear hXf hE
                  go_wp2_with fail
                  go_ret
                  exact ⟨ret_bool (by simp), bstep bw11 bE⟩
              | true =>
                have he : (x.user.toList == user.toList) = false := by simpa using hth
                clear hth
                have HGet2 : Hid (∀ W, Below w11.heap.size w11 W → Calls Tryz.prog 14 #[.agg oneA, .agg xc, .slice A4 bl k4, .string user, .int .u64 (seq.toNat : Int)] W fun e w' => e = .returned (.tuple #[.agg #[.string ⟨#[]⟩, .int .u64 0, .int .u8 0, .string ⟨#[]⟩], .bool false, .int .i64 0]) ∧ Below W.heap.size W w') := Lib.hid (fun W hW => by
                  have h := HGet.out W hW
                  unfold GetPost at h
                  simpa only [Option.getD_none, Option.getD_some, ent0_V, Option.isSome_none, Option.isSome_some] using h)
                go_upto_region 24 with fail
                have b2d := bdrew (bself w11)
                refine wp_region_noPanic ?_
                refine wp_region_held_drew (S := fun W => True ∧ W.rangeAt g9 0 (mdC qj.m) ∧ W.cell? ⟨g9, 3, none⟩ = some (.int .u64 (ny : Int)) ∧ MapU W Bm L) (by kernel_rfl) ⟨trivial, KS.out _ b2d⟩ (fun hHeld => ?_)
                refine reg_take 0 (v := .agg oneA) (by rfl) (by kernel_rfl) (by kernel_rfl) (by kernel_rfl) (fun _ _ _ h => h) (by rfl) ?_ (by assumption) ?_
                · (intro wq hSq; exact exec_bldOne _ rfl)
                try simp only [Act.put, q1, q2, q3]
                refine rtk 1 ?_ ?_ ?_
                rotate_left
                · (intro wq hSq; (try dsimp only at hSq); go_split_ands; go_simp; (try with_reducible rfl))
                try simp only [Act.put, q1, q2, q3]
                refine rtk 2 ?_ ?_ ?_
                rotate_left
                · (intro wq hSq; (try dsimp only at hSq); go_split_ands; go_simp; (try with_reducible rfl))
                try simp only [Act.put, q1, q2, q3]
                refine reg_take 3 (v := .agg (mdC qj.m).toArray) (by rfl) (by kernel_rfl) (by kernel_rfl) (by kernel_rfl) (fun _ _ _ h => h) (by rfl) ?_ (by assumption) ?_
                · (intro wq hSq; exact exec_loadG 55 Tryz.underlying55 rfl infoMd (.tmp 102) rfl g9 0 rfl (mdC qj.m) (mdC_length qj.m) hSq.2.1)
                try simp only [Act.put, q1, q2, q3]
                rw [← HXC.out]
                refine rtk 4 ?_ ?_ ?_
                rotate_left
                · (intro wq hSq; (try dsimp only at hSq); go_split_ands; go_simp; (try with_reducible rfl))
                try simp only [Act.put, q1, q2, q3]
                refine rtk 5 ?_ ?_ ?_
                rotate_left
                · (intro wq hSq; (try dsimp only at hSq); go_split_ands; go_simp; (try with_reducible rfl))
                try simp only [Act.put, q1, q2, q3]
                refine rtk 6 ?_ ?_ ?_
                rotate_left
                · (intro wq hSq; (try dsimp only at hSq); go_split_ands; go_simp; (try with_reducible rfl))
                try simp only [Act.put, q1, q2, q3]
                refine rtk 7 ?_ ?_ ?_
                rotate_left
                · (intro wq hSq; (try dsimp only at hSq); go_split_ands; go_simp; (try with_reducible rfl))
                try simp only [Act.put, q1, q2, q3]
                refine rtk 8 ?_ ?_ ?_
                rotate_left
                · (intro wq hSq; (try dsimp only at hSq); go_split_ands; go_simp; (try with_reducible rfl))
                try simp only [Act.put, q1, q2, q3]
                refine reg_take 9 (v := .slice A4 bl k4) (by rfl) (by kernel_rfl) (by kernel_rfl) (by kernel_rfl) (fun _ _ _ h => h) (by rfl) ?_ (by assumption) ?_
                · (intro wq hSq; exact exec_lookU 31 (.tmp 104) (.tmp 108) rfl Bm ny rfl rfl (HLk2.out _ hSq.2.2.2))
                try simp only [Act.put, q1, q2, q3]
                refine rtk 10 ?_ ?_ ?_
                rotate_left
                · (intro wq hSq; (try dsimp only at hSq); go_split_ands; go_simp; (try with_reducible rfl))
                try simp only [Act.put, q1, q2, q3]
                refine rtk 11 ?_ ?_ ?_
                rotate_left
                · (intro wq hSq; (try dsimp only at hSq); go_split_ands; go_simp; (try with_reducible rfl))
                try simp only [Act.put, q1, q2, q3]
                refine reg_pair 12 17 (by rfl) (by rfl) (by kernel_rfl) (by rfl) (by rfl) (fun K hK => ?_) (fun K hK => ?_)
                · skip
                  (go_simp; go_at_call 14; refine (HGet2.out _ b2d).mono ?_; rintro _ w12 ⟨rfl, hb12⟩; have b12 := bstep b2d hb12; go_wp2_with fail)
                  refine hK.out _ _ ?_ (fun hHeld => ?_)
                  · exact ⟨trivial, KS.out _ b12⟩
                  clear hK K
                  try simp only [Act.put, q1, q2, q3]
                  refine rtk 13 ?_ ?_ ?_
                  rotate_left
                  · (intro wq hSq; (try dsimp only at hSq); go_split_ands; go_simp; (try with_reducible rfl))
                  try simp only [Act.put, q1, q2, q3]
                  refine rtk 14 ?_ ?_ ?_
                  rotate_left
                  · (intro wq hSq; (try dsimp only at hSq); go_split_ands; go_simp; (try with_reducible rfl))
                  try simp only [Act.put, q1, q2, q3]
                  refine rtk 15 ?_ ?_ ?_
                  rotate_left
                  · (intro wq hSq; (try dsimp only at hSq); go_split_ands; go_simp; (try with_reducible rfl))
                  try simp only [Act.put, q1, q2, q3]
                  refine rtk 16 ?_ ?_ ?_
                  rotate_left
                  · (intro wq hSq; (try dsimp only at hSq); go_split_ands; go_simp; (try with_reducible rfl))
                  try simp only [Act.put, q1, q2, q3]
                  refine reg_one 17 (by rfl) (by kernel_rfl) (by rfl) (fun K hK => ?_)
                  (go_simp)
                  refine hK.out _ _ ?_ (fun hHeld => ?_)
                  · exact ⟨trivial, KS.out _ (balloc b12 _)⟩
                  clear hK K
                  try simp only [Act.put, q1, q2, q3]
                  refine reg_one 18 (by rfl) (by kernel_rfl) (by rfl) (fun K hK => ?_)
                  (go_simp)
                  refine hK.out _ _ ?_ (fun hHeld => ?_)
                  · exact ⟨trivial, KS.out _ (balloc b12 _)⟩
                  clear hK K
                  try simp only [Act.put, q1, q2, q3]
                  refine rtk 19 ?_ ?_ ?_
                  rotate_left
                  · (intro wq hSq; (try dsimp only at hSq); go_split_ands; go_simp; (try with_reducible rfl))
                  try simp only [Act.put, q1, q2, q3]
                  refine rtk 20 ?_ ?_ ?_
                  rotate_left
                  · (intro wq hSq; (try dsimp only at hSq); go_split_ands; go_simp; (try with_reducible rfl))
                  try simp only [Act.put, q1, q2, q3]
                  refine wpAnyH_done (by kernel_rfl) (noPanic_mk ?_) _
                  clear hHeld
                  have hE := heap_alloc_new w12 (.cells #[.string ⟨#[]⟩, .int .u64 0, .int .u8 0, .string ⟨#[]⟩] 29)
                  have bE := balloc b12 (.cells #[.string ⟨#[]⟩, .int .u64 0, .int .u8 0, .string ⟨#[]⟩] 29)
                  generalize World.alloc w12 _ = w13 at hE bE ⊢
                  have hXf := KX.out _ bE
                  obtain ⟨⟨y0, y1, y2, y3⟩, _⟩ := cells4 hXf
                  obtain ⟨⟨z0, z1, z2, z3⟩, _⟩ := cells4 hE
                  clear hXf hE
                  go_wp2_with fail
                  go_ret
                  exact ⟨ret_bool (by simp), bstep bw11 bE⟩
                · skip
                  (go_simp)
                  refine hK.out _ _ ?_ (fun hHeld => ?_)
                  · exact ⟨trivial, KS.out _ (balloc b2d _)⟩
                  clear hK K
                  try simp only [Act.put, q1, q2, q3]
                  have hE0 : (w11.alloc (.cells #[.string ⟨#[]⟩, .int .u64 0, .int .u8 0, .string ⟨#[]⟩] 29)).drew.heap[w11.heap.size]? = some (.cells #[.string ⟨#[]⟩, .int .u64 0, .int .u8 0, .string ⟨#[]⟩] 29 (0, 0)) := heap_alloc_new w11 (.cells #[.string ⟨#[]⟩, .int .u64 0, .int .u8 0, .string ⟨#[]⟩] 29)
                  have bE0 := bdrew (balloc (bself w11) (.cells #[.string ⟨#[]⟩, .int .u64 0, .int .u8 0, .string ⟨#[]⟩] 29))
                  generalize World.drew (World.alloc w11 _) = w14 at hE0 bE0 ⊢
                  refine reg_one 12 (by rfl) (by kernel_rfl) (by rfl) (fun K hK => ?_)
                  (go_simp; go_at_call 14; refine (HGet2.out _ bE0).mono ?_; rintro _ w12 ⟨rfl, hb12⟩; have b12 := bstep bE0 hb12; go_wp2_with fail)
                  refine hK.out _ _ ?_ (fun hHeld => ?_)
                  · exact ⟨trivial, KS.out _ b12⟩
                  clear hK K
                  try simp only [Act.put, q1, q2, q3]
                  have hE5 := (hb12.block _ (Array.getElem?_eq_some_iff.1 hE0).1).trans hE0
                  have bE : Below w11.heap.size w11 (World.setRow w12 w11.heap.size #[.string ⟨#[]⟩, .int .u64 0, .int .u8 0, .string ⟨#[]⟩]) := below_setRow b12 (Nat.le_refl _) _
                  refine rtk 13 ?_ ?_ ?_
                  rotate_left
                  · (intro wq hSq; (try dsimp only at hSq); go_split_ands; go_simp; (try with_reducible rfl))
                  try simp only [Act.put, q1, q2, q3]
                  refine rtk 14 ?_ ?_ ?_
                  rotate_left
                  · (intro wq hSq; (try dsimp only at hSq); go_split_ands; go_simp; (try with_reducible rfl))
                  try simp only [Act.put, q1, q2, q3]
                  refine rtk 15 ?_ ?_ ?_
                  rotate_left
                  · (intro wq hSq; (try dsimp only at hSq); go_split_ands; go_simp; (try with_reducible rfl))
                  try simp only [Act.put, q1, q2, q3]
                  refine rtk 16 ?_ ?_ ?_
                  rotate_left
                  · (intro wq hSq; (try dsimp only at hSq); go_split_ands; go_simp; (try with_reducible rfl))
                  try simp only [Act.put, q1, q2, q3]
                  refine reg_one 18 (by rfl) (by kernel_rfl) (by rfl) (fun K hK => ?_)
                  (refine wp_storeR 29 (.tmp 20) (.tmp 113) rfl _ rfl _ #[.string ⟨#[]⟩, .int .u64 0, .int .u8 0, .string ⟨#[]⟩] rfl hE5 (by kernel_rfl) (by rfl) (by simp [Value.oneCell']) ?_)
                  refine hK.out _ _ ?_ (fun hHeld => ?_)
                  · exact ⟨trivial, KS.out _ bE⟩
                  clear hK K
                  try simp only [Act.put]
                  refine rtk 19 ?_ ?_ ?_
                  rotate_left
                  · (intro wq hSq; (try dsimp only at hSq); go_split_ands; go_simp; (try with_reducible rfl))
                  try simp only [Act.put, q1, q2, q3]
                  refine rtk 20 ?_ ?_ ?_
                  rotate_left
                  · (intro wq hSq; (try dsimp only at hSq); go_split_ands; go_simp; (try with_reducible rfl))
                  try simp only [Act.put, q1, q2, q3]
                  refine wpAnyH_done (by kernel_rfl) (noPanic_mk ?_) _
                  clear hHeld
                  have hE := setRow_heap _ _ _ #[.string ⟨#[]⟩, .int .u64 0, .int .u8 0, .string ⟨#[]⟩] _ _ hE5
                  generalize World.setRow _ _ _ = w13 at hE bE ⊢
                  have hXf := KX.out _ bE
                  obtain ⟨⟨y0, y1, y2, y3⟩, _⟩ := cells4 hXf
                  obtain ⟨⟨z0, z1, z2, z3⟩, _⟩ := cells4 hE
                  clear hXf hE
                  go_wp2_with fail
                  go_ret
                  exact ⟨ret_bool (by simp), bstep bw11 bE⟩
            | some ez =>
              have hfe : firstE l (keyQ user seq) = some ez := by
                have h5 := only_seek (rightL_all HFac.out.1).1 (keyQ user seq)
                rw [HAns.out.2, ← HAns.out.1] at h5
                unfold onlyE at h5
                cases hfe : firstE l (keyQ user seq) with
                | none => rw [hfe] at h5; cases h5
                | some e =>
                  rw [hfe, Option.bind_some] at h5
                  split at h5
                  · exact h5
                  · cases h5
              have hxe : x = ez := by rw [HTh.out.2.2.2.2.1, hfe]; rfl
              subst hxe
              clear hfe
              cases is with
              | false => simp at hth
              | true =>
                have he : (x.user.toList == user.toList) = true := by simpa using hth
                clear hth
                have HGet2 : Hid (∀ W, Below w11.heap.size w11 W → Calls Tryz.prog 14 #[.agg oneA, .agg xc, .slice A4 bl k4, .string user, .int .u64 (seq.toNat : Int)] W fun e w' => e = .returned (.tuple #[.agg #[.string x.user, .int .u64 (x.seq.toNat : Int), .int .u8 (x.kind.toNat : Int), .string x.value], .bool true, .int .i64 0]) ∧ Below W.heap.size W w') := Lib.hid (fun W hW => by
                  have h := HGet.out W hW
                  unfold GetPost at h
                  simpa only [Option.getD_none, Option.getD_some, ent0_V, Option.isSome_none, Option.isSome_some] using h)
                go_upto_region 24 with fail
                have b2d := bdrew (bself w11)
                refine wp_region_noPanic ?_
                refine wp_region_held_drew (S := fun W => True ∧ W.rangeAt g9 0 (mdC qj.m) ∧ W.cell? ⟨g9, 3, none⟩ = some (.int .u64 (ny : Int)) ∧ MapU W Bm L) (by kernel_rfl) ⟨trivial, KS.out _ b2d⟩ (fun hHeld => ?_)
                refine reg_take 0 (v := .agg oneA) (by rfl) (by kernel_rfl) (by kernel_rfl) (by kernel_rfl) (fun _ _ _ h => h) (by rfl) ?_ (by assumption) ?_
                · (intro wq hSq; exact exec_bldOne _ rfl)
                try simp only [Act.put, q1, q2, q3]
                refine rtk 1 ?_ ?_ ?_
                rotate_left
                · (intro wq hSq; (try dsimp only at hSq); go_split_ands; go_simp; (try with_reducible rfl))
                try simp only [Act.put, q1, q2, q3]
                refine rtk 2 ?_ ?_ ?_
                rotate_left
                · (intro wq hSq; (try dsimp only at hSq); go_split_ands; go_simp; (try with_reducible rfl))
                try simp only [Act.put, q1, q2, q3]
                refine reg_take 3 (v := .agg (mdC qj.m).toArray) (by rfl) (by kernel_rfl) (by kernel_rfl) (by kernel_rfl) (fun _ _ _ h => h) (by rfl) ?_ (by assumption) ?_
                · (intro wq hSq; exact exec_loadG 55 Tryz.underlying55 rfl infoMd (.tmp 102) rfl g9 0 rfl (mdC qj.m) (mdC_length qj.m) hSq.2.1)
                try simp only [Act.put, q1, q2, q3]
                rw [← HXC.out]
                refine rtk 4 ?_ ?_ ?_
                rotate_left
                · (intro wq hSq; (try dsimp only at hSq); go_split_ands; go_simp; (try with_reducible rfl))
                try simp only [Act.put, q1, q2, q3]
                refine rtk 5 ?_ ?_ ?_
                rotate_left
                · (intro wq hSq; (try dsimp only at hSq); go_split_ands; go_simp; (try with_reducible rfl))
                try simp only [Act.put, q1, q2, q3]
                refine rtk 6 ?_ ?_ ?_
                rotate_left
                · (intro wq hSq; (try dsimp only at hSq); go_split_ands; go_simp; (try with_reducible rfl))
                try simp only [Act.put, q1, q2, q3]
                refine rtk 7 ?_ ?_ ?_
                rotate_left
                · (intro wq hSq; (try dsimp only at hSq); go_split_ands; go_simp; (try with_reducible rfl))
                try simp only [Act.put, q1, q2, q3]
                refine rtk 8 ?_ ?_ ?_
                rotate_left
                · (intro wq hSq; (try dsimp only at hSq); go_split_ands; go_simp; (try with_reducible rfl))
                try simp only [Act.put, q1, q2, q3]
                refine reg_take 9 (v := .slice A4 bl k4) (by rfl) (by kernel_rfl) (by kernel_rfl) (by kernel_rfl) (fun _ _ _ h => h) (by rfl) ?_ (by assumption) ?_
                · (intro wq hSq; exact exec_lookU 31 (.tmp 104) (.tmp 108) rfl Bm ny rfl rfl (HLk2.out _ hSq.2.2.2))
                try simp only [Act.put, q1, q2, q3]
                refine rtk 10 ?_ ?_ ?_
                rotate_left
                · (intro wq hSq; (try dsimp only at hSq); go_split_ands; go_simp; (try with_reducible rfl))
                try simp only [Act.put, q1, q2, q3]
                refine rtk 11 ?_ ?_ ?_
                rotate_left
                · (intro wq hSq; (try dsimp only at hSq); go_split_ands; go_simp; (try with_reducible rfl))
                try simp only [Act.put, q1, q2, q3]
                refine reg_pair 12 17 (by rfl) (by rfl) (by kernel_rfl) (by rfl) (by rfl) (fun K hK => ?_) (fun K hK => ?_)
                · skip
                  (go_simp; go_at_call 14; refine (HGet2.out _ b2d).mono ?_; rintro _ w12 ⟨rfl, hb12⟩; have b12 := bstep b2d hb12; go_wp2_with fail)
                  refine hK.out _ _ ?_ (fun hHeld => ?_)
                  · exact ⟨trivial, KS.out _ b12⟩
                  clear hK K
                  try simp only [Act.put, q1, q2, q3]
                  refine rtk 13 ?_ ?_ ?_
                  rotate_left
                  · (intro wq hSq; (try dsimp only at hSq); go_split_ands; go_simp; (try with_reducible rfl))
                  try simp only [Act.put, q1, q2, q3]
                  refine rtk 14 ?_ ?_ ?_
                  rotate_left
                  · (intro wq hSq; (try dsimp only at hSq); go_split_ands; go_simp; (try with_reducible rfl))
                  try simp only [Act.put, q1, q2, q3]
                  refine rtk 15 ?_ ?_ ?_
                  rotate_left
                  · (intro wq hSq; (try dsimp only at hSq); go_split_ands; go_simp; (try with_reducible rfl))
                  try simp only [Act.put, q1, q2, q3]
                  refine rtk 16 ?_ ?_ ?_
                  rotate_left
                  · (intro wq hSq; (try dsimp only at hSq); go_split_ands; go_simp; (try with_reducible rfl))
                  try simp only [Act.put, q1, q2, q3]
                  refine reg_one 17 (by rfl) (by kernel_rfl) (by rfl) (fun K hK => ?_)
                  (go_simp)
                  refine hK.out _ _ ?_ (fun hHeld => ?_)
                  · exact ⟨trivial, KS.out _ (balloc b12 _)⟩
                  clear hK K
                  try simp only [Act.put, q1, q2, q3]
                  refine reg_one 18 (by rfl) (by kernel_rfl) (by rfl) (fun K hK => ?_)
                  (go_simp)
                  refine hK.out _ _ ?_ (fun hHeld => ?_)
                  · exact ⟨trivial, KS.out _ (balloc b12 _)⟩
                  clear hK K
                  try simp only [Act.put, q1, q2, q3]
                  refine rtk 19 ?_ ?_ ?_
                  rotate_left
                  · (intro wq hSq; (try dsimp only at hSq); go_split_ands; go_simp; (try with_reducible rfl))
                  try simp only [Act.put, q1, q2, q3]
                  refine rtk 20 ?_ ?_ ?_
                  rotate_left
                  · (intro wq hSq; (try dsimp only at hSq); go_split_ands; go_simp; (try with_reducible rfl))
                  try simp only [Act.put, q1, q2, q3]
                  refine wpAnyH_done (by kernel_rfl) (noPanic_mk ?_) _
                  clear hHeld
                  have hE := heap_alloc_new w12 (.cells #[.string x.user, .int .u64 (x.seq.toNat : Int), .int .u8 (x.kind.toNat : Int), .string x.value] 29)
                  have bE := balloc b12 (.cells #[.string x.user, .int .u64 (x.seq.toNat : Int), .int .u8 (x.kind.toNat : Int), .string x.value] 29)
                  generalize World.alloc w12 _ = w13 at hE bE ⊢
                  have hXf := KX.out _ bE
                  obtain ⟨⟨y0, y1, y2, y3⟩, _⟩ := cells4 hXf
                  obtain ⟨⟨z0, z1, z2, z3⟩, _⟩ := cells4 hE
                  clear hXf hE
                  go_wp2_with fail
                  go_ret
                  exact ⟨ret_bool (by simp), bstep bw11 bE⟩
                · skip
                  (go_simp)
                  refine hK.out _ _ ?_ (fun hHeld => ?_)
                  · exact ⟨trivial, KS.out _ (balloc b2d _)⟩
                  clear hK K
                  try simp only [Act.put, q1, q2, q3]
                  have hE0 : (w11.alloc (.cells #[.string ⟨#[]⟩, .int .u64 0, .int .u8 0, .string ⟨#[]⟩] 29)).drew.heap[w11.heap.size]? = some (.cells #[.string ⟨#[]⟩, .int .u64 0, .int .u8 0, .string ⟨#[]⟩] 29 (0, 0)) := heap_alloc_new w11 (.cells #[.string ⟨#[]⟩, .int .u64 0, .int .u8 0, .string ⟨#[]⟩] 29)
                  have bE0 := bdrew (balloc (bself w11) (.cells #[.string ⟨#[]⟩, .int .u64 0, .int .u8 0, .string ⟨#[]⟩] 29))
                  generalize World.drew (World.alloc w11 _) = w14 at hE0 bE0 ⊢
                  refine reg_one 12 (by rfl) (by kernel_rfl) (by rfl) (fun K hK => ?_)
                  (go_simp; go_at_call 14; refine (HGet2.out _ bE0).mono ?_; rintro _ w12 ⟨rfl, hb12⟩; have b12 := bstep bE0 hb12; go_wp2_with fail)
                  refine hK.out _ _ ?_ (fun hHeld => ?_)
                  · exact ⟨trivial, KS.out _ b12⟩
                  clear hK K
                  try simp only [Act.put, q1, q2, q3]
                  have hE5 := (hb12.block _ (Array.getElem?_eq_some_iff.1 hE0).1).trans hE0
                  have bE : Below w11.heap.size w11 (World.setRow w12 w11.heap.size #[.string x.user, .int .u64 (x.seq.toNat : Int), .int .u8 (x.kind.toNat : Int), .string x.value]) := below_setRow b12 (Nat.le_refl _) _
                  refine rtk 13 ?_ ?_ ?_
                  rotate_left
                  · (intro wq hSq; (try dsimp only at hSq); go_split_ands; go_simp; (try with_reducible rfl))
                  try simp only [Act.put, q1, q2, q3]
                  refine rtk 14 ?_ ?_ ?_
                  rotate_left
                  · (intro wq hSq; (try dsimp only at hSq); go_split_ands; go_simp; (try with_reducible rfl))
                  try simp only [Act.put, q1, q2, q3]
                  refine rtk 15 ?_ ?_ ?_
                  rotate_left
                  · (intro wq hSq; (try dsimp only at hSq); go_split_ands; go_simp; (try with_reducible rfl))
                  try simp only [Act.put, q1, q2, q3]
                  refine rtk 16 ?_ ?_ ?_
                  rotate_left
                  · (intro wq hSq; (try dsimp only at hSq); go_split_ands; go_simp; (try with_reducible rfl))
                  try simp only [Act.put, q1, q2, q3]
                  refine reg_one 18 (by rfl) (by kernel_rfl) (by rfl) (fun K hK => ?_)
                  (refine wp_storeR 29 (.tmp 20) (.tmp 113) rfl _ rfl _ #[.string x.user, .int .u64 (x.seq.toNat : Int), .int .u8 (x.kind.toNat : Int), .string x.value] rfl hE5 (by kernel_rfl) (by rfl) (by simp [Value.oneCell']) ?_)
                  refine hK.out _ _ ?_ (fun hHeld => ?_)
                  · exact ⟨trivial, KS.out _ bE⟩
                  clear hK K
                  try simp only [Act.put]
                  refine rtk 19 ?_ ?_ ?_
                  rotate_left
                  · (intro wq hSq; (try dsimp only at hSq); go_split_ands; go_simp; (try with_reducible rfl))
                  try simp only [Act.put, q1, q2, q3]
                  refine rtk 20 ?_ ?_ ?_
                  rotate_left
                  · (intro wq hSq; (try dsimp only at hSq); go_split_ands; go_simp; (try with_reducible rfl))
                  try simp only [Act.put, q1, q2, q3]
                  refine wpAnyH_done (by kernel_rfl) (noPanic_mk ?_) _
                  clear hHeld
                  have hE := setRow_heap _ _ _ #[.string x.user, .int .u64 (x.seq.toNat : Int), .int .u8 (x.kind.toNat : Int), .string x.value] _ _ hE5
                  generalize World.setRow _ _ _ = w13 at hE bE ⊢
                  have hXf := KX.out _ bE
                  obtain ⟨⟨y0, y1, y2, y3⟩, _⟩ := cells4 hXf
                  obtain ⟨⟨z0, z1, z2, z3⟩, _⟩ := cells4 hE
                  clear hXf hE
                  go_wp2_with fail
                  go_ret
                  exact ⟨ret_bool (by simp), bstep bw11 bE⟩
end Go.Proofs.YtchjknbideoieaaGreatDoor
