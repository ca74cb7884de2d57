/-
  What is proved here: what Seek of the reference comes to, at this seat's numbers; the call of the statement BlockSeeks returns true and turns nothing that was there. No condition.
-/
import Derived.Test.YtoccmedadiangaaBlockW15
import Derived.DeepKeys
namespace Go.Proofs.Ytoccmedadiangaa
open Go.RowKit

set_option maxRecDepth 100000 in
set_option maxHeartbeats 2000000 in
theorem rSeek_any (v : Value) (b : List UInt8) (user : ByteArray) (seq : UInt64) (w : World) (hv : SB w w.heap.size v b) (hl : b.length ≤ 1073741824) :
    Calls Try.prog 17 #[v, .string user, .int .u64 (seq.toNat : Int)] w (SeekPost w b (keyQ user seq)) := by
  obtain ⟨W0, hW0⟩ : ∃ W0, W0 = w.alloc (.cells #[.string ⟨#[]⟩, .int .u64 0, .int .u8 0, .string ⟨#[]⟩] 40) := ⟨_, rfl⟩
  have b0 : Below w.heap.size w W0 := by rw [hW0]; exact balloc (bself w) _
  have q3 : W0.heap[w.heap.size]? = some (.cells #[.string ⟨#[]⟩, .int .u64 0, .int .u8 0, .string ⟨#[]⟩] 40 (0, 0)) := by rw [hW0]; exact heap_alloc_new w _
  have z0 : w.heap.size < W0.heap.size := (Array.getElem?_eq_some_iff.1 q3).1
  have hv0 := hv.on b0
  obtain ⟨l, f, hf, hrb⟩ := readB_two b
  unfold SeekPost
  rw [hrb]
  dsimp only
  have HR := Lib.hid (rRead_is hv0 hl hrb (f : Int) rfl)
  obtain ⟨x, hx⟩ : ∃ x, x = (firstE l (keyQ user seq)).getD ent0 := ⟨_, rfl⟩
  obtain ⟨ok, hok⟩ : ∃ ok, ok = (firstE l (keyQ user seq)).isSome := ⟨_, rfl⟩
  have HF := Lib.hid (fun v W (hv : SE W W.heap.size v l) => rFirst_any v l user seq W hv)
  rw [← hx, ← hok] at HF ⊢
  clear hx hok hrb hf hv0 hv
  go_enter Try.func17, Try.ntmps17
  go_wp2_with fail
  rw [← hW0]
  clear hW0
  refine HR.out.mono ?_
  rintro _ w1 ⟨r1, rfl, ho1, hb1⟩
  have b1 := bstep b0 hb1
  go_wp2_with fail
  refine (HF.out r1 w1 ho1.se).mono ?_
  rintro _ w2 ⟨rfl, hb2⟩
  have b2 := bstep b1 hb2
  have p3 := ((bstep hb1 hb2).block _ z0).trans q3
  have b2a := balloc b2 (.cells #[.string x.user, .int .u64 (x.seq.toNat : Int), .int .u8 (x.kind.toNat : Int), .string x.value] 40)
  have p3' := ((balloc (bself w2) (.cells #[.string x.user, .int .u64 (x.seq.toNat : Int), .int .u8 (x.kind.toNat : Int), .string x.value] 40)).block _ (Array.getElem?_eq_some_iff.1 p3).1).trans p3
  have p4 := heap_alloc_new w2 (.cells #[.string x.user, .int .u64 (x.seq.toNat : Int), .int .u8 (x.kind.toNat : Int), .string x.value] 40)
  have hz2 : w.heap.size < w2.heap.size := (Array.getElem?_eq_some_iff.1 p3).1
  clear HR HF ho1 hb1 hb2 q3 p3
  go_upto_region 3 with fail
  generalize World.alloc w2 _ = W3 at p3' p4 b2a ⊢
  obtain ⟨⟨x0, x1, x2, x3⟩, y0, y1, y2, y3⟩ := cells4 p3'
  obtain ⟨⟨k0, k1, k2, k3⟩, _, _, _, _⟩ := cells4 p4
  clear p3' p4
  go_wp2_with fail
  exact bodyPost_ret (v := .tuple #[.agg #[.string x.user, .int .u64 (x.seq.toNat : Int), .int .u8 (x.kind.toNat : Int), .string x.value], .bool ok, .int .i64 (f : Int)]) (by simp [results, Try.results17, go_sem, x0, x1, x2, x3] <;> rfl) rfl ⟨rfl, (((b2a.setCell (Nat.le_refl _) _).setCell (Nat.le_refl _) _).setCell (Nat.le_refl _) _).setCell (Nat.le_refl _) _⟩
set_option maxRecDepth 100000 in
set_option maxHeartbeats 2000000 in
theorem blockSeeks_any (v : Value) (b : List UInt8) (user : ByteArray) (seq : UInt64) (w : World) (hv : SB w w.heap.size v b) :
    Calls Try.prog 8 #[v, .string user, .int .u64 (seq.toNat : Int)] w fun e w' => e = .returned (.bool true) ∧ Below w.heap.size w w' := by
  have hv0 := Lib.hid hv
  obtain ⟨A, c, rfl, hlc, hcm, hr⟩ := hv
  have hcm' : c ≤ 9223372036854775807 := by unfold maxLen at hcm; omega
  clear hr hcm
  by_cases hl : 100000 < b.length
  · go_enter Try.func8, Try.ntmps8
    go_wp2_with fail
    refine (shown_any w).mono ?_
    rintro e w1 ⟨rfl, b1⟩
    go_wp2_with fail
    go_ret
    exact ⟨rfl, b1⟩
  · have HK := Lib.hid (fun W (hb : Below w.heap.size w W) => kSeek_any _ b user seq W (hv0.out.on hb) (by omega))
    have HR := Lib.hid (fun W (hb : Below w.heap.size w W) => rSeek_any _ b user seq W (hv0.out.on hb) (by omega))
    unfold SeekPost at HK HR
    obtain ⟨x, hx⟩ : ∃ x, x = (firstE (readB b).1 (keyQ user seq)).getD ent0 := ⟨_, rfl⟩
    obtain ⟨ok, hok⟩ : ∃ ok, ok = (firstE (readB b).1 (keyQ user seq)).isSome := ⟨_, rfl⟩
    obtain ⟨f, hf⟩ : ∃ f, f = (readB b).2 := ⟨_, rfl⟩
    rw [← hx, ← hok, ← hf] at HK HR
    clear hx hok hf
    go_enter Try.func8, Try.ntmps8
    go_wp2_with fail
    refine (shown_any w).mono ?_
    rintro e w1 ⟨rfl, b1⟩
    go_wp2_with fail
    refine (HK.out w1 b1).mono ?_
    rintro e w2 ⟨rfl, hb2⟩
    have b2 := bstep b1 hb2
    have b2a := balloc b2 (.cells #[.string x.user, .int .u64 (x.seq.toNat : Int), .int .u8 (x.kind.toNat : Int), .string x.value] 40)
    have r2 := heap_alloc_new w2 (.cells #[.string x.user, .int .u64 (x.seq.toNat : Int), .int .u8 (x.kind.toNat : Int), .string x.value] 40)
    go_wp2_with fail
    refine (HR.out _ b2a).mono ?_
    rintro e w3 ⟨rfl, hb3⟩
    have b3 := bstep b2a hb3
    have r3 := (hb3.block _ (by simp)).trans r2
    have z3 : w2.heap.size < w3.heap.size := (Array.getElem?_eq_some_iff.1 r3).1
    obtain ⟨⟨x0, x1, x2, x3⟩, _⟩ := cells4 r3
    clear HK HR r2 r3 hb2 hb3
    go_wp2_with fail
    go_ret
    exact ⟨ret_bool (by simp), balloc b3 _⟩
end Go.Proofs.Ytoccmedadiangaa
