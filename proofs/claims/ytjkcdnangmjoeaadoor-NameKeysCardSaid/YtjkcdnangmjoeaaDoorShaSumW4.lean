/-
  What is proved here: what sha.Sum comes to, at this seat's numbers. Conditions: the bytes' length; the table of constants.
-/
import Derived.Test.YtjkcdnangmjoeaaDoorShaSumW2
namespace Go.Proofs.YtjkcdnangmjoeaaDoor
open Go.RowKit

/-- the value reads as a list of byte slices -/
def LL (w : World) (B : Nat) (v : Value) (ls : List (List UInt8)) : Prop := ∃ vs : List Value, Sl w B 1 v ls.length vs ∧ vs.length = ls.length ∧ ∀ (i : Nat) (u : Value) (l : List UInt8), vs[i]? = some u → ls[i]? = some l → SB w B u l
theorem LL.nil_ (w : World) (B : Nat) : LL w B (.slice none 0 0) [] := ⟨[], Sl.nil_ w B 1, rfl, fun i u l h => by simp at h⟩
/-- bytes that lie below the state's two blocks -/
theorem VS.old {w : World} {B P : Nat} {v : Value} {l : List UInt8} (h : SB w B v l) (hB : B ≤ w.heap.size) (hP : B ≤ P) (hr : ∀ k, rowP w P = some k → B ≤ k) : VS w P v l := by
  intro w' hw
  obtain ⟨A, c, rfl, h1, h2, hr0⟩ := h
  refine ⟨A, c, rfl, h1, h2, hr0.1, hr0.2.1, fun ad e hn => ?_⟩
  obtain ⟨hs, hb, hc⟩ := hr0.2.2 ad e hn
  exact ⟨hs, by omega, fun j u hu => (World.cell?_of_block (a := ⟨ad.block, ad.off + j, none⟩) (hw ad.block (by omega) (by omega) (fun e2 => by have := hr _ e2; omega))).trans (hc j u hu)⟩
theorem flat_take (ls : List (List UInt8)) (i : Nat) (l : List UInt8) (h : ls[i]? = some l) : (ls.take (i + 1)).flatten = (ls.take i).flatten ++ l := by
  rw [List.take_add_one, h]
  simp
theorem flat_le (ls : List (List UInt8)) (i : Nat) : (ls.take i).flatten.length ≤ ls.flatten.length := by
  conv => rhs; rw [← List.take_append_drop i ls]
  rw [List.flatten_append, List.length_append]
  omega
set_option maxRecDepth 100000 in
set_option maxHeartbeats 2000000 in
theorem kSum_any (ls : List (List UInt8)) (v : Value) (w : World) (h : LL w w.heap.size v ls) (hl : ls.flatten.length ≤ 1152921504606846000) (hk : KTab w 1) (h1 : 1 < w.heap.size) :
    Calls Tryd.prog 40 #[v] w fun e w' => e = .returned (digV (shaOf ls.flatten)) ∧ Below w.heap.size w w' := by
  obtain ⟨vs, ⟨A, c, rfl, hlc, hcm, hr⟩, hvl, hvs⟩ := h
  have hcm2 : c ≤ 9223372036854775807 := by unfold maxLen at hcm; omega
  clear hcm
  have HV := Lib.hid hvs
  clear hvs
  go_enter Tryd.func40, Tryd.ntmps40
  go_upto_region 1 with fail
  generalize hWA : w.alloc _ = wA
  have rR : wA.heap[w.heap.size]? = some (rowO (dgA (List.replicate 32 0))) := by rw [← hWA]; exact (heap_alloc_new w _).trans (by kernel_rfl)
  have bA : Below w.heap.size w wA := by rw [← hWA]; exact balloc (bself w) _
  have zA : wA.heap.size = w.heap.size + 1 := by rw [← hWA]; simp
  clear hWA
  go_wp2_with fail
  refine (kBegin_any _).mono ?_
  rintro e w1 ⟨rfl, hb1⟩
  have z1 := hb1.size
  go_upto_region 2 with fail
  generalize hW2 : w1.alloc _ = w2
  have rX : w2.heap[w1.heap.size]? = some beginO := by rw [← hW2]; exact heap_alloc_new w1 _
  have b12 : Below w1.heap.size w1 w2 := by rw [← hW2]; exact balloc (bself w1) _
  clear hW2
  have hst2 : StAt w2 wA.heap.size w1.heap.size [] := St0.at rX z1
  have hbA2 : Below wA.heap.size wA w2 := hb1.trans (b12.mono z1)
  clear rX b12
  go_wp2_with fail
  go_loopw [9] (fun iv wy => ∃ i : Nat, iv = .int .i64 i ∧ i ≤ ls.length ∧ StAt wy wA.heap.size w1.heap.size (ls.take i).flatten ∧ Below wA.heap.size wA wy) (fun iv _ => ls.length - (intOf iv).toNat)
  case atStart => exact ⟨0, rfl, Nat.zero_le _, hst2, hbA2⟩
  case round =>
    obtain ⟨i, rfl, hi, hst, hb⟩ := hrel
    clear hst2 hbA2
    have bw : Below w.heap.size w wr := bA.trans (hb.mono bA.size)
    have hzw := bw.size
    have hzA := hb.size
    by_cases hlt : i < ls.length
    · obtain ⟨b, o, rfl, hbl, hc⟩ := hr.at_ (by omega)
      obtain ⟨u, hu⟩ : ∃ u, vs[i]? = some u := ⟨_, List.getElem?_eq_getElem (by omega)⟩
      obtain ⟨l, hL⟩ : ∃ l, ls[i]? = some l := ⟨_, List.getElem?_eq_getElem hlt⟩
      have hsb := HV.out i u l hu hL
      have cU := (bw.cell (p := ⟨b, o + i, none⟩) hbl).trans (hc i u hu)
      have hFT := flat_take ls i l hL
      have hFL := flat_le ls (i + 1)
      rw [hFT, List.length_append] at hFL
      have hvsU : VS wr w1.heap.size u l := VS.old (B := w.heap.size) (hsb.below bw) hzw (by omega) (fun k hk => by have := (hst.row k hk).1; omega)
      have HP := Lib.hid (kPut_any wA.heap.size w1.heap.size (ls.take i).flatten l u wr hst hvsU (by omega) (hk.on bw h1) (by omega) hzA)
      have HFT := Lib.hid hFT
      obtain ⟨Au, cu, rfl, _, _, _⟩ := hsb
      clear hst hvsU hFT hFL hc hu hL
      go_wp2_with fail
      refine HP.out.mono ?_
      rintro e2 w5 ⟨rfl, hst5, _, _, hb5⟩
      rw [← HFT.out] at hst5
      have hb6 := hb.trans hb5
      go_wp2_with fail
      go_roundw
      case rel => exact ⟨i + 1, by go_num, by omega, hst5, hb6⟩
      case measure => simp [intOf]; omega
    · have hil : i = ls.length := by omega
      subst hil
      rw [List.take_length] at hst
      have HS := Lib.hid (kStSum_any wA.heap.size w1.heap.size ls.flatten wr hst hl (hk.on bw h1) (by omega))
      have hRR : wr.heap[w.heap.size]? = some (rowO (dgA (List.replicate 32 0))) := (hb.block w.heap.size (by omega)).trans rR
      have HRR := Lib.hid hRR
      clear hst hRR
      go_wp2_with fail
      refine HS.out.mono ?_
      rintro e9 w9 ⟨he, hb9⟩
      obtain ⟨q, hq⟩ : ∃ q, q = dgA (shaOf ls.flatten) := ⟨_, rfl⟩
      have hqn : q.size = 32 := by rw [hq, dgA_size, shaOf_length]
      have hq1 : ∀ v ∈ q.toList, v.oneCell' = true := by rw [hq]; exact dgA_one _
      rw [show digV (shaOf ls.flatten) = .agg q from by rw [hq]] at he
      subst he
      have h9 : w9.heap[w.heap.size]? = some (rowO (dgA (List.replicate 32 0))) := (hb9.block w.heap.size (by omega)).trans HRR.out
      have HR9 := Lib.hid (setRow_heap w9 w.heap.size _ q _ _ h9)
      have HH := Lib.hid (And.intro h9 (And.intro (show (dgA (List.replicate 32 0)).size = 32 by rw [dgA_size]; rfl) (And.intro hqn hq1)))
      have HB9 : Hid (Below w.heap.size w (w9.setRow w.heap.size q)) := Lib.hid (below_setRow (bstep bw hb9) (Nat.le_refl _) q)
      have HE : Hid (q = dgA (shaOf ls.flatten)) := Lib.hid hq
      clear hq hqn hq1 h9
      go_wp2_with (refine wl_storeD rfl (.tmp 2) (.tmp 16) rfl _ rfl _ q rfl HH.out.1 HH.out.2.1 HH.out.2.2.1 HH.out.2.2.2 ?_)
      exact bodyPost_ret (v := .agg q) (res_dig Tryd.results40 _ _ _ q rfl HR9.out HH.out.2.2.1) rfl ⟨by rw [HE.out], HB9.out⟩
end Go.Proofs.YtjkcdnangmjoeaaDoor
