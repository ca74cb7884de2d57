/-
  What is proved here (plain law): padding, the digest of bytes, what a state has come to. No program in sight.
-/
import Derived.Test.YtjkcdnangmjoeaaDoorShaLaw
namespace Go.Proofs.YtjkcdnangmjoeaaDoor

/-- how many bytes 0 stand behind the 128 -/
def padN (n : Nat) : Nat := (119 - n % 64) % 64
def be8 (n : Nat) : List UInt8 := (List.range 8).map (fun i => UInt8.ofNat (n / 2 ^ (56 - 8 * i)))
def tailOf (n : Nat) : List UInt8 := 128 :: (List.replicate (padN n) 0 ++ be8 (n * 8))
def padded (bs : List UInt8) : List UInt8 := bs ++ tailOf bs.length
theorem be8_length (n : Nat) : (be8 n).length = 8 := by simp [be8]
theorem tail_length (n : Nat) : (tailOf n).length = 9 + padN n := by simp [tailOf, be8_length]; omega
theorem padded_mod (bs : List UInt8) : (padded bs).length % 64 = 0 := by
  unfold padded
  rw [List.length_append, tail_length]
  unfold padN
  omega
def wB (x : UInt32) : List UInt8 := [(x >>> 24).toUInt8, (x >>> 16).toUInt8, (x >>> 8).toUInt8, x.toUInt8]
def digB (s : St) : List UInt8 := wB s.a ++ wB s.b ++ wB s.c ++ wB s.d ++ wB s.e ++ wB s.f ++ wB s.g ++ wB s.h
theorem digB_length (s : St) : (digB s).length = 32 := by simp [digB, wB]
/-- the words behind bytes' full blocks -/
def wordsOf (bs : List UInt8) : St := blocksS st0 bs (bs.length / 64)
/-- what stands in the block that is not full yet -/
def partOf (bs : List UInt8) : List UInt8 := bs.drop (64 * (bs.length / 64))
/-- the digest of bytes -/
def shaOf (bs : List UInt8) : List UInt8 := digB (wordsOf (padded bs))
theorem shaOf_length (bs : List UInt8) : (shaOf bs).length = 32 := digB_length _
theorem partOf_length (bs : List UInt8) : (partOf bs).length = bs.length % 64 := by unfold partOf; rw [List.length_drop]; omega
theorem blocksS_app (s : St) (bs x : List UInt8) : ∀ n, 64 * n ≤ bs.length → blocksS s (bs ++ x) n = blocksS s bs n
  | 0, _ => rfl
  | n + 1, h => by
    rw [blocksS, blocksS, blocksS_app s bs x n (by omega), List.drop_append_of_le_length (by omega), List.take_append_of_le_length (by rw [List.length_drop]; omega)]
theorem words_nil : wordsOf [] = st0 := rfl
theorem part_nil : partOf [] = [] := rfl
/-- bytes that do not fill the block -/
theorem put_few (bs x : List UInt8) (h : bs.length % 64 + x.length < 64) : wordsOf (bs ++ x) = wordsOf bs ∧ partOf (bs ++ x) = partOf bs ++ x := by
  have hd : (bs ++ x).length / 64 = bs.length / 64 := by rw [List.length_append]; omega
  refine ⟨?_, ?_⟩
  · unfold wordsOf; rw [hd, blocksS_app _ _ _ _ (by omega)]
  · unfold partOf; rw [hd, List.drop_append_of_le_length (by omega)]
/-- bytes that fill the block -/
theorem put_fill (bs x : List UInt8) (h : bs.length % 64 + x.length = 64) (_h0 : 0 < x.length) : wordsOf (bs ++ x) = blockS (wordsOf bs) (partOf bs ++ x) ∧ partOf (bs ++ x) = [] := by
  have hd : (bs ++ x).length / 64 = bs.length / 64 + 1 := by rw [List.length_append]; omega
  have hx : ((bs ++ x).drop (64 * (bs.length / 64))).take 64 = partOf bs ++ x := by
    unfold partOf
    rw [List.drop_append_of_le_length (by omega)]
    exact List.take_of_length_le (by rw [List.length_append, List.length_drop]; omega)
  refine ⟨?_, ?_⟩
  · unfold wordsOf
    rw [hd, blocksS, blocksS_app _ _ _ _ (by omega), hx]
  · unfold partOf
    exact List.drop_eq_nil_of_le (by rw [hd, List.length_append]; omega)
/-- a whole block behind whole blocks -/
theorem put_block (bs x : List UInt8) (h : bs.length % 64 = 0) (hx : x.length = 64) : wordsOf (bs ++ x) = blockS (wordsOf bs) x := by
  have h1 := (put_fill bs x (by omega) (by omega)).1
  have h2 : partOf bs = [] := List.eq_nil_of_length_eq_zero (by rw [partOf_length]; exact h)
  rw [h1, h2, List.nil_append]
theorem shown_abc : (shaOf [97, 98, 99]).take 8 = [0xba, 0x78, 0x16, 0xbf, 0x8f, 0x01, 0xcf, 0xea] := by decide +kernel
theorem shown_nil : (shaOf []).take 8 = [0xe3, 0xb0, 0xc4, 0x42, 0x98, 0xfc, 0x1c, 0x14] := by decide +kernel
end Go.Proofs.YtjkcdnangmjoeaaDoor
