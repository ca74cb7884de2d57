/-
  What is proved here (plain law): words of 32 bits, SHA-256's block by two descriptions of one meaning, padding. No program in sight.
-/
import Derived.Test.YtjkcdnangmjoeaaDoorMem
namespace Go.Proofs.YtjkcdnangmjoeaaDoor

def rotr (x k : UInt32) : UInt32 := (x >>> k) ||| (x <<< (32 - k))
def sg0 (x : UInt32) : UInt32 := rotr x 7 ^^^ rotr x 18 ^^^ (x >>> 3)
def sg1 (x : UInt32) : UInt32 := rotr x 17 ^^^ rotr x 19 ^^^ (x >>> 10)
def SG0 (x : UInt32) : UInt32 := rotr x 2 ^^^ rotr x 13 ^^^ rotr x 22
def SG1 (x : UInt32) : UInt32 := rotr x 6 ^^^ rotr x 11 ^^^ rotr x 25
def chW (e f g : UInt32) : UInt32 := g ^^^ (e &&& (f ^^^ g))
def majW (a b c : UInt32) : UInt32 := (a &&& b) ||| (c &&& (a ||| b))
theorem ch_eq (e f g : UInt32) : (e &&& f) ^^^ (~~~e &&& g) = chW e f g := by
  unfold chW
  apply UInt32.eq_of_toBitVec_eq
  apply BitVec.eq_of_getLsbD_eq
  intro i hi
  simp only [UInt32.toBitVec_xor, UInt32.toBitVec_and, UInt32.toBitVec_not, BitVec.getLsbD_xor, BitVec.getLsbD_and, BitVec.getLsbD_not]
  cases e.toBitVec.getLsbD i <;> cases f.toBitVec.getLsbD i <;> cases g.toBitVec.getLsbD i <;> simp [hi]
theorem maj_eq (a b c : UInt32) : (a &&& b) ^^^ (a &&& c) ^^^ (b &&& c) = majW a b c := by
  unfold majW
  apply UInt32.eq_of_toBitVec_eq
  apply BitVec.eq_of_getLsbD_eq
  intro i hi
  simp only [UInt32.toBitVec_xor, UInt32.toBitVec_and, UInt32.toBitVec_or, BitVec.getLsbD_xor, BitVec.getLsbD_and, BitVec.getLsbD_or]
  cases a.toBitVec.getLsbD i <;> cases b.toBitVec.getLsbD i <;> cases c.toBitVec.getLsbD i <;> rfl
def kList : List UInt32 := [0x428a2f98, 0x71374491, 0xb5c0fbcf, 0xe9b5dba5, 0x3956c25b, 0x59f111f1, 0x923f82a4, 0xab1c5ed5,
  0xd807aa98, 0x12835b01, 0x243185be, 0x550c7dc3, 0x72be5d74, 0x80deb1fe, 0x9bdc06a7, 0xc19bf174,
  0xe49b69c1, 0xefbe4786, 0x0fc19dc6, 0x240ca1cc, 0x2de92c6f, 0x4a7484aa, 0x5cb0a9dc, 0x76f988da,
  0x983e5152, 0xa831c66d, 0xb00327c8, 0xbf597fc7, 0xc6e00bf3, 0xd5a79147, 0x06ca6351, 0x14292967,
  0x27b70a85, 0x2e1b2138, 0x4d2c6dfc, 0x53380d13, 0x650a7354, 0x766a0abb, 0x81c2c92e, 0x92722c85,
  0xa2bfe8a1, 0xa81a664b, 0xc24b8b70, 0xc76c51a3, 0xd192e819, 0xd6990624, 0xf40e3585, 0x106aa070,
  0x19a4c116, 0x1e376c08, 0x2748774c, 0x34b0bcb5, 0x391c0cb3, 0x4ed8aa4a, 0x5b9cca4f, 0x682e6ff3,
  0x748f82ee, 0x78a5636f, 0x84c87814, 0x8cc70208, 0x90befffa, 0xa4506ceb, 0xbef9a3f7, 0xc67178f2]
def kAt (i : Nat) : UInt32 := kList[i]?.getD 0
/-- four bytes as a word -/
def be4 (a b c d : UInt8) : UInt32 := (a.toUInt32 <<< 24) ||| (b.toUInt32 <<< 16) ||| (c.toUInt32 <<< 8) ||| d.toUInt32
/-- a block's first 16 words -/
def word0 (p : List UInt8) (i : Nat) : UInt32 := be4 (p[4 * i]?.getD 0) (p[4 * i + 1]?.getD 0) (p[4 * i + 2]?.getD 0) (p[4 * i + 3]?.getD 0)
/-- the words, n behind the first 16 -/
def sched (p : List UInt8) : Nat → List UInt32
  | 0 => (List.range 16).map (word0 p)
  | n + 1 => let l := sched p n; l ++ [l[n]?.getD 0 + l[n + 9]?.getD 0 + sg0 (l[n + 1]?.getD 0) + sg1 (l[n + 14]?.getD 0)]
def wordAt (p : List UInt8) (i : Nat) : UInt32 := (sched p 48)[i]?.getD 0
structure St where
  a : UInt32
  b : UInt32
  c : UInt32
  d : UInt32
  e : UInt32
  f : UInt32
  g : UInt32
  h : UInt32
def roundT (s : St) (k w : UInt32) : UInt32 := s.h + SG1 s.e + chW s.e s.f s.g + k + w
def roundU (s : St) : UInt32 := SG0 s.a + majW s.a s.b s.c
def round1 (s : St) (k w : UInt32) : St := ⟨roundT s k w + roundU s, s.a, s.b, s.c, s.d + roundT s k w, s.e, s.f, s.g⟩
def rounds (p : List UInt8) (s : St) : Nat → St
  | 0 => s
  | n + 1 => round1 (rounds p s n) (kAt n) (wordAt p n)
def addS (s t : St) : St := ⟨s.a + t.a, s.b + t.b, s.c + t.c, s.d + t.d, s.e + t.e, s.f + t.f, s.g + t.g, s.h + t.h⟩
def blockS (s : St) (p : List UInt8) : St := addS s (rounds p s 64)
def st0 : St := ⟨0x6a09e667, 0xbb67ae85, 0x3c6ef372, 0xa54ff53a, 0x510e527f, 0x9b05688c, 0x1f83d9ab, 0x5be0cd19⟩
/-- the state behind n blocks -/
def blocksS (s : St) (bs : List UInt8) : Nat → St
  | 0 => s
  | n + 1 => blockS (blocksS s bs n) ((bs.drop (64 * n)).take 64)
theorem sched_length (p : List UInt8) : ∀ n, (sched p n).length = 16 + n
  | 0 => by simp [sched]
  | n + 1 => by rw [sched, List.length_append, sched_length p n]; simp; omega
theorem sched_stable (p : List UInt8) (i n : Nat) (hi : i < 16 + n) : ∀ m, (sched p (n + m))[i]? = (sched p n)[i]?
  | 0 => rfl
  | m + 1 => by
    rw [← Nat.add_assoc, sched, List.getElem?_append_left (by rw [sched_length]; omega)]
    exact sched_stable p i n hi m
theorem wordAt_sched (p : List UInt8) (i n : Nat) (hi : i < 16 + n) (hn : n ≤ 48) : (sched p n)[i]?.getD 0 = wordAt p i := by
  unfold wordAt
  have := sched_stable p i n hi (48 - n)
  rw [show n + (48 - n) = 48 from by omega] at this
  rw [this]
theorem wordAt_first (p : List UInt8) (i : Nat) (hi : i < 16) : wordAt p i = word0 p i := by
  rw [← wordAt_sched p i 0 (by omega) (by omega)]
  simp [sched, List.getElem?_map, List.getElem?_range, hi]
theorem wordAt_next (p : List UInt8) (n : Nat) (hn : n < 48) : wordAt p (16 + n) = wordAt p n + wordAt p (n + 9) + sg0 (wordAt p (n + 1)) + sg1 (wordAt p (n + 14)) := by
  rw [← wordAt_sched p (16 + n) (n + 1) (by omega) (by omega), sched]
  rw [List.getElem?_append_right (by rw [sched_length]; omega), sched_length, Nat.sub_self]
  rw [wordAt_sched p n n (by omega) (by omega), wordAt_sched p (n + 9) n (by omega) (by omega), wordAt_sched p (n + 1) n (by omega) (by omega), wordAt_sched p (n + 14) n (by omega) (by omega)]
  rfl
end Go.Proofs.YtjkcdnangmjoeaaDoor
