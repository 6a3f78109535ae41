/- The sum of bytes (FIPS 180-4), as the program and as the reference reckon it: plain laws. No program in sight. -/
import GoSem.Core.Utf8
namespace Go.Proofs.YtdlhabldjdkfbaaDoor.Pure
set_option linter.unusedVariables false
set_option linter.unusedSimpArgs false

/-- Turned to the left. -/
def rotl (x : UInt32) (k : UInt32) : UInt32 := (x <<< k) ||| (x >>> (32 - k))
def chP (b c d : UInt32) : UInt32 := (b &&& c) ||| (~~~b &&& d)
def chR (b c d : UInt32) : UInt32 := (b &&& c) ^^^ (~~~b &&& d)
def majP (b c d : UInt32) : UInt32 := (b &&& c) ||| (b &&& d) ||| (c &&& d)
def majR (b c d : UInt32) : UInt32 := (b &&& c) ^^^ (b &&& d) ^^^ (c &&& d)
theorem ch_same (b c d : UInt32) : chP b c d = chR b c d := by
  unfold chP chR
  apply UInt32.toBitVec_inj.1
  ext i hi
  simp
  cases b.toBitVec[i] <;> cases c.toBitVec[i] <;> cases d.toBitVec[i] <;> rfl
theorem maj_same (b c d : UInt32) : majP b c d = majR b c d := by
  unfold majP majR
  apply UInt32.toBitVec_inj.1
  ext i hi
  simp
  cases b.toBitVec[i] <;> cases c.toBitVec[i] <;> cases d.toBitVec[i] <;> rfl
/-- A round's function and constant. -/
def mixP (t : Nat) (b c d : UInt32) : UInt32 × UInt32 :=
  if t < 20 then (chP b c d, 0x5a827999) else if t < 40 then (b ^^^ c ^^^ d, 0x6ed9eba1) else if t < 60 then (majP b c d, 0x8f1bbcdc) else (b ^^^ c ^^^ d, 0xca62c1d6)
theorem mix_ref (t : Nat) (b c d : UInt32) : mixP t b c d = if t < 20 then (chR b c d, 0x5a827999) else if t < 40 then (b ^^^ c ^^^ d, 0x6ed9eba1) else if t < 60 then (majR b c d, 0x8f1bbcdc) else (b ^^^ c ^^^ d, 0xca62c1d6) := by
  unfold mixP; rw [ch_same, maj_same]

/-- A state: five numbers. -/
structure St where
  a : UInt32
  b : UInt32
  c : UInt32
  d : UInt32
  e : UInt32
def roundS (t : Nat) (w : UInt32) (s : St) : St :=
  ⟨rotl s.a 5 + (mixP t s.b s.c s.d).1 + s.e + (mixP t s.b s.c s.d).2 + w, s.a, rotl s.b 30, s.c, s.d⟩
def roundsS (w : List UInt32) : Nat → St → St
  | 0, s => s
  | t + 1, s => roundS t (w.getD t 0) (roundsS w t s)
def addS (s x : St) : St := ⟨s.a + x.a, s.b + x.b, s.c + x.c, s.d + x.d, s.e + x.e⟩
/-- The number of four bytes. -/
def word4 (l : List UInt8) : UInt32 := ((l.getD 0 0).toUInt32 <<< 24) ||| ((l.getD 1 0).toUInt32 <<< 16) ||| ((l.getD 2 0).toUInt32 <<< 8) ||| (l.getD 3 0).toUInt32
/-- The words of the first t rounds of a block. -/
def sched (bl : List UInt8) : Nat → List UInt32
  | 0 => []
  | t + 1 => let w := sched bl t; w ++ [if t < 16 then word4 (bl.drop (4 * t)) else rotl (w.getD (t - 3) 0 ^^^ w.getD (t - 8) 0 ^^^ w.getD (t - 14) 0 ^^^ w.getD (t - 16) 0) 1]
theorem sched_len (bl : List UInt8) : ∀ t, (sched bl t).length = t
  | 0 => rfl
  | t + 1 => by unfold sched; simp [sched_len bl t]
theorem sched_lo (bl : List UInt8) (t : Nat) (h : t < 16) : sched bl (t + 1) = sched bl t ++ [word4 (bl.drop (4 * t))] := by
  show sched bl t ++ [if t < 16 then word4 (bl.drop (4 * t)) else rotl ((sched bl t).getD (t - 3) 0 ^^^ (sched bl t).getD (t - 8) 0 ^^^ (sched bl t).getD (t - 14) 0 ^^^ (sched bl t).getD (t - 16) 0) 1] = _
  rw [if_pos h]
theorem sched_hi (bl : List UInt8) (t : Nat) (h : ¬ t < 16) : sched bl (t + 1) = sched bl t ++ [rotl ((sched bl t).getD (t - 3) 0 ^^^ (sched bl t).getD (t - 8) 0 ^^^ (sched bl t).getD (t - 14) 0 ^^^ (sched bl t).getD (t - 16) 0) 1] := by
  show sched bl t ++ [if t < 16 then word4 (bl.drop (4 * t)) else rotl ((sched bl t).getD (t - 3) 0 ^^^ (sched bl t).getD (t - 8) 0 ^^^ (sched bl t).getD (t - 14) 0 ^^^ (sched bl t).getD (t - 16) 0) 1] = _
  rw [if_neg h]
def blockS (s : St) (bl : List UInt8) : St := addS s (roundsS (sched bl 80) 80 s)
/-- What is laid behind a text: a bit, zeros up to 56 of 64, its length in bits. -/
def padN (n : Nat) : Nat := (119 - n % 64) % 64
def lenB (n : Nat) : List UInt8 := (List.range 8).map fun i => UInt8.ofNat (n * 8 / 2 ^ (56 - 8 * i))
def padded (l : List UInt8) : List UInt8 := l ++ 128 :: List.replicate (padN l.length) 0 ++ lenB l.length
theorem padded_len (l : List UInt8) : (padded l).length % 64 = 0 := by
  unfold padded lenB padN
  simp
  omega
/-- Block by block. -/
def blocksS (m : List UInt8) : Nat → St
  | 0 => ⟨0x67452301, 0xefcdab89, 0x98badcfe, 0x10325476, 0xc3d2e1f0⟩
  | k + 1 => blockS (blocksS m k) ((m.drop (64 * k)).take 64)
def byteS (s : St) (i : Nat) : UInt8 :=
  let h := if i / 4 = 0 then s.a else if i / 4 = 1 then s.b else if i / 4 = 2 then s.c else if i / 4 = 3 then s.d else s.e
  (h >>> UInt32.ofNat (24 - 8 * (i % 4))).toUInt8
def sumS (l : List UInt8) : List UInt8 := (List.range 20).map (byteS (blocksS (padded l) ((padded l).length / 64)))
theorem sumS_len (l : List UInt8) : (sumS l).length = 20 := by simp [sumS]

end Go.Proofs.YtdlhabldjdkfbaaDoor.Pure
