/- SHA-256 by definition, on numbers: plain words and lemmas, no program in sight. -/
import Derived.Test.YtmpbgnopejeelaaBts
import Derived.Laws.BitsAllLaws
namespace Go.Proofs.Ytmpbgnopejeelaa
open Go.RowKit
set_option linter.unusedVariables false
set_option linter.unusedSimpArgs false
set_option maxRecDepth 100000
namespace Sh
def m32 (x : Nat) : Nat := x % 4294967296
def rr (x n : Nat) : Nat := (x >>> n) ||| ((x <<< (32 - n)) % 4294967296)
def sg0 (x : Nat) : Nat := (rr x 7 ^^^ rr x 18) ^^^ (x >>> 3)
def sg1 (x : Nat) : Nat := (rr x 17 ^^^ rr x 19) ^^^ (x >>> 10)
def up0 (x : Nat) : Nat := (rr x 2 ^^^ rr x 13) ^^^ rr x 22
def up1 (x : Nat) : Nat := (rr x 6 ^^^ rr x 11) ^^^ rr x 25
def ch (e f g : Nat) : Nat := (e &&& f) ^^^ ((4294967295 - e) &&& g)
def mj (a b c : Nat) : Nat := ((a &&& b) ^^^ (a &&& c)) ^^^ (b &&& c)
def KK : List Nat := [0x428a2f98, 0x71374491, 0xb5c0fbcf, 0xe9b5dba5, 0x3956c25b, 0x59f111f1, 0x923f82a4, 0xab1c5ed5, 0xd807aa98, 0x12835b01, 0x243185be, 0x550c7dc3, 0x72be5d74, 0x80deb1fe, 0x9bdc06a7, 0xc19bf174, 0xe49b69c1, 0xefbe4786, 0x0fc19dc6, 0x240ca1cc, 0x2de92c6f, 0x4a7484aa, 0x5cb0a9dc, 0x76f988da, 0x983e5152, 0xa831c66d, 0xb00327c8, 0xbf597fc7, 0xc6e00bf3, 0xd5a79147, 0x06ca6351, 0x14292967, 0x27b70a85, 0x2e1b2138, 0x4d2c6dfc, 0x53380d13, 0x650a7354, 0x766a0abb, 0x81c2c92e, 0x92722c85, 0xa2bfe8a1, 0xa81a664b, 0xc24b8b70, 0xc76c51a3, 0xd192e819, 0xd6990624, 0xf40e3585, 0x106aa070, 0x19a4c116, 0x1e376c08, 0x2748774c, 0x34b0bcb5, 0x391c0cb3, 0x4ed8aa4a, 0x5b9cca4f, 0x682e6ff3, 0x748f82ee, 0x78a5636f, 0x84c87814, 0x8cc70208, 0x90befffa, 0xa4506ceb, 0xbef9a3f7, 0xc67178f2]
def V0 : List Nat := [0x6a09e667, 0xbb67ae85, 0x3c6ef372, 0xa54ff53a, 0x510e527f, 0x9b05688c, 0x1f83d9ab, 0x5be0cd19]
/-- The i-th word of a block's bytes. -/
def word (b : List Nat) (i : Nat) : Nat := ((b.getD (4 * i) 0 * 256 + b.getD (4 * i + 1) 0) * 256 + b.getD (4 * i + 2) 0) * 256 + b.getD (4 * i + 3) 0
def nextW (w : List Nat) (i : Nat) : Nat := m32 (m32 (m32 (w.getD (i - 16) 0 + sg0 (w.getD (i - 15) 0)) + w.getD (i - 7) 0) + sg1 (w.getD (i - 2) 0))
/-- The first n words of a block. -/
def sched (b : List Nat) : Nat → List Nat
  | 0 => []
  | n + 1 => sched b n ++ [if n < 16 then word b n else nextW (sched b n) n]
def rnd (k w : Nat) (x : List Nat) : List Nat :=
  let t := m32 (m32 (m32 (m32 (x.getD 7 0 + up1 (x.getD 4 0)) + ch (x.getD 4 0) (x.getD 5 0) (x.getD 6 0)) + k) + w)
  let u := m32 (up0 (x.getD 0 0) + mj (x.getD 0 0) (x.getD 1 0) (x.getD 2 0))
  [m32 (t + u), x.getD 0 0, x.getD 1 0, x.getD 2 0, m32 (x.getD 3 0 + t), x.getD 4 0, x.getD 5 0, x.getD 6 0]
def rnds (w : List Nat) (v : List Nat) : Nat → List Nat
  | 0 => v
  | n + 1 => rnd (KK.getD n 0) (w.getD n 0) (rnds w v n)
def add8 (v x : List Nat) : List Nat := List.zipWith (fun a b => m32 (a + b)) v x
/-- A block more. -/
def step (v b : List Nat) : List Nat := add8 v (rnds (sched b 64) v 64)
/-- All blocks of so many bytes. -/
def blocks (v b : List Nat) : Nat → List Nat
  | 0 => v
  | n + 1 => blocks (step v (b.take 64)) (b.drop 64) n
def abc : List Nat := [97, 98, 99, 128] ++ List.replicate 52 0 ++ [0, 0, 0, 0, 0, 0, 0, 24]
theorem abc_is : step V0 abc = [0xba7816bf, 0x8f01cfea, 0x414140de, 0x5dae2223, 0xb00361a3, 0x96177a9c, 0xb410ff61, 0xf20015ad] := by decide +kernel
theorem m32_lt (x : Nat) : m32 x < 4294967296 := Nat.mod_lt _ (by decide)
end Sh
end Go.Proofs.Ytmpbgnopejeelaa
