/-
  THE DIGEST (layer 2), in plain Lean: words are numbers below 2^32. It speaks of no program.
-/
import Derived.Test.YthlkmofemnepbaaRows
namespace Go.Proofs.Ythlkmofemnepbaa

def M32 : Nat := 4294967296
def rotr (x n : Nat) : Nat := (x >>> n ||| x <<< (32 - n)) % M32
def shaK : List Nat := [0x428a2f98, 0x71374491, 0xb5c0fbcf, 0xe9b5dba5, 0x3956c25b, 0x59f111f1, 0x923f82a4, 0xab1c5ed5, 0xd807aa98, 0x12835b01, 0x243185be, 0x550c7dc3, 0x72be5d74, 0x80deb1fe, 0x9bdc06a7, 0xc19bf174, 0xe49b69c1, 0xefbe4786, 0x0fc19dc6, 0x240ca1cc, 0x2de92c6f, 0x4a7484aa, 0x5cb0a9dc, 0x76f988da, 0x983e5152, 0xa831c66d, 0xb00327c8, 0xbf597fc7, 0xc6e00bf3, 0xd5a79147, 0x06ca6351, 0x14292967, 0x27b70a85, 0x2e1b2138, 0x4d2c6dfc, 0x53380d13, 0x650a7354, 0x766a0abb, 0x81c2c92e, 0x92722c85, 0xa2bfe8a1, 0xa81a664b, 0xc24b8b70, 0xc76c51a3, 0xd192e819, 0xd6990624, 0xf40e3585, 0x106aa070, 0x19a4c116, 0x1e376c08, 0x2748774c, 0x34b0bcb5, 0x391c0cb3, 0x4ed8aa4a, 0x5b9cca4f, 0x682e6ff3, 0x748f82ee, 0x78a5636f, 0x84c87814, 0x8cc70208, 0x90befffa, 0xa4506ceb, 0xbef9a3f7, 0xc67178f2]
def shaH0 : List Nat := [0x6a09e667, 0xbb67ae85, 0x3c6ef372, 0xa54ff53a, 0x510e527f, 0x9b05688c, 0x1f83d9ab, 0x5be0cd19]

/-- A word of four bytes, the highest one first. -/
def word4 (a b c d : Nat) : Nat := ((a * 256 + b) * 256 + c) * 256 + d
/-- The first sixteen words of a block. -/
def words16 : Nat → List Nat → List Nat
  | 0, _ => []
  | n + 1, a :: b :: c :: d :: r => word4 a b c d :: words16 n r
  | _ + 1, _ => []

def sig0 (x : Nat) : Nat := rotr x 7 ^^^ rotr x 18 ^^^ x >>> 3
def sig1 (y : Nat) : Nat := rotr y 17 ^^^ rotr y 19 ^^^ y >>> 10
/-- One more word; the list is held with the last one first. -/
def nextWord (rev : List Nat) : Nat := (rev.getD 15 0 + rev.getD 6 0 + sig0 (rev.getD 14 0) + sig1 (rev.getD 1 0)) % M32
def moreWords : Nat → List Nat → List Nat
  | 0, rev => rev
  | n + 1, rev => moreWords n (nextWord rev :: rev)
/-- The sixty-four words of a block. -/
def schedule (b : List Nat) : List Nat := (moreWords 48 (words16 16 b).reverse).reverse

def bsig0 (a : Nat) : Nat := rotr a 2 ^^^ rotr a 13 ^^^ rotr a 22
def bsig1 (e : Nat) : Nat := rotr e 6 ^^^ rotr e 11 ^^^ rotr e 25
def choose (e f g : Nat) : Nat := g ^^^ (e &&& (f ^^^ g))
def major (a b c : Nat) : Nat := a &&& b ||| c &&& (a ||| b)
/-- One round: k and x are the constant and the word. -/
def shaRound (s : List Nat) (k x : Nat) : List Nat :=
  match s with
  | [a, b, c, d, e, f, g, h] =>
    let t := (h + bsig1 e + choose e f g + k + x) % M32
    let u := (bsig0 a + major a b c) % M32
    [(t + u) % M32, a, b, c, (d + t) % M32, e, f, g]
  | _ => s
def shaRounds : List Nat → List Nat → List Nat → List Nat
  | s, k :: ks, x :: xs => shaRounds (shaRound s k x) ks xs
  | s, _, _ => s
/-- The eight words behind a block. -/
def shaBlock (s b : List Nat) : List Nat := List.zipWith (fun x y => (x + y) % M32) (shaRounds s shaK (schedule b)) s
def shaBlocks : Nat → List Nat → List Nat → List Nat
  | 0, s, _ => s
  | n + 1, s, b => shaBlocks n (shaBlock s (b.take 64)) (b.drop 64)

/-- How many bytes 0 are laid behind the byte 128. -/
def padZeros (n : Nat) : Nat := (119 - n % 64) % 64
def lenBytes (n : Nat) : List Nat := (List.range 8).map fun i => n * 8 / 2 ^ (8 * (7 - i)) % 256
def padded (b : List Nat) : List Nat := b ++ 128 :: (List.replicate (padZeros b.length) 0 ++ lenBytes b.length)
def wordBytes (x : Nat) : List Nat := [x / 16777216 % 256, x / 65536 % 256, x / 256 % 256, x % 256]
/-- The digest of bytes. -/
def sha (b : List Nat) : List Nat := (shaBlocks ((padded b).length / 64) shaH0 (padded b)).flatMap wordBytes

theorem sha_abc : (sha [97, 98, 99]).take 8 = [0xba, 0x78, 0x16, 0xbf, 0x8f, 0x01, 0xcf, 0xea] ∧ (sha [97, 98, 99]).drop 28 = [0xf2, 0x00, 0x15, 0xad] := by decide +kernel
theorem sha_nil : (sha []).take 4 = [0xe3, 0xb0, 0xc4, 0x42] := by decide +kernel
end Go.Proofs.Ythlkmofemnepbaa
