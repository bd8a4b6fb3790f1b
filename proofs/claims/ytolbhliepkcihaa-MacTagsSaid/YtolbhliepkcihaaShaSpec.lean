/- SHA-256 in plain Lean, over natural numbers, and what it tells of "abc". -/
import Derived.Laws.BitsAllLaws
namespace Go.Proofs.Ytolbhliepkcihaa.Sha
def M : Nat := 4294967296
def rr (w n : Nat) : Nat := (w / 2 ^ n) ||| (w * 2 ^ (32 - n) % M)
def sig0 (w : Nat) : Nat := (rr w 7 ^^^ rr w 18) ^^^ w / 8
def sig1 (w : Nat) : Nat := (rr w 17 ^^^ rr w 19) ^^^ w / 1024
def big1 (e : Nat) : Nat := (rr e 6 ^^^ rr e 11) ^^^ rr e 25
def big0 (a : Nat) : Nat := (rr a 2 ^^^ rr a 13) ^^^ rr a 22
def ch (e f g : Nat) : Nat := (e &&& f) ^^^ ((4294967295 - e) &&& g)
def maj (a b c : Nat) : Nat := ((a &&& b) ^^^ (a &&& c)) ^^^ (b &&& c)
/-- the next word, of those that are there -/
def nextW (w : List Nat) (t : Nat) : Nat := (sig1 (w.getD (t - 2) 0) + w.getD (t - 7) 0 + sig0 (w.getD (t - 15) 0) + w.getD (t - 16) 0) % M
def moreW : Nat → List Nat → List Nat
  | 0, w => w
  | n + 1, w => moreW n (w ++ [nextW w w.length])
structure St where
  a : Nat
  b : Nat
  c : Nat
  d : Nat
  e : Nat
  f : Nat
  g : Nat
  h : Nat
def roundS (s : St) (k w : Nat) : St :=
  ⟨((s.h + big1 s.e + ch s.e s.f s.g + k + w) % M + (big0 s.a + maj s.a s.b s.c) % M) % M, s.a, s.b, s.c, (s.d + (s.h + big1 s.e + ch s.e s.f s.g + k + w) % M) % M, s.e, s.f, s.g⟩
def start : St := ⟨0x6a09e667, 0xbb67ae85, 0x3c6ef372, 0xa54ff53a, 0x510e527f, 0x9b05688c, 0x1f83d9ab, 0x5be0cd19⟩
def keyL : List Nat := [
  0x428a2f98, 0x71374491, 0xb5c0fbcf, 0xe9b5dba5, 0x3956c25b, 0x59f111f1, 0x923f82a4, 0xab1c5ed5,
  0xd807aa98, 0x12835b01, 0x243185be, 0x550c7dc3, 0x72be5d74, 0x80deb1fe, 0x9bdc06a7, 0xc19bf174,
  0xe49b69c1, 0xefbe4786, 0x0fc19dc6, 0x240ca1cc, 0x2de92c6f, 0x4a7484aa, 0x5cb0a9dc, 0x76f988da,
  0x983e5152, 0xa831c66d, 0xb00327c8, 0xbf597fc7, 0xc6e00bf3, 0xd5a79147, 0x06ca6351, 0x14292967,
  0x27b70a85, 0x2e1b2138, 0x4d2c6dfc, 0x53380d13, 0x650a7354, 0x766a0abb, 0x81c2c92e, 0x92722c85,
  0xa2bfe8a1, 0xa81a664b, 0xc24b8b70, 0xc76c51a3, 0xd192e819, 0xd6990624, 0xf40e3585, 0x106aa070,
  0x19a4c116, 0x1e376c08, 0x2748774c, 0x34b0bcb5, 0x391c0cb3, 0x4ed8aa4a, 0x5b9cca4f, 0x682e6ff3,
  0x748f82ee, 0x78a5636f, 0x84c87814, 0x8cc70208, 0x90befffa, 0xa4506ceb, 0xbef9a3f7, 0xc67178f2]
def keyN (t : Nat) : Nat := keyL.getD t 0
/-- the state behind so many rounds -/
def rounds (W : Nat → Nat) (s : St) : Nat → St
  | 0 => s
  | t + 1 => roundS (rounds W s t) (keyN t) (W t)
def addS (s t : St) : St := ⟨(s.a + t.a) % M, (s.b + t.b) % M, (s.c + t.c) % M, (s.d + t.d) % M, (s.e + t.e) % M, (s.f + t.f) % M, (s.g + t.g) % M, (s.h + t.h) % M⟩
/-- a byte -/
def bn (s : ByteArray) (i : Nat) : Nat := if h : i < s.size then (s[i]'h).toNat else 0
def word (s : ByteArray) (t : Nat) : Nat := bn s (4 * t) * 16777216 + bn s (4 * t + 1) * 65536 + bn s (4 * t + 2) * 256 + bn s (4 * t + 3)
def words (s : ByteArray) : List Nat := moreW 48 ((List.range 16).map (word s))
def wordN (s : ByteArray) (t : Nat) : Nat := (words s).getD t 0
def mixS (s : St) (block : ByteArray) : St := addS (rounds (wordN block) s 64) s
/-- the state behind so many blocks -/
def goS (p : ByteArray) : Nat → St
  | 0 => start
  | i + 1 => mixS (goS p i) (p.extract (64 * i) (64 * i + 64))
def St.list (s : St) : List Nat := [s.a, s.b, s.c, s.d, s.e, s.f, s.g, s.h]
/-- a number's bytes, the highest first -/
def high4 (n : Nat) : List Nat := [n / 16777216 % 256, n / 65536 % 256, n / 256 % 256, n % 256]
def high8 (n : Nat) : List Nat := [n / 72057594037927936 % 256, n / 281474976710656 % 256, n / 1099511627776 % 256, n / 4294967296 % 256, n / 16777216 % 256, n / 65536 % 256, n / 256 % 256, n % 256]
def ofNats (l : List Nat) : ByteArray := ⟨(l.map UInt8.ofNat).toArray⟩
def zerosN (n : Nat) : Nat := (64 - (n + 9) % 64) % 64
def padS (s : ByteArray) : ByteArray := ((s ++ ⟨#[128]⟩) ++ ofNats (List.replicate (zerosN s.size) 0)) ++ ofNats (high8 (s.size * 8 % 18446744073709551616))
def outL (s : St) : List Nat := s.list.flatMap high4
def sumS (s : ByteArray) : ByteArray := ofNats (outL (goS (padS s) ((padS s).size / 64)))

def abc : ByteArray := ⟨#[97, 98, 99]⟩
theorem abc_words : (List.range 16).map (word ((padS abc).extract 0 64)) = [0x61626380, 0, 0, 0, 0, 0, 0, 0, 0, 0, 0, 0, 0, 0, 0, 24] := by decide +kernel
theorem abc_a : (addS (rounds (fun t => (moreW 48 [0x61626380, 0, 0, 0, 0, 0, 0, 0, 0, 0, 0, 0, 0, 0, 0, 24]).getD t 0) start 64) start).a = 0xba7816bf := by decide +kernel
end Go.Proofs.Ytolbhliepkcihaa.Sha
