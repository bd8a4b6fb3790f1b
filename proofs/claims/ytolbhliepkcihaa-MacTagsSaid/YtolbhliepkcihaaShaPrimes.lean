/- SHA-256's numbers are the roots of the first primes. -/
import Derived.Test.YtolbhliepkcihaaShaRootB
namespace Go.Proofs.Ytolbhliepkcihaa.Sha
/-- the first 65 primes -/
def primeL : List Nat := [2, 3, 5, 7, 11, 13, 17, 19, 23, 29, 31, 37, 41, 43, 47, 53, 59, 61, 67, 71, 73, 79, 83, 89, 97, 101, 103, 107, 109, 113, 127, 131, 137, 139, 149, 151, 157, 163, 167, 173, 179, 181, 191, 193, 197, 199, 211, 223, 227, 229, 233, 239, 241, 251, 257, 263, 269, 271, 277, 281, 283, 293, 307, 311, 313]
def primeN (k : Nat) : Nat := primeL.getD k 0
def startL : List Nat := [0x6a09e667, 0xbb67ae85, 0x3c6ef372, 0xa54ff53a, 0x510e527f, 0x9b05688c, 0x1f83d9ab, 0x5be0cd19]
theorem starts_eq : (primeL.take 8).map (rootN sqB) = startL := by decide +kernel
theorem keys_eq : (primeL.take 64).map (rootN cubeB) = keyL := by decide +kernel
/-- is no number from 2 to d - 1 (so far as their squares are not more) a divisor -/
def noDiv (n : Nat) : Nat → Bool
  | 0 => true
  | d + 1 => noDiv n d && (d < 2 || n % d != 0)
/-- how many primes are less than n -/
def cntP (n : Nat) : Nat := (primeL.filter (· < n)).length
/-- the walk's own test: the first d with d * d > n -/
def rootUp (n : Nat) : Nat := ((List.range 20).filter fun d => 2 ≤ d ∧ d * d ≤ n).length + 2
theorem up_ok : ∀ n, n < 314 → 2 ≤ n → (∀ d, d < 20 → 2 ≤ d → (d < rootUp n ↔ d * d ≤ n)) ∧ rootUp n < 20 := by decide +kernel
theorem prime_ok : ∀ n, n < 314 → 2 ≤ n → (noDiv n (rootUp n) = true → primeN (cntP n) = n ∧ cntP (n + 1) = cntP n + 1) ∧ (noDiv n (rootUp n) = false → cntP (n + 1) = cntP n) := by decide +kernel
theorem cnt_le : ∀ n, n < 314 → 2 ≤ n → cntP n ≤ 64 := by decide +kernel
theorem cnt_last : ∀ n, n < 315 → cntP n < 65 → n < 314 := by decide +kernel
theorem cnt_two : cntP 2 = 0 := by decide +kernel
end Go.Proofs.Ytolbhliepkcihaa.Sha
