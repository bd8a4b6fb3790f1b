/- HMAC of SHA-256 in plain Lean. -/
import Derived.Test.YtolbhliepkcihaaShaStub
namespace Go.Proofs.Ytolbhliepkcihaa.Mac
open Go.Proofs.Ytolbhliepkcihaa.Sha
/-- a key of 64 bytes -/
def shortS (key : ByteArray) : ByteArray := if key.size > 64 then sumS key else key
def fitS (key : ByteArray) : ByteArray := shortS key ++ ofNats (List.replicate (64 - (shortS key).size) 0)
def xorS (k : ByteArray) (c : Nat) : ByteArray := ofNats ((List.range 64).map fun i => bn k i ^^^ c)
def tagS (key s : ByteArray) : ByteArray := sumS (xorS (fitS key) 92 ++ sumS (xorS (fitS key) 54 ++ s))
theorem sumS_size (s : ByteArray) : (sumS s).size = 32 := by unfold sumS; rw [ofNats_size]; rfl
theorem short_size (key : ByteArray) : (shortS key).size ≤ 64 := by
  unfold shortS
  split
  · rw [sumS_size]; decide
  · omega
theorem fit_size (key : ByteArray) : (fitS key).size = 64 := by
  unfold fitS
  have := short_size key
  rw [ByteArray.size_append, ofNats_size, List.length_replicate]
  omega
theorem xor_size (k : ByteArray) (c : Nat) : (xorS k c).size = 64 := by unfold xorS; rw [ofNats_size]; simp
theorem tag_size (key s : ByteArray) : (tagS key s).size = 32 := sumS_size _
end Go.Proofs.Ytolbhliepkcihaa.Mac
