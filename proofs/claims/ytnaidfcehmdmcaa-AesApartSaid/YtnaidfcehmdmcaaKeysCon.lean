/- aes.Keys: contracts, for a key that may be and for one that may not. -/
import Derived.Test.YtnaidfcehmdmcaaKeysWalk4
import Derived.Test.YtnaidfcehmdmcaaKeysWalk8
namespace Go.Proofs.Ytnaidfcehmdmcaa.Key
open Go.RowKit Go.Proofs.Ytnaidfcehmdmcaa.FC Go.Proofs.Ytnaidfcehmdmcaa.Mem Go.Proofs.Ytnaidfcehmdmcaa.AS Go.Proofs.Ytnaidfcehmdmcaa.Row
open Go.Proofs.YtnaidfcehmdmcaaW.PrintWords Go.Proofs.YtnaidfcehmdmcaaW.PrintLast Go.Proofs.YtnaidfcehmdmcaaW.PrintMore
/-- how many round keys -/
def keyN (s : ByteArray) : Nat := s.size / 4 + 7
/-- their bytes -/
def keyB (s : ByteArray) : Nat → Int := keyF (s.size / 4) s
theorem keyB_by (s : ByteArray) (j : Nat) : By (keyB s j) := keyF_by _ s j
theorem keys_yes (s : ByteArray) (h : s.size = 16 ∨ s.size = 32) (w : World) :
    Calls Try.prog 31 #[.string s] w fun e w' => ∃ v, e = .returned (.tuple #[v, .int .i64 0]) ∧ KeysRow w.heap.size v (keyN s) (keyB s) w' ∧ Below w.heap.size w w' := by
  rcases h with h | h
  · have := keys4 s h _ (keyF_law 4 (by decide) s) (keyF_by 4 s) w
    have e1 : keyN s = 11 := by unfold keyN; rw [h]
    have e2 : keyB s = keyF 4 s := by unfold keyB; rw [h]
    rw [e1, e2]; exact this
  · have := keys8 s h _ (keyF_law 8 (by decide) s) (keyF_by 8 s) w
    have e1 : keyN s = 15 := by unfold keyN; rw [h]
    have e2 : keyB s = keyF 8 s := by unfold keyB; rw [h]
    rw [e1, e2]; exact this
set_option maxRecDepth 100000 in
theorem keys_no (s : ByteArray) (h16 : s.size ≠ 16) (h32 : s.size ≠ 32) (w : World) :
    Calls Try.prog 31 #[.string s] w fun e w' => e = .returned (.tuple #[.slice none 0 0, .int .i64 4]) ∧ Below w.heap.size w w' := by
  have hs1 : ((s.size : Int) != 16) = true := by rw [bne_iff_ne]; omega
  have hs2 : ((s.size : Int) != 32) = true := by rw [bne_iff_ne]; omega
  go_enter Try.func31, Try.ntmps31
  go_wp2
  go_ret2
  exact ⟨rfl, Below.refl _ _⟩
end Go.Proofs.Ytnaidfcehmdmcaa.Key
