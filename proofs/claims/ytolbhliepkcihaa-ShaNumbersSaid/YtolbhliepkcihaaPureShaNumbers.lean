/- The first state and the keys are as the document says, each of any place; under no condition. -/
import Derived.Test.YtolbhliepkcihaaQSCx1
import Derived.Test.YtolbhliepkcihaaShaPure
namespace Go.Proofs.Ytolbhliepkcihaa.Pure
open Go.RowKit Go.Proofs.Ytolbhliepkcihaa.QSC Go.Proofs.YtolbhliepkcihaaW.PrintWords Go.Proofs.YtolbhliepkcihaaW.PrintLast Go.Proofs.Ytolbhliepkcihaa.Sha
theorem alive03 : saltuslaw03_alive.f = some true := by
  unfold saltuslaw03_alive.f
  have h : sha_Sum.f (⟨#[97, 98, 99]⟩ : ByteArray) = some (sumS abc) := sum_f abc (by decide)
  rw [h]
  simp only [Option.bind_some]
  rw [sum_size, if_pos (by decide), if_pos (by decide), abc_bt0, if_pos rfl, if_pos (by decide), abc_bt1]
  rfl
theorem mask_lt (a : Int) (m : Nat) (hm : m < 9223372036854775808) : ∃ n : Nat, n ≤ m ∧ Go.bits .and .i64 a (m : Int) = (n : Int) := by
  refine ⟨(BitVec.ofInt 64 a).toNat &&& m, Nat.and_le_right, ?_⟩
  show IntKind.i64.wrap ((BitVec.ofInt 64 a &&& BitVec.ofInt 64 (m : Int)).toNat : Int) = _
  have h1 : (BitVec.ofInt 64 (m : Int)).toNat = m := by
    rw [BitVec.ofInt_natCast, BitVec.toNat_ofNat]; exact Nat.mod_eq_of_lt (by omega)
  rw [BitVec.toNat_and, h1, IntKind.wrap_i64]
  have h2 : (BitVec.ofInt 64 a).toNat &&& m ≤ m := Nat.and_le_right
  omega
theorem ShaNumbers : saltuslaw03_ShaNumbers.Pure := by
  intro a0 _
  refine ⟨1, ?_⟩
  have h1 : sha_Start.f = some (ints Sha.start.list) := rfl
  have h2 : sha_Keys.f = some (ints keyL) := rfl
  have l1 : (ints Sha.start.list).length = 8 := rfl
  have l2 : (ints keyL).length = 64 := rfl
  obtain ⟨i, hi, ei⟩ := mask_lt a0 7 (by decide)
  obtain ⟨j, hj, ej⟩ := mask_lt a0 63 (by decide)
  rw [show ((7 : Nat) : Int) = 7 from rfl] at ei
  rw [show ((63 : Nat) : Int) = 63 from rfl] at ej
  have s1 : saltusref03_Start.f = some (ints Sha.start.list) := rfl
  have s2 : saltusref03_Keys.f = some (ints keyL) := rfl
  unfold saltuslaw03_ShaNumbers.f
  rw [h1]
  simp only [Option.bind_some]
  rw [h2]
  simp only [Option.bind_some]
  rw [l1, l2, if_pos (by decide), if_pos (by decide), alive03]
  simp only [Option.bind_some]
  simp only [saltuslaw03_ShaNumbers.j0]
  rw [if_neg (by decide), ei, ej, l1, l2, if_pos (by omega), if_pos (by omega), s1]
  simp only [Option.bind_some]
  rw [l1, if_pos (by omega)]
  simp only [if_true]
  rw [if_pos (by omega), if_pos (by omega), s2]
  simp only [Option.bind_some]
  rw [l2, if_pos (by omega)]
  simp
end Go.Proofs.Ytolbhliepkcihaa.Pure
