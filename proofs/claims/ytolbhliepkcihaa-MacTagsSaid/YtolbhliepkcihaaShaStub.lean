/- SHA-256's functions, the program's and the reference's, in the form that the printed texts call. -/
import Derived.Test.YtolbhliepkcihaaShaRef2
namespace Go.Proofs.Ytolbhliepkcihaa
open Go.RowKit Go.Proofs.YtolbhliepkcihaaW.PrintWords Go.Proofs.YtolbhliepkcihaaW.PrintLast Go.Proofs.YtolbhliepkcihaaW.PrintMore Go.Proofs.Ytolbhliepkcihaa.Sha
theorem numsL (l : List Nat) : u32L l = encs (Value.int .u32) (ints l) := by simp [u32L, encs, ints]
def sha_Start.f : Option (List Int) := some (ints Sha.start.list)
theorem sha_Start.calls (r : List Int) (w : World) (h : sha_Start.f = some r) :
    Calls Try.prog 18 #[] w fun e w' => ∃ v0_ : Value, e = .returned (v0_) ∧ Kd.R (Kd.int .u32) 25 w' w.heap.size (fun _ => True) v0_ r ∧ Below w.heap.size w w' := by
  obtain rfl := Option.some.inj h
  refine (start_any w).mono fun e w' ⟨v, he, ho, hb⟩ => ⟨v, he, ?_, hb⟩
  rw [numsL] at ho
  exact Kd.R_of_own (enc := Value.int .u32) (xs := ints Sha.start.list) ho (fun _ _ => trivial)
def sha_Keys.f : Option (List Int) := some (ints keyL)
theorem sha_Keys.calls (r : List Int) (w : World) (h : sha_Keys.f = some r) :
    Calls Try.prog 19 #[] w fun e w' => ∃ v0_ : Value, e = .returned (v0_) ∧ Kd.R (Kd.int .u32) 25 w' w.heap.size (fun _ => True) v0_ r ∧ Below w.heap.size w w' := by
  obtain rfl := Option.some.inj h
  refine (keys_any w).mono fun e w' ⟨v, he, ho, hb⟩ => ⟨v, he, ?_, hb⟩
  rw [numsL] at ho
  exact Kd.R_of_own (enc := Value.int .u32) (xs := ints keyL) ho (fun _ _ => trivial)
def most : Nat := 1099511627776
def sha_Pad.f (a0 : ByteArray) : Option ByteArray := if a0.size ≤ most then some (padS a0) else none
theorem sha_Pad.calls (a0 : ByteArray) (r : ByteArray) (w : World) (h : sha_Pad.f a0 = some r) :
    Calls Try.prog 24 #[.string a0] w fun e w' => e = .returned (.string r) ∧ Below w.heap.size w w' := by
  unfold sha_Pad.f at h
  split at h
  · obtain rfl := Option.some.inj h
    exact pad_any a0 (by assumption) w
  · cases h
def sha_Sum.f (a0 : ByteArray) : Option ByteArray := if a0.size ≤ most then some (sumS a0) else none
theorem sha_Sum.calls (a0 : ByteArray) (r : ByteArray) (w : World) (h : sha_Sum.f a0 = some r) :
    Calls Try.prog 26 #[.string a0] w fun e w' => e = .returned (.string r) ∧ Below w.heap.size w w' := by
  unfold sha_Sum.f at h
  split at h
  · obtain rfl := Option.some.inj h
    exact sum_any a0 (by assumption) w
  · cases h
def saltusref03_Pad.f (a0 : ByteArray) : Option ByteArray := if a0.size ≤ most then some (padS a0) else none
theorem saltusref03_Pad.calls (a0 : ByteArray) (r : ByteArray) (w : World) (h : saltusref03_Pad.f a0 = some r) :
    Calls Try.prog 25 #[.string a0] w fun e w' => e = .returned (.string r) ∧ Below w.heap.size w w' := by
  unfold saltusref03_Pad.f at h
  split at h
  · obtain rfl := Option.some.inj h
    exact QR.saltusref03_Pad.calls 200 a0 _ w (refpad_eq 200 a0 (by assumption) (by decide))
  · cases h
def saltusref03_Sum.f (a0 : ByteArray) : Option ByteArray := if a0.size ≤ most then some (sumS a0) else none
theorem saltusref03_Sum.calls (a0 : ByteArray) (r : ByteArray) (w : World) (h : saltusref03_Sum.f a0 = some r) :
    Calls Try.prog 27 #[.string a0] w fun e w' => e = .returned (.string r) ∧ Below w.heap.size w w' := by
  unfold saltusref03_Sum.f at h
  split at h
  · obtain rfl := Option.some.inj h
    exact QR.saltusref03_Sum.calls (a0.size + 500) a0 _ w (refsum_eq (a0.size + 500) a0 (by assumption) (by omega))
  · cases h
end Go.Proofs.Ytolbhliepkcihaa
