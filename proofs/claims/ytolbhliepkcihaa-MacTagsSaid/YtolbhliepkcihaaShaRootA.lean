/- SHA-256's numbers: whether a number's square, or cube, is not too great: the walks. -/
import Derived.Test.YtolbhliepkcihaaShaSpec
import Derived.Test.YtolbhliepkcihaaShelf
import Derived.Test.YtolbhliepkcihaaMem
import Derived.Shelf.Spec.BitsCarry
import Derived.Lib.Hide
import Derived.Outline
import Derived.Deep.DeepCutAuto
import Derived.Deep.CutBlock
namespace Go.Proofs.Ytolbhliepkcihaa.Sha
open Go.RowKit Go.Proofs.Ytolbhliepkcihaa.Mem
def W64 : Nat := 18446744073709551616
def mulHi (x y : Nat) : Nat := x * y / W64
def mulLo (x y : Nat) : Nat := x * y % W64
theorem mulHi_lt {x y : Nat} (hx : x < W64) (hy : y < W64) : mulHi x y < W64 := by
  unfold mulHi
  rw [Nat.div_lt_iff_lt_mul (by decide)]
  exact Nat.mul_lt_mul'' hx hy
theorem mulLo_lt (x y : Nat) : mulLo x y < W64 := Nat.mod_lt _ (by decide)
theorem mul_any (x y : Nat) (hx : x < W64) (hy : y < W64) (w : World) :
    Calls Try.prog 98 #[.int .u64 (x : Int), .int .u64 (y : Int)] w fun e w' => e = .returned (.tuple #[.int .u64 ((mulHi x y : Nat) : Int), .int .u64 ((mulLo x y : Nat) : Int)]) ∧ w' = w := Try.bits_Mul64 x y hx hy w
def sqB (x p : Nat) : Bool := decide (mulHi x x < p) || (decide (mulHi x x = p) && decide (mulLo x x = 0))
def sumN (x y : Nat) : Nat := (x + y) % W64
def moreN (x y : Nat) : Nat := (x + y) / W64
def cubeB (x p : Nat) : Bool :=
  decide (sumN (mulHi (mulHi x x) x) (moreN (mulLo (mulHi x x) x) (mulHi (mulLo x x) x)) = 0) &&
    (decide (sumN (mulLo (mulHi x x) x) (mulHi (mulLo x x) x) < p * 4294967296 % W64) || (decide (sumN (mulLo (mulHi x x) x) (mulHi (mulLo x x) x) = p * 4294967296 % W64) && decide (mulLo (mulLo x x) x = 0)))
theorem add_run (x y : Nat) (_hx : x < W64) (_hy : y < W64) (w : World) :
    (callFunc 99 #[.int .u64 (x : Int), .int .u64 (y : Int), .int .u64 0]).run Try.prog w = .ok (.value (.tuple #[.int .u64 ((sumN x y : Nat) : Int), .int .u64 ((moreN x y : Nat) : Int)])) w := by
  have h1 := run_callFunc_extern (P := Try.prog) Try.func99 (by kernel_rfl) (by kernel_rfl) (by kernel_rfl) (e := add64Entry) (by kernel_rfl) #[.int .u64 (x : Int), .int .u64 (y : Int), .int .u64 0] w
  rw [h1, run_add64 _ _ _ (by omega) (by omega) (by omega) (by omega)]
  simp only [Result.andThen, sumN, moreN, W64]
  congr 5 <;> omega
set_option maxRecDepth 100000 in
theorem square_any (x p : Nat) (hx : x < W64) (w : World) :
    Calls Try.prog 68 #[.int .u64 (x : Int), .int .u64 (p : Int)] w fun e w' => e = .returned (.bool (sqB x p)) ∧ w' = w := by
  have HM := Lib.hid (mul_any x x hx hx w)
  unfold sqB
  generalize mulHi x x = a at *
  generalize mulLo x x = b at *
  clear hx
  go_enter Try.func68, Try.ntmps68
  go_wp2_with (go_at_call 98; refine (HM.out).mono ?_; rintro e w' ⟨rfl, rfl⟩)
  all_goals go_ret
  all_goals refine ⟨congrArg (fun b => Ending.returned (Value.bool b)) ?_, rfl⟩
  all_goals (rw [Bool.eq_iff_iff]; simp)
  all_goals omega
theorem wrap_u64 (n : Int) : IntKind.u64.wrap n = n % 18446744073709551616 := by simp [IntKind.wrap, IntKind.bits, IntKind.signed]
theorem wrapN_add (x y : Nat) : IntKind.u64.wrap ((x : Int) + (y : Int)) = ((sumN x y : Nat) : Int) := by
  rw [wrap_u64]; unfold sumN W64; omega
theorem wrapN_mul (x y : Nat) : IntKind.u64.wrap ((x : Int) * (y : Int)) = ((mulLo x y : Nat) : Int) := by
  rw [wrap_u64]; unfold mulLo W64
  rw [← Int.natCast_mul]; omega
set_option maxRecDepth 100000 in
theorem cube_any (x p : Nat) (hx : x < W64) (w : World) :
    Calls Try.prog 69 #[.int .u64 (x : Int), .int .u64 (p : Int)] w fun e w' => e = .returned (.bool (cubeB x p)) ∧ w' = w := by
  have HM1 := Lib.hid (mul_any x x hx hx w)
  have HM2 := Lib.hid (mul_any (mulHi x x) x (mulHi_lt hx hx) hx w)
  have HM3 := Lib.hid (mul_any (mulLo x x) x (mulLo_lt _ _) hx w)
  have HA := add_run (mulLo (mulHi x x) x) (mulHi (mulLo x x) x) (mulLo_lt _ _) (mulHi_lt (mulLo_lt _ _) hx)
  unfold cubeB
  generalize mulHi x x = a at *
  generalize hb : mulLo x x = b at *
  generalize mulHi a x = c at *
  generalize mulLo a x = d at *
  generalize mulHi b x = f at *
  have E2 : IntKind.u64.wrap ((b : Int) * (x : Int)) = ((mulLo b x : Nat) : Int) := wrapN_mul b x
  generalize mulLo b x = l at *
  generalize sumN d f = u at *
  generalize moreN d f = m at *
  have E1 : IntKind.u64.wrap ((c : Int) + (m : Int)) = ((sumN c m : Nat) : Int) := wrapN_add c m
  generalize sumN c m = t at *
  have E3 : IntKind.u64.wrap ((p : Int) * 4294967296) = ((p * 4294967296 % W64 : Nat) : Int) := wrapN_mul p 4294967296
  generalize p * 4294967296 % W64 = v at *
  have HB := Lib.hid hb
  have HAH := Lib.hid HA
  clear hx hb HA
  go_enter Try.func69, Try.ntmps69
  go_wp2_with (first | (go_at_call 98; first | ((with_reducible refine (HM1.out).mono ?_); rintro e w' ⟨rfl, rfl⟩) | ((with_reducible refine (HM2.out).mono ?_); rintro e w' ⟨rfl, rfl⟩) | ((with_reducible refine (HM3.out).mono ?_); rintro e w' ⟨rfl, rfl⟩)))
  rw [HAH.out]
  clear HAH
  go_upto_region 8 with (fail)
  clear E1 E2 E3
  by_cases ht : t = 0
  · have t1 : ((t : Int) == 0) = true := by rw [beq_iff_eq]; omega
    by_cases huv : u < v
    · have t2 : decide (u < v) = true := decide_eq_true huv
      have HT := Lib.hid ht
      clear ht
      go_wp2
      go_ret
      exact ⟨by simp [HT.out, huv], rfl⟩
    · have t2 : decide (u < v) = false := decide_eq_false huv
      by_cases hq : u = v
      · have t3 : ((u : Int) == (v : Int)) = true := by rw [beq_iff_eq]; omega
        have HT := Lib.hid ht
        have HQ := Lib.hid hq
        clear ht hq
        by_cases hl : l = 0
        · have t4 : ((l : Int) == 0) = true := by rw [beq_iff_eq]; omega
          have HL := Lib.hid hl
          clear hl
          go_wp2
          go_ret
          exact ⟨by simp [HT.out, HQ.out, HL.out], rfl⟩
        · have t4 : ((l : Int) == 0) = false := by rw [beq_eq_false_iff_ne]; omega
          go_wp2
          go_ret
          exact ⟨by simp [hl, huv], rfl⟩
      · have t3 : ((u : Int) == (v : Int)) = false := by rw [beq_eq_false_iff_ne]; omega
        have HT := Lib.hid ht
        clear ht
        go_wp2
        go_ret
        exact ⟨by simp [huv, hq], rfl⟩
  · have t1 : ((t : Int) == 0) = false := by rw [beq_eq_false_iff_ne]; omega
    go_wp2
    go_ret
    exact ⟨by simp [ht], rfl⟩
end Go.Proofs.Ytolbhliepkcihaa.Sha
