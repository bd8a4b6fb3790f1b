/- The field's contracts with the world unchanged. -/
import Derived.Test.YtnaidfcehmdmcaaFieldStill
import Derived.Test.YtnaidfcehmdmcaaFieldCon
namespace Go.Proofs.Ytnaidfcehmdmcaa.FC
open Go.RowKit Go.Proofs.Ytnaidfcehmdmcaa.PFieldPowers Go.Proofs.YtnaidfcehmdmcaaW.PrintWords Go.Proofs.YtnaidfcehmdmcaaW.PrintLast Go.Proofs.YtnaidfcehmdmcaaW.PrintMore
open Go.Proofs.Ytnaidfcehmdmcaa.FL
theorem mul_still (a b : Int) (w : World) (ha : By a) (hb : By b) : Calls Try.prog 16 #[.int .u8 a, .int .u8 b] w fun e w' => e = .returned (.int .u8 (mulI a b)) ∧ w' = w := by
  obtain ⟨a, rfl, la⟩ := ha.nat; obtain ⟨b, rfl, lb⟩ := hb.nat
  unfold mulI
  exact field_Mul.still 100 a b _ w (mul_eq 100 a b la lb (by omega))
theorem box_still (a : Int) (w : World) (ha : By a) : Calls Try.prog 18 #[.int .u8 a] w fun e w' => e = .returned (.int .u8 (boxI a)) ∧ w' = w := by
  obtain ⟨a, rfl, la⟩ := ha.nat
  unfold boxI
  exact field_Box.still 100 a _ w (box_eq 100 a la (by omega))
/-- 2's power -/
def twoI (n : Nat) : Int := (FM.pw 2 n : Nat)
theorem By.two (n : Nat) : By (twoI n) := .of (FM.pw_lt 2 (by decide) n)
theorem two_still (n : Nat) (hn : n < 2 ^ 63) (w : World) : Calls Try.prog 14 #[.int .u8 2, .int .i64 n] w fun e w' => e = .returned (.int .u8 (twoI n)) ∧ w' = w :=
  field_Pow.still 100 2 n _ w (pow_eq 100 2 n (by decide) hn (by omega))
attribute [irreducible] twoI
end Go.Proofs.Ytnaidfcehmdmcaa.FC
