/- Contracts of the field's functions, on whole numbers that are bytes. -/
import Derived.Test.YtnaidfcehmdmcaaFieldRef
namespace Go.Proofs.Ytnaidfcehmdmcaa.FC
open Go.RowKit Go.Proofs.Ytnaidfcehmdmcaa.PFieldPowers Go.Proofs.YtnaidfcehmdmcaaW.PrintWords Go.Proofs.YtnaidfcehmdmcaaW.PrintLast Go.Proofs.YtnaidfcehmdmcaaW.PrintMore
open Go.Proofs.Ytnaidfcehmdmcaa.FL

/-- a byte, as a whole number -/
structure By (x : Int) : Prop where
  lo : 0 ≤ x
  hi : x ≤ 255
theorem By.nat {x : Int} (h : By x) : ∃ n : Nat, x = n ∧ n < 256 := by
  obtain ⟨n, rfl⟩ := Int.eq_ofNat_of_zero_le h.lo
  exact ⟨n, rfl, by have := h.hi; omega⟩
theorem By.of {n : Nat} (h : n < 256) : By (n : Int) := ⟨by omega, by omega⟩
theorem By.of_wf {x : Int} (h : (Lit.int .u8 x).wf = true) : By x := by
  have : 0 ≤ x ∧ x ≤ 255 := by simpa [Lit.wf, IntKind.min, IntKind.max, IntKind.signed, IntKind.bits] using h
  exact ⟨this.1, this.2⟩

structure XorI (a b x : Int) : Prop where out : x = bits .xor .u8 a b
def mulI (a b : Int) : Int := (FM.mul a.toNat b.toNat : Nat)
def invI (a : Int) : Int := (FM.inv a.toNat : Nat)
def boxI (a : Int) : Int := (FM.box a.toNat : Nat)
theorem mulI_nat (a b : Nat) : mulI a b = (FM.mul a b : Nat) := rfl
theorem invI_nat (a : Nat) : invI a = (FM.inv a : Nat) := rfl
theorem boxI_nat (a : Nat) : boxI a = (FM.box a : Nat) := rfl
theorem By.mul {a b : Int} (ha : By a) (hb : By b) : By (mulI a b) := by
  obtain ⟨a, rfl, la⟩ := ha.nat; obtain ⟨b, rfl, lb⟩ := hb.nat
  exact .of (FM.mul_lt a b la)
theorem By.inv {a : Int} (ha : By a) : By (invI a) := by
  obtain ⟨a, rfl, la⟩ := ha.nat
  exact .of (FM.inv_lt a la)
theorem By.box {a : Int} (ha : By a) : By (boxI a) := by
  obtain ⟨a, rfl, la⟩ := ha.nat
  exact .of (FM.box_lt a la)
theorem By.xor {a b : Int} (ha : By a) (hb : By b) : By (bits .xor .u8 a b) := by
  obtain ⟨a, rfl, la⟩ := ha.nat; obtain ⟨b, rfl, lb⟩ := hb.nat
  rw [x8 a b la lb]; exact .of (FM.xor_lt la lb)

theorem mul_any (a b : Int) (w : World) (ha : By a) (hb : By b) : Calls Try.prog 16 #[.int .u8 a, .int .u8 b] w fun e w' => e = .returned (.int .u8 (mulI a b)) ∧ Drawn0 w w' := by
  obtain ⟨a, rfl, la⟩ := ha.nat; obtain ⟨b, rfl, lb⟩ := hb.nat
  exact field_Mul.calls 100 a b _ w (mul_eq 100 a b la lb (by omega))
theorem inv_any (a : Int) (w : World) (ha : By a) : Calls Try.prog 17 #[.int .u8 a] w fun e w' => e = .returned (.int .u8 (invI a)) ∧ Drawn0 w w' := by
  obtain ⟨a, rfl, la⟩ := ha.nat
  exact field_Inv.calls 100 a _ w (inv_eq 100 a la (by omega))
theorem box_any (a : Int) (w : World) (ha : By a) : Calls Try.prog 18 #[.int .u8 a] w fun e w' => e = .returned (.int .u8 (boxI a)) ∧ Drawn0 w w' := by
  obtain ⟨a, rfl, la⟩ := ha.nat
  exact field_Box.calls 100 a _ w (box_eq 100 a la (by omega))
theorem alive_any (w : World) : Calls Try.prog 13 #[] w fun e w' => e = .returned (.bool true) ∧ Drawn0 w w' :=
  saltuslaw05_alive.calls 100 true w (alive_eq 100 (by omega))
attribute [irreducible] mulI invI boxI
end Go.Proofs.Ytnaidfcehmdmcaa.FC
