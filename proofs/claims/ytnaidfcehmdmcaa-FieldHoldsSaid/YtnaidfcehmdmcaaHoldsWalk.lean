/- FieldHolds: the walk. -/
import Derived.Test.YtnaidfcehmdmcaaFieldCon
namespace Go.Proofs.Ytnaidfcehmdmcaa.FC
open Go.RowKit Go.Proofs.YtnaidfcehmdmcaaW.PrintWords Go.Proofs.YtnaidfcehmdmcaaW.PrintLast Go.Proofs.YtnaidfcehmdmcaaW.PrintMore
open Go.Proofs.Ytnaidfcehmdmcaa.FL
set_option maxHeartbeats 8000000 in
theorem holds_walk (a b c x : Int) (w : World) (ha : By a) (hb : By b) (hc : By c) (hx : bits .xor .u8 b c = x) (bx : By x)
   (t1 : (mulI a b == mulI b a) = true) (t2 : (mulI a x == bits .xor .u8 (mulI a b) (mulI a c)) = true) (t3 : (mulI (mulI a b) c == mulI a (mulI b c)) = true)
   (t4 : (mulI a 1 == a) = true) (p : Bool) (t5 : (a == 0) = p) (t5' : (a != 0) = !p) (t6 : (mulI a (invI a) == 0) = p) (t7 : (mulI a (invI a) == 1) = !p)
   (t8 : (invI (invI a) == a) = true) :
   Calls Try.prog 4 #[.int .u8 a, .int .u8 b, .int .u8 c] w fun e w' => e = .returned (.bool true) ∧ Drawn0 w w' := by
  have b1 : By 1 := ⟨by decide, by decide⟩
  have hab := ha.mul hb
  have hbc := hb.mul hc
  have hi := ha.inv
  go_enter Try.func4, Try.ntmps4
  cases p
  all_goals
    go_wp2_with (first | (go_at_call 16; with_reducible refine (mul_any _ _ _ ?_ ?_).mono ?_; (with_reducible assumption); (with_reducible assumption); rintro e w' ⟨rfl, ⟨nd, rfl⟩⟩) | (go_at_call 17; with_reducible refine (inv_any _ _ ?_).mono ?_; (with_reducible assumption); rintro e w' ⟨rfl, ⟨nd, rfl⟩⟩) | (go_at_call 13; refine (alive_any _).mono ?_; rintro e w' ⟨rfl, ⟨nd, rfl⟩⟩))
    all_goals
      go_ret
      exact ⟨by first | rfl | (simp; done) | (simp [*]; done), by repeat (first | exact Drawn0.refl _ | apply Drawn0.step)⟩

/-- FieldHolds, walked whole. -/
theorem holds_all (a b c : Int) (w : World) (ha : By a) (hb : By b) (hc : By c) :
    Calls Try.prog 4 #[.int .u8 a, .int .u8 b, .int .u8 c] w fun e w' => e = .returned (.bool true) ∧ Drawn0 w w' := by
  refine holds_walk a b c _ w ha hb hc rfl (hb.xor hc) ?_ ?_ ?_ ?_ (a == 0) rfl rfl ?_ ?_ ?_
  all_goals
    obtain ⟨a, rfl, la⟩ := ha.nat; obtain ⟨b, rfl, lb⟩ := hb.nat; obtain ⟨c, rfl, lc⟩ := hc.nat
  · rw [mulI_nat, mulI_nat, FM.mul_comm a b la lb]; exact beq_self_eq_true _
  · rw [x8 b c lb lc, mulI_nat, mulI_nat, mulI_nat, FM.mul_right, x8 _ _ (FM.mul_lt a b la) (FM.mul_lt a c la)]; exact beq_self_eq_true _
  · rw [mulI_nat, mulI_nat, mulI_nat, mulI_nat, FM.mul_assoc a b c la lb lc]; exact beq_self_eq_true _
  · rw [show (1 : Int) = ((1 : Nat) : Int) from rfl, mulI_nat, FM.mul_one a la]; exact beq_self_eq_true _
  · rw [invI_nat, mulI_nat]
    by_cases h : a = 0
    · subst h; rw [FM.mul_inv0]
    · rw [FM.mul_inv a la h]; symm; rw [beq_eq_false_iff_ne.2 (by omega)]; rfl
  · rw [invI_nat, mulI_nat]
    by_cases h : a = 0
    · subst h; rw [FM.mul_inv0]; rfl
    · rw [FM.mul_inv a la h]; symm; rw [beq_eq_false_iff_ne.2 (by omega)]; rfl
  · rw [invI_nat, invI_nat, FM.inv_inv a la]; exact beq_self_eq_true _
end Go.Proofs.Ytnaidfcehmdmcaa.FC
