/- FieldBoxes: the walk. -/
import Derived.Test.YtnaidfcehmdmcaaFieldCon
namespace Go.Proofs.Ytnaidfcehmdmcaa.FC
open Go.RowKit Go.Proofs.YtnaidfcehmdmcaaW.PrintWords Go.Proofs.YtnaidfcehmdmcaaW.PrintLast Go.Proofs.YtnaidfcehmdmcaaW.PrintMore
open Go.Proofs.Ytnaidfcehmdmcaa.FL
set_option maxHeartbeats 8000000 in
theorem boxes_walk (a b : Int) (w : World) (ha : By a) (hb : By b) (p : Bool) (t1 : (a == b) = p) (t2 : (boxI a == boxI b) = p) (t3 : (boxI a != a) = true) (t4 : (boxI a != bits .xor .u8 IntKind.u8.max a) = true) :
   Calls Try.prog 5 #[.int .u8 a, .int .u8 b] w fun e w' => e = .returned (.bool true) ∧ Drawn0 w w' := by
  go_enter Try.func5, Try.ntmps5
  cases p
  all_goals
    go_wp2_with (first | (go_at_call 18; with_reducible refine (box_any _ _ ?_).mono ?_; (with_reducible assumption); rintro e w' ⟨rfl, ⟨nd, rfl⟩⟩) | (go_at_call 13; refine (alive_any _).mono ?_; rintro e w' ⟨rfl, ⟨nd, rfl⟩⟩))
    all_goals
      go_ret
      exact ⟨by first | rfl | (simp; done) | (simp [*]; done), by repeat (first | exact Drawn0.refl _ | apply Drawn0.step)⟩

theorem boxes_all (a b : Int) (w : World) (ha : By a) (hb : By b) : Calls Try.prog 5 #[.int .u8 a, .int .u8 b] w fun e w' => e = .returned (.bool true) ∧ Drawn0 w w' := by
  refine boxes_walk a b w ha hb (a == b) rfl ?_ ?_ ?_
  all_goals
    obtain ⟨a, rfl, la⟩ := ha.nat; obtain ⟨b, rfl, lb⟩ := hb.nat
  · rw [boxI_nat, boxI_nat]
    by_cases h : a = b
    · subst h; rw [beq_self_eq_true, beq_self_eq_true]
    · have h' : FM.box a ≠ FM.box b := fun e => h (FM.box_inj a b la lb e)
      rw [beq_eq_false_iff_ne.2 (by omega), beq_eq_false_iff_ne.2 (by omega)]
  · rw [boxI_nat, bne_iff_ne]
    have := FM.box_ne a la
    omega
  · have e : bits .xor .u8 IntKind.u8.max (a : Int) = ((255 ^^^ a : Nat) : Int) := x8 255 a (by decide) la
    rw [e, boxI_nat, bne_iff_ne, Nat.xor_comm]
    have := FM.box_ne'' a la
    omega
theorem boxes_row (a b : Int) (w : World) (ha : (Lit.int .u8 a).wf = true) (hb : (Lit.int .u8 b).wf = true) :
    Calls Try.prog 5 #[.int .u8 a, .int .u8 b] w fun e w' => e = .returned (.bool true) ∧ Below w.heap.size w w' :=
  (boxes_all a b w (.of_wf ha) (.of_wf hb)).mono fun _ _ ⟨he, hd⟩ => ⟨he, hd.below⟩
end Go.Proofs.Ytnaidfcehmdmcaa.FC
