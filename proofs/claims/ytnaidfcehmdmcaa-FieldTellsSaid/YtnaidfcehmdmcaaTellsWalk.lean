/- FieldTells: the walk. -/
import Derived.Test.YtnaidfcehmdmcaaBoxesAll
import Derived.Test.YtnaidfcehmdmcaaAesRef
import Derived.Deep.QuietTactic
import Derived.BigQuiet
namespace Go.Proofs.Ytnaidfcehmdmcaa.FC
open Go.RowKit Go.Proofs.YtnaidfcehmdmcaaW.PrintWords Go.Proofs.YtnaidfcehmdmcaaW.PrintLast Go.Proofs.YtnaidfcehmdmcaaW.PrintMore
open Go.Proofs.Ytnaidfcehmdmcaa.FL

theorem refMul_any (a b : Int) (w : World) (ha : By a) (hb : By b) : Calls Try.prog 20 #[.int .u8 a, .int .u8 b] w fun e w' => e = .returned (.int .u8 (mulI a b)) ∧ Drawn0 w w' := by
  obtain ⟨a, rfl, la⟩ := ha.nat; obtain ⟨b, rfl, lb⟩ := hb.nat
  rw [mulI_nat]
  exact PAesEncrypts.saltusref05_Mul.calls 100 a b _ w (FE.refmul_eq 100 a b la lb (by omega))
theorem refInv_any (a : Int) (w : World) (ha : By a) : Calls Try.prog 21 #[.int .u8 a] w fun e w' => e = .returned (.int .u8 (invI a)) ∧ Drawn0 w w' := by
  obtain ⟨a, rfl, la⟩ := ha.nat
  rw [invI_nat]
  exact PAesEncrypts.saltusref05_Inv.calls 400 a _ w (FE.refinv_eq 400 a la (by omega))
theorem refBox_any (a : Int) (w : World) (ha : By a) : Calls Try.prog 22 #[.int .u8 a] w fun e w' => e = .returned (.int .u8 (boxI a)) ∧ Drawn0 w w' := by
  obtain ⟨a, rfl, la⟩ := ha.nat
  rw [boxI_nat]
  exact PAesEncrypts.saltusref05_Box.calls 400 a _ w (FE.refbox_eq 400 a la (by omega))

theorem quiet_d {P : Program} {f : FuncId} {args : Array Value} {w : World} {n : Nat} {v : Value}
    (h : Calls P f args (w.drewN n) fun e w' => e = .returned v ∧ Drawn0 (w.drewN n) w') : Calls P f args (w.drewN n) fun e w'' => e = .returned v ∧ ∃ m, w'' = w.drewN m :=
  h.mono fun _ _ ⟨he, ⟨m, hm⟩⟩ => ⟨he, n + m, by rw [hm, World.drewN_drewN]⟩

set_option maxRecDepth 100000 in
set_option maxHeartbeats 4000000 in
theorem tells_all (a b : Int) (w : World) (ha : By a) (hb : By b) :
   Calls Try.prog 6 #[.int .u8 a, .int .u8 b] w fun e w' => e = .returned (.bool true) ∧ Below w.heap.size w w' := by
  go_enter Try.func6, Try.ntmps6
  go_wp2_with (go_at_call 19; refine (boxes19 _).mono ?_; rintro e w' ⟨rfl, hB, hbl⟩)
  have lo := ha.lo
  have hi := ha.hi
  have hc : w'.cell? ⟨w.heap.size, a.toNat, none⟩ = some (.int .u8 (boxI a)) := by
    rw [hB.cell, bxs_at _ _ (by omega), if_pos (by omega), Int.toNat_of_nonneg lo]
  have lt256 : a < 256 := by omega
  go_quiet ((first | (go_at_call 13; exact quiet_d (alive_any _)) | (go_at_call 16; exact quiet_d (mul_any _ _ _ ha hb)) | (go_at_call 17; exact quiet_d (inv_any _ _ ha)) | (go_at_call 18; exact quiet_d (box_any _ _ ha)) | (go_at_call 20; exact quiet_d (refMul_any _ _ _ ha hb)) | (go_at_call 21; exact quiet_d (refInv_any _ _ ha)) | (go_at_call 22; exact quiet_d (refBox_any _ _ ha))))
  go_wp2
  go_ret
  exact ⟨by first | rfl | (simp; done) | (simp [*]; done), pw_below_drewN hbl _⟩
theorem tells_row (a b : Int) (w : World) (ha : (Lit.int .u8 a).wf = true) (hb : (Lit.int .u8 b).wf = true) :
    Calls Try.prog 6 #[.int .u8 a, .int .u8 b] w fun e w' => e = .returned (.bool true) ∧ Below w.heap.size w w' := tells_all a b w (.of_wf ha) (.of_wf hb)
end Go.Proofs.Ytnaidfcehmdmcaa.FC
