/- AesSteps and AesFours: the walks. -/
import Derived.Test.YtnaidfcehmdmcaaAesPlain
import Derived.Outline
namespace Go.Proofs.Ytnaidfcehmdmcaa.AS
open Go.RowKit Go.Proofs.YtnaidfcehmdmcaaW.PrintWords Go.Proofs.YtnaidfcehmdmcaaW.PrintLast Go.Proofs.YtnaidfcehmdmcaaW.PrintMore
open Go.Proofs.Ytnaidfcehmdmcaa.FC Go.Proofs.Ytnaidfcehmdmcaa.Mem

def cutS (s : ByteArray) : ByteArray := s.extract 0 (mn (s.size : Int) 40).toNat
theorem cut_any (s : ByteArray) (w : World) : Calls Try.prog 23 #[.string s] w fun e w' => e = .returned (.string (cutS s)) ∧ Below w.heap.size w w' := by
  refine PAesEncrypts.saltuslaw06_cut.calls s (cutS s) w ?_
  unfold PAesEncrypts.saltuslaw06_cut.f
  have h0 : 0 ≤ mn (s.size : Int) 40 := by unfold mn; split <;> omega
  have h1 : mn (s.size : Int) 40 ≤ s.size := by unfold mn; split <;> omega
  rw [if_pos h0, if_pos h1]
  rfl
theorem rBoxed (s : ByteArray) (h : s.size = 16) (w : World) : Calls Try.prog 28 #[.string s] w fun e w' => e = .returned (.string (boxedS s)) ∧ Below w.heap.size w w' :=
  PAesEncrypts.saltusref06_Boxed.calls 500 s _ w (refBoxed_eq 500 s h (by omega))
theorem rTurned (s : ByteArray) (h : s.size = 16) (w : World) : Calls Try.prog 29 #[.string s] w fun e w' => e = .returned (.string (turnedS s)) ∧ Below w.heap.size w w' :=
  PAesEncrypts.saltusref06_Turned.calls 500 s _ w (refTurned_eq 500 s h (by omega))
theorem rMixed (s : ByteArray) (h : s.size = 16) (w : World) : Calls Try.prog 30 #[.string s] w fun e w' => e = .returned (.string (mixedS s)) ∧ Below w.heap.size w w' :=
  PAesEncrypts.saltusref06_Mixed.calls 500 s _ w (refMixed_eq 500 s h (by omega))
/-- what a callee leaves, joined to what was left before -/
theorem Bel.step {w w1 w2 : World} (h : Below w.heap.size w w1) (h' : Below w1.heap.size w1 w2) : Below w.heap.size w w2 := h.trans (h'.mono h.size)

set_option maxRecDepth 100000 in
set_option maxHeartbeats 4000000 in
theorem steps_all (s : ByteArray) (w : World) : Calls Try.prog 7 #[.string s] w fun e w' => e = .returned (.bool true) ∧ Below w.heap.size w w' := by
  have HB := Lib.hid (Below.refl w.heap.size w)
  have hcut := cut_any s
  generalize cutS s = c at *
  have HC := Lib.hid hcut
  clear hcut
  by_cases h16 : c.size = 16
  · have hne : ((c.size : Int) != 16) = false := by rw [h16]; rfl
    have b1 := Lib.hid (Boxed_yes c h16)
    have b2 := Lib.hid (Turned_yes c h16)
    have b3 := Lib.hid (Mixed_yes c h16)
    have r1 := Lib.hid (rBoxed c h16)
    have r2 := Lib.hid (rTurned c h16)
    have r3 := Lib.hid (rMixed c h16)
    clear h16
    generalize boxedS c = x at *
    generalize turnedS c = y at *
    generalize mixedS c = z at *
    go_enter Try.func7, Try.ntmps7
    go_wp2_with (first | (go_at_call 23; refine (HC.out _).mono ?_; rintro e w1 ⟨rfl, hb⟩; replace HB := Lib.hid (Bel.step HB.out hb); clear hb) | (go_at_call 24; refine (b1.out _).mono ?_; rintro e w1 ⟨rfl, hb⟩; replace HB := Lib.hid (Bel.step HB.out hb); clear hb) | (go_at_call 25; refine (b2.out _).mono ?_; rintro e w1 ⟨rfl, hb⟩; replace HB := Lib.hid (Bel.step HB.out hb); clear hb) | (go_at_call 26; refine (b3.out _).mono ?_; rintro e w1 ⟨rfl, hb⟩; replace HB := Lib.hid (Bel.step HB.out hb); clear hb) | (go_at_call 27; refine (alive06 _).mono ?_; rintro e w1 ⟨rfl, hb⟩; replace HB := Lib.hid (Bel.step HB.out hb); clear hb) | (go_at_call 28; refine (r1.out _).mono ?_; rintro e w1 ⟨rfl, hb⟩; replace HB := Lib.hid (Bel.step HB.out hb); clear hb) | (go_at_call 29; refine (r2.out _).mono ?_; rintro e w1 ⟨rfl, hb⟩; replace HB := Lib.hid (Bel.step HB.out hb); clear hb) | (go_at_call 30; refine (r3.out _).mono ?_; rintro e w1 ⟨rfl, hb⟩; replace HB := Lib.hid (Bel.step HB.out hb); clear hb))
    go_ret
    exact ⟨by first | rfl | (simp; done) | (simp [*]; done), HB.out⟩
  · have hne : ((c.size : Int) != 16) = true := by rw [bne_iff_ne]; omega
    have hee : ((⟨#[]⟩ : ByteArray) ++ ⟨#[]⟩) = ⟨#[]⟩ := ByteArray.ext (by simp)
    have b1 := Lib.hid (Boxed_no c h16)
    have b2 := Lib.hid (Turned_no c h16)
    have b3 := Lib.hid (Mixed_no c h16)
    go_enter Try.func7, Try.ntmps7
    go_wp2_with (first | (go_at_call 23; refine (HC.out _).mono ?_; rintro e w1 ⟨rfl, hb⟩; replace HB := Lib.hid (Bel.step HB.out hb); clear hb) | (go_at_call 24; refine (b1.out _).mono ?_; rintro e w1 ⟨rfl, hb⟩; replace HB := Lib.hid (Bel.step HB.out hb); clear hb) | (go_at_call 25; refine (b2.out _).mono ?_; rintro e w1 ⟨rfl, hb⟩; replace HB := Lib.hid (Bel.step HB.out hb); clear hb) | (go_at_call 26; refine (b3.out _).mono ?_; rintro e w1 ⟨rfl, hb⟩; replace HB := Lib.hid (Bel.step HB.out hb); clear hb) | (go_at_call 27; refine (alive06 _).mono ?_; rintro e w1 ⟨rfl, hb⟩; replace HB := Lib.hid (Bel.step HB.out hb); clear hb))
    go_ret
    exact ⟨by first | rfl | (simp; done) | (simp [*]; done), HB.out⟩
end Go.Proofs.Ytnaidfcehmdmcaa.AS
