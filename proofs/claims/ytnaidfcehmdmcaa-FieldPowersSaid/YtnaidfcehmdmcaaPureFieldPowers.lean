/- Any power of any byte is what the reference tells, under no condition. -/
import Derived.Test.YtnaidfcehmdmcaaPFieldPowersx2
import Derived.Test.YtnaidfcehmdmcaaFieldRef
namespace Go.Proofs.Ytnaidfcehmdmcaa.Pure
open Go.RowKit Go.Proofs.Ytnaidfcehmdmcaa.PFieldPowers Go.Proofs.YtnaidfcehmdmcaaW.PrintWords Go.Proofs.YtnaidfcehmdmcaaW.PrintLast Go.Proofs.YtnaidfcehmdmcaaW.PrintMore
open Go.Proofs.Ytnaidfcehmdmcaa.FM (xt mulAux mul pw pq inv cl red rmul rot box bitN rbox)
open Go.Proofs.Ytnaidfcehmdmcaa.FL

theorem j0_no (K : Nat) (a n few : Int) : saltuslaw05_FieldPowers.j0 (K + 1) a n few false = (saltuslaw05_alive.f K).bind (fun t => if t = true then (field_Pow.f K a n).bind fun x => (saltusref05_Pow.f K a few).bind fun y => some (x == y) else some false) := by
  simp only [saltuslaw05_FieldPowers.j0]; rw [if_neg (by decide)]
theorem j0_yes (K : Nat) (a n few : Int) : saltuslaw05_FieldPowers.j0 (K + 1) a n few true = (saltuslaw05_alive.f K).bind (fun t => if t = true then (field_Pow.f K a n).bind fun x => (saltusref05_Pow.f K a (wrap64 ((Int.tmod n 255) + 255))).bind fun y => some (x == y) else some false) := by
  simp only [saltuslaw05_FieldPowers.j0]; rw [if_pos trivial]

theorem FieldPowers : saltuslaw05_FieldPowers.Pure := by
  intro a0 a1 h0 h1
  have b0 : 0 ≤ a0 ∧ a0 ≤ 255 := by simpa [Lit.wf, IntKind.min, IntKind.max, IntKind.signed, IntKind.bits] using h0
  have b1 : -9223372036854775808 ≤ a1 ∧ a1 ≤ 9223372036854775807 := by simpa [Lit.wf, IntKind.min, IntKind.max, IntKind.signed, IntKind.bits] using h1
  obtain ⟨a, rfl⟩ := Int.eq_ofNat_of_zero_le b0.1
  have ha : a < 256 := by omega
  clear h0 h1
  refine ⟨1300, ?_⟩
  have key : ∀ (few : Int) (K : Nat), 1200 < K → (∃ r, field_Pow.f K a a1 = some r ∧ saltusref05_Pow.f K a few = some r) →
      (saltuslaw05_alive.f K).bind (fun t => if t = true then (field_Pow.f K a a1).bind fun x => (saltusref05_Pow.f K a few).bind fun y => some (x == y) else some false) = some true := by
    intro few K hK ⟨r, e1, e2⟩
    rw [alive_eq K (by omega)]; simp only [Option.bind_some, if_true]
    rw [e1, e2]; simp
  have small : ∀ K : Nat, 1200 < K → a1 ≤ 600 → ∃ r, field_Pow.f K a a1 = some r ∧ saltusref05_Pow.f K a a1 = some r := by
    intro K hK hle
    by_cases hp : a1 ≤ 0
    · exact ⟨1, pow_neg K a a1 hp (by omega), refpow_neg K a a1 hp (by omega)⟩
    · obtain ⟨n, rfl⟩ := Int.eq_ofNat_of_zero_le (show 0 ≤ a1 by omega)
      exact ⟨_, pow_eq K a n ha (by omega) (by omega), refpow_eq K a n (by omega) ha (by omega)⟩
  unfold saltuslaw05_FieldPowers.f
  by_cases hz : (a : Int) = 0
  · rw [if_pos hz]
    refine (j0_no 1299 _ _ _).trans (key _ 1299 (by omega) ?_)
    by_cases hle : a1 ≤ 600
    · have : mn a1 600 = a1 := by unfold mn; rw [if_neg (by omega)]
      rw [this]; exact small _ (by omega) hle
    · have : mn a1 600 = 600 := by unfold mn; rw [if_pos (by omega)]
      rw [this]
      obtain rfl : a = 0 := by omega
      obtain ⟨n, rfl⟩ := Int.eq_ofNat_of_zero_le (show 0 ≤ a1 by omega)
      refine ⟨_, pow_eq _ 0 n ha (by omega) (by omega), ?_⟩
      have := refpow_eq 1299 0 600 (by decide) (by decide) (by omega)
      rw [FM.pw_zero 600 (by decide)] at this
      rw [FM.pw_zero n (by omega)]
      exact this
  · rw [if_neg hz]
    by_cases hle : a1 > 600
    · rw [decide_eq_true hle]
      refine (j0_yes 1299 _ _ _).trans (key _ 1299 (by omega) ?_)
      obtain ⟨n, rfl⟩ := Int.eq_ofNat_of_zero_le (show 0 ≤ a1 by omega)
      have e : wrap64 (Int.tmod (n : Int) 255 + 255) = ((n % 255 + 255 : Nat) : Int) := by
        have : Int.tmod (n : Int) 255 = ((n % 255 : Nat) : Int) := rfl
        rw [this]; unfold wrap64; omega
      rw [e]
      refine ⟨_, pow_eq _ a n ha (by omega) (by omega), ?_⟩
      rw [refpow_eq 1299 a (n % 255 + 255) (by omega) ha (by omega)]
      have h1 := FM.pw_mul255 a ha (by omega) (n % 255) (n / 255)
      have h2 := FM.pw_mul255 a ha (by omega) (n % 255) 1
      have h3 : n % 255 + 255 * (n / 255) = n := Nat.mod_add_div n 255
      rw [h3] at h1
      rw [h1]
      exact congrArg (fun x : Nat => some (x : Int)) h2
    · rw [decide_eq_false hle]
      refine (j0_no 1299 _ _ _).trans (key _ 1299 (by omega) ?_)
      have : mn a1 600 = a1 := by unfold mn; rw [if_neg (by omega)]
      rw [this]; exact small _ (by omega) (by omega)
end Go.Proofs.Ytnaidfcehmdmcaa.Pure
