/- Four times turned, and four times mixed, a block is as it was. -/
import Derived.Test.YtnaidfcehmdmcaaAesPlain
namespace Go.Proofs.Ytnaidfcehmdmcaa.AS
open Go.RowKit Go.Proofs.YtnaidfcehmdmcaaW.PrintWords Go.Proofs.YtnaidfcehmdmcaaW.PrintLast Go.Proofs.YtnaidfcehmdmcaaW.PrintMore
open Go.Proofs.Ytnaidfcehmdmcaa.FC Go.Proofs.Ytnaidfcehmdmcaa.Mem

theorem ext16 (s t : ByteArray) (hs : s.size = 16) (ht : t.size = 16) (h : ∀ i, i < 16 → bn s i = bn t i) : s = t := by
  rw [← txt_self s hs, ← txt_self t ht]
  exact txt_ext fun i hi => by rw [bn_eq, bn_eq, h i hi]
theorem bn_txt (f : Nat → Int) (i : Nat) (hi : i < 16) (hf : By (f i)) : bn (txt f) i = (f i).toNat := by unfold bn; rw [txt_bt f i hi hf]
theorem tplace_lt (i : Nat) : tplace i < 16 := Nat.mod_lt _ (by decide)
theorem bn_turned (s : ByteArray) (i : Nat) (hi : i < 16) : bn (turnedS s) i = bn s (tplace i) := bn_txt _ i hi (bt_by _ _)
theorem turned_four (s : ByteArray) (hs : s.size = 16) : turnedS (turnedS (turnedS (turnedS s))) = s := by
  refine ext16 _ _ (txt_size _) hs fun i hi => ?_
  rw [bn_turned _ i hi, bn_turned _ _ (tplace_lt _), bn_turned _ _ (tplace_lt _), bn_turned _ _ (tplace_lt _)]
  congr 1
  unfold tplace
  omega
theorem by_mix (s : ByteArray) (i : Nat) (_hi : i < 16) : By (mixA (fun i => bt s i) i) := by
  have h := mixA_col s (i / 4) (i % 4) (Nat.mod_lt _ (by decide))
  rw [Nat.div_add_mod] at h
  rw [h, col_eq _ (fun k _ => bn_lt s _) _ (Nat.mod_lt _ (by decide))]
  refine .of (FM.xor_lt (bn_lt _ _) (FM.xor_lt ?_ ?_))
  · exact FM.xor_lt (FM.xor_lt (FM.xor_lt (bn_lt _ _) (bn_lt _ _)) (bn_lt _ _)) (bn_lt _ _)
  · exact FM.mul_lt _ _ (FM.xor_lt (bn_lt _ _) (bn_lt _ _))
/-- a column, by its place -/
def sm (a : Nat → Nat) : Nat := ((a 0 ^^^ a 1) ^^^ a 2) ^^^ a 3
def cm (a : Nat → Nat) (r : Nat) : Nat := a r ^^^ (sm a ^^^ m2 (a r ^^^ a ((r + 1) % 4)))
theorem bn_mixed (s : ByteArray) (c r : Nat) (hc : c < 4) (hr : r < 4) : bn (mixedS s) (4 * c + r) = cm (fun k => bn s (4 * c + k)) r := by
  have h := bn_txt (mixA fun i => bt s i) (4 * c + r) (by omega) (by_mix s _ (by omega))
  rw [mixA_col s c r hr, Int.toNat_natCast, col_eq _ (fun k _ => bn_lt s _) r hr] at h
  exact h
theorem cm_lt (a : Nat → Nat) (ha : ∀ i, a i < 256) (r : Nat) : cm a r < 256 :=
  FM.xor_lt (ha _) (FM.xor_lt (FM.xor_lt (FM.xor_lt (FM.xor_lt (ha _) (ha _)) (ha _)) (ha _)) (FM.mul_lt _ _ (FM.xor_lt (ha _) (ha _))))
def m4 (a : Nat) : Nat := m2 (m2 a)
theorem m2_lt (a : Nat) (ha : a < 256) : m2 a < 256 := FM.mul_lt _ _ ha
theorem cm_congr (a b : Nat → Nat) (h : ∀ r, r < 4 → a r = b r) (r : Nat) (hr : r < 4) : cm a r = cm b r := by
  unfold cm sm
  rw [h 0 (by decide), h 1 (by decide), h 2 (by decide), h 3 (by decide), h r hr, h _ (Nat.mod_lt _ (by decide))]
theorem cm_cm (a : Nat → Nat) (ha : ∀ i, a i < 256) (r : Nat) (hr : r < 4) : cm (cm a) r = a r ^^^ (m4 (a r) ^^^ m4 (a ((r + 2) % 4))) := by
  have h0 := ha 0; have h1 := ha 1; have h2 := ha 2; have h3 := ha 3
  have hS : sm a < 256 := FM.xor_lt (FM.xor_lt (FM.xor_lt h0 h1) h2) h3
  have e : ∀ r, r < 4 → cm a r = a r ^^^ (sm a ^^^ (m2 (a r) ^^^ m2 (a ((r + 1) % 4)))) := fun r _ => by unfold cm; rw [m2_xor _ _ (ha _) (ha _)]
  have hsm : sm (cm a) = sm a := by
    show ((cm a 0 ^^^ cm a 1) ^^^ cm a 2) ^^^ cm a 3 = sm a
    rw [e 0 (by decide), e 1 (by decide), e 2 (by decide), e 3 (by decide)]
    show ((_ ^^^ (_ ^^^ (_ ^^^ m2 (a 1)))) ^^^ (_ ^^^ (_ ^^^ (_ ^^^ m2 (a 2)))) ^^^ (_ ^^^ (_ ^^^ (_ ^^^ m2 (a 3))))) ^^^ (_ ^^^ (_ ^^^ (_ ^^^ m2 (a 0)))) = _
    unfold sm
    refine xor_ext _ _ fun i => ?_
    simp only [Nat.testBit_xor]
    generalize (a 0).testBit i = b0; generalize (a 1).testBit i = b1; generalize (a 2).testBit i = b2; generalize (a 3).testBit i = b3
    generalize (m2 (a 0)).testBit i = c0; generalize (m2 (a 1)).testBit i = c1; generalize (m2 (a 2)).testBit i = c2; generalize (m2 (a 3)).testBit i = c3
    revert b0 b1 b2 b3 c0 c1 c2 c3; decide
  have step : cm (cm a) r = cm a r ^^^ (sm a ^^^ (m2 (cm a r) ^^^ m2 (cm a ((r + 1) % 4)))) := by
    show cm a r ^^^ (sm (cm a) ^^^ m2 (cm a r ^^^ cm a ((r + 1) % 4))) = _
    rw [hsm, m2_xor _ _ (cm_lt a ha _) (cm_lt a ha _)]
  have m2e : ∀ r, r < 4 → m2 (cm a r) = m2 (a r) ^^^ (m2 (sm a) ^^^ (m4 (a r) ^^^ m4 (a ((r + 1) % 4)))) := fun r hr => by
    have l1 := m2_lt _ (ha r); have l2 := m2_lt _ (ha ((r + 1) % 4))
    rw [e r hr, m2_xor _ _ (ha r) (FM.xor_lt hS (FM.xor_lt l1 l2)), m2_xor _ _ hS (FM.xor_lt l1 l2), m2_xor _ _ l1 l2]
    rfl
  have hq : (r + 1) % 4 < 4 := Nat.mod_lt _ (by decide)
  rw [step, m2e r hr, m2e _ hq, e r hr]
  have e2 : ((r + 1) % 4 + 1) % 4 = (r + 2) % 4 := by omega
  rw [e2]
  generalize a r = x; generalize a ((r + 1) % 4) = y; generalize a ((r + 2) % 4) = z
  refine xor_ext _ _ fun i => ?_
  simp only [Nat.testBit_xor]
  generalize x.testBit i = b0; generalize (sm a).testBit i = b1; generalize (m2 x).testBit i = b2; generalize (m2 y).testBit i = b3
  generalize (m2 (sm a)).testBit i = c0; generalize (m4 x).testBit i = c1; generalize (m4 y).testBit i = c2; generalize (m4 z).testBit i = c3
  revert b0 b1 b2 b3 c0 c1 c2 c3; decide
theorem m4_xor (a b : Nat) (ha : a < 256) (hb : b < 256) : m4 (a ^^^ b) = m4 a ^^^ m4 b := by
  unfold m4; rw [m2_xor a b ha hb, m2_xor _ _ (m2_lt a ha) (m2_lt b hb)]
theorem m4_lt (a : Nat) (ha : a < 256) : m4 a < 256 := m2_lt _ (m2_lt _ ha)
theorem cm_four (a : Nat → Nat) (ha : ∀ i, a i < 256) (r : Nat) (hr : r < 4) : cm (cm (cm (cm a))) r = a r := by
  have hb : ∀ i, cm (cm a) i < 256 := cm_lt _ (cm_lt a ha)
  have hq : (r + 2) % 4 < 4 := Nat.mod_lt _ (by decide)
  rw [cm_cm _ hb r hr, cm_cm a ha r hr, cm_cm a ha _ hq]
  have e2 : ((r + 2) % 4 + 2) % 4 = r := by omega
  rw [e2]
  have l1 := ha r; have l2 := ha ((r + 2) % 4)
  rw [m4_xor _ _ l1 (FM.xor_lt (m4_lt _ l1) (m4_lt _ l2)), m4_xor _ _ l2 (FM.xor_lt (m4_lt _ l2) (m4_lt _ l1)), m4_xor _ _ (m4_lt _ l1) (m4_lt _ l2), m4_xor _ _ (m4_lt _ l2) (m4_lt _ l1)]
  generalize a r = x; generalize a ((r + 2) % 4) = z
  refine xor_ext _ _ fun i => ?_
  simp only [Nat.testBit_xor]
  generalize x.testBit i = b0; generalize (m4 x).testBit i = c1; generalize (m4 z).testBit i = c3; generalize (m4 (m4 x)).testBit i = c4; generalize (m4 (m4 z)).testBit i = c5
  revert b0 c1 c3 c4 c5; decide
theorem mixed_four (s : ByteArray) (hs : s.size = 16) : mixedS (mixedS (mixedS (mixedS s))) = s := by
  refine ext16 _ _ (txt_size _) hs fun i hi => ?_
  obtain ⟨c, r, rfl, hc, hr⟩ : ∃ c r, i = 4 * c + r ∧ c < 4 ∧ r < 4 := ⟨i / 4, i % 4, by omega, by omega, by omega⟩
  rw [bn_mixed _ c r hc hr]
  have e1 : ∀ r, r < 4 → bn (mixedS s) (4 * c + r) = cm (fun k => bn s (4 * c + k)) r := fun r hr => bn_mixed s c r hc hr
  have e2 : ∀ r, r < 4 → bn (mixedS (mixedS s)) (4 * c + r) = cm (cm (fun k => bn s (4 * c + k))) r := fun r hr => (bn_mixed _ c r hc hr).trans (cm_congr _ _ e1 r hr)
  have e3 : ∀ r, r < 4 → bn (mixedS (mixedS (mixedS s))) (4 * c + r) = cm (cm (cm (fun k => bn s (4 * c + k)))) r := fun r hr => (bn_mixed _ c r hc hr).trans (cm_congr _ _ e2 r hr)
  exact (cm_congr _ _ e3 r hr).trans (cm_four _ (fun k => bn_lt s _) r hr)
theorem boxed_inj (s t : ByteArray) (hs : s.size = 16) (ht : t.size = 16) (h : boxedS s = boxedS t) : s = t := by
  refine ext16 s t hs ht fun i hi => ?_
  have e := txt_inj (fun i _ => (bt_by s i).box) (fun i _ => (bt_by t i).box) h i hi
  rw [bn_eq, bn_eq, boxI_nat, boxI_nat] at e
  exact FM.box_inj _ _ (bn_lt s i) (bn_lt t i) (by exact_mod_cast e)
theorem turned_inj (s t : ByteArray) (hs : s.size = 16) (ht : t.size = 16) (h : turnedS s = turnedS t) : s = t := by
  rw [← turned_four s hs, ← turned_four t ht, h]
theorem mixed_inj (s t : ByteArray) (hs : s.size = 16) (ht : t.size = 16) (h : mixedS s = mixedS t) : s = t := by
  rw [← mixed_four s hs, ← mixed_four t ht, h]
end Go.Proofs.Ytnaidfcehmdmcaa.AS
