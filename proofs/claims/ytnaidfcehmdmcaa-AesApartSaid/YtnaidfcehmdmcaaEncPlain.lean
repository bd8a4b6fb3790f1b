/- aes.Encrypt, in plain Lean: different blocks are encrypted to different ones, by one key. -/
import Derived.Test.YtnaidfcehmdmcaaEncCon
import Derived.Test.YtnaidfcehmdmcaaAesFour
namespace Go.Proofs.Ytnaidfcehmdmcaa.Key
open Go.RowKit Go.Proofs.Ytnaidfcehmdmcaa.FC Go.Proofs.Ytnaidfcehmdmcaa.Mem Go.Proofs.Ytnaidfcehmdmcaa.AS Go.Proofs.Ytnaidfcehmdmcaa.Row
open Go.Proofs.YtnaidfcehmdmcaaW.PrintWords Go.Proofs.YtnaidfcehmdmcaaW.PrintLast Go.Proofs.YtnaidfcehmdmcaaW.PrintMore
theorem tplace_lt (i : Nat) : tplace i < 16 := Nat.mod_lt _ (by decide)
theorem txt_sub {f : Nat → Int} (h : ∀ i, By (f i)) : txt (subA f) = turnedS (boxedS (txt f)) := by
  unfold turnedS
  refine txt_ext fun i _ => ?_
  unfold subA boxedS
  rw [txt_bt _ _ (tplace_lt i) ((bt_by _ _).box), txt_bt f _ (tplace_lt i) (h _)]
theorem mixA_congr {f g : Nat → Int} (h : ∀ i, i < 16 → f i = g i) (i : Nat) (hi : i < 16) : mixA f i = mixA g i := by
  have h1 : 4 * (i / 4) ≤ 12 := by omega
  have h2 : i % 4 < 4 := Nat.mod_lt _ (by decide)
  have h3 : (i % 4 + 1) % 4 < 4 := Nat.mod_lt _ (by decide)
  unfold mixA mixI allI
  generalize i % 4 = r at *
  generalize 4 * (i / 4) = c at *
  generalize (r + 1) % 4 = q at *
  rw [h c (by omega), h (c + 1) (by omega), h (c + 2) (by omega), h (c + 3) (by omega), h (c + r) (by omega), h (c + q) (by omega)]
theorem txt_mix {f : Nat → Int} (h : ∀ i, By (f i)) : txt (mixA f) = mixedS (txt f) := by
  unfold mixedS
  exact txt_ext fun i hi => mixA_congr (fun j hj => (txt_bt f j hj (h j)).symm) i hi
theorem xor_cancel {a b k : Int} (ha : By a) (hb : By b) (hk : By k) (h : bits .xor .u8 a k = bits .xor .u8 b k) : a = b := by
  obtain ⟨a, rfl, la⟩ := ha.nat; obtain ⟨b, rfl, lb⟩ := hb.nat; obtain ⟨k, rfl, lk⟩ := hk.nat
  rw [FL.x8 a k la lk, FL.x8 b k lb lk] at h
  have h1 : a ^^^ k = b ^^^ k := by exact_mod_cast h
  have h2 : (a ^^^ k) ^^^ k = (b ^^^ k) ^^^ k := by rw [h1]
  rw [Nat.xor_assoc, Nat.xor_self, Nat.xor_zero, Nat.xor_assoc, Nat.xor_self, Nat.xor_zero] at h2
  rw [h2]
theorem encR_inj (T : Nat → ByteArray) (N : Nat) {st su : Nat → Int} (h : ∀ i, By (st i)) (k : ∀ i, By (su i)) : ∀ m, (∀ i, i < 16 → encR T N st m i = encR T N su m i) → ∀ i, i < 16 → st i = su i
  | 0, e, i, hi => xor_cancel (h i) (k i) (bt_by _ _) (e i hi)
  | m + 1, e, i, hi => by
    have hm := encR_by T N h m
    have km := encR_by T N k m
    refine encR_inj T N h k m ?_ i hi
    have e1 : txt (subA (encR T N st m)) = txt (subA (encR T N su m)) := by
      by_cases c : m + 2 < N
      · have e2 : ∀ j, j < 16 → mixA (subA (encR T N st m)) j = mixA (subA (encR T N su m)) j := fun j hj => by
          have := e j hj
          simp only [encR, if_pos c] at this
          exact xor_cancel (mixA_by (subA_by hm) j) (mixA_by (subA_by km) j) (bt_by _ _) this
        have e3 : txt (mixA (subA (encR T N st m))) = txt (mixA (subA (encR T N su m))) := txt_ext e2
        rw [txt_mix (subA_by hm), txt_mix (subA_by km)] at e3
        exact mixed_inj _ _ (AS.txt_size _) (AS.txt_size _) e3
      · have e2 : ∀ j, j < 16 → subA (encR T N st m) j = subA (encR T N su m) j := fun j hj => by
          have := e j hj
          simp only [encR, if_neg c] at this
          exact xor_cancel (subA_by hm j) (subA_by km j) (bt_by _ _) this
        exact txt_ext e2
    rw [txt_sub hm, txt_sub km] at e1
    have e4 := boxed_inj _ _ (AS.txt_size _) (AS.txt_size _) (turned_inj _ _ (AS.txt_size _) (AS.txt_size _) e1)
    exact txt_inj (fun i _ => hm i) (fun i _ => km i) e4
theorem encS_inj (key a b : ByteArray) (ha : a.size = 16) (hb : b.size = 16) (h : encS key a = encS key b) : a = b := by
  have e := txt_inj (fun i _ => encR_by _ _ (fun j => bt_by _ _) _ i) (fun i _ => encR_by _ _ (fun j => bt_by _ _) _ i) h
  have e2 := encR_inj _ _ (fun j => bt_by a _) (fun j => bt_by b _) _ e
  rw [← txt_self a ha, ← txt_self b hb]
  exact txt_ext e2
/-- the first round key is the key's beginning -/
theorem keyT_zero (key : ByteArray) (h : key.size = 16 ∨ key.size = 32) : key.extract 0 16 = keyT (keyB key) 0 := by
  have hs : (key.extract 0 16).size = 16 := by simp [ByteArray.size_extract]; omega
  rw [← txt_self _ hs]
  unfold keyT
  refine txt_ext fun i hi => ?_
  have h1 : keyB key (16 * 0 + i) = bt key i := by
    have := (keyF_law (key.size / 4) (by omega) key).first (16 * 0 + i) (by omega)
    unfold keyB; rw [this]; simp
  rw [h1, ← bt_nat key i (by omega), ← bt_nat _ i (by omega)]
  simp [ByteArray.getElem_extract]
end Go.Proofs.Ytnaidfcehmdmcaa.Key
