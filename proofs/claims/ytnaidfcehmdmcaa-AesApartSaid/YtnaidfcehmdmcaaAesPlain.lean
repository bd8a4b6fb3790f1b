/- AES's steps, as the reference has them, are what the program's walks tell. -/
import Derived.Test.YtnaidfcehmdmcaaAesAlive
import Derived.Test.YtnaidfcehmdmcaaAesRef
namespace Go.Proofs.Ytnaidfcehmdmcaa.AS
open Go.RowKit Go.Proofs.Ytnaidfcehmdmcaa.PAesEncrypts Go.Proofs.YtnaidfcehmdmcaaW.PrintWords Go.Proofs.YtnaidfcehmdmcaaW.PrintLast Go.Proofs.YtnaidfcehmdmcaaW.PrintMore
open Go.Proofs.Ytnaidfcehmdmcaa.FC Go.Proofs.Ytnaidfcehmdmcaa.Mem
open Go.Proofs.Ytnaidfcehmdmcaa.FL (x8)

theorem refbox_bt (k : Nat) (s : ByteArray) (i : Int) (hk : 300 < k) : saltusref05_Box.f k (bt s i) = some (boxI (bt s i)) := by
  obtain ⟨n, hn, hl⟩ := (bt_by s i).nat
  rw [hn, boxI_nat]
  exact FE.refbox_eq k n hl hk
theorem wsum (i j : Nat) (h : i + j < 2 ^ 62) : wrap64 ((i : Int) + (j : Int)) = ((i + j : Nat) : Int) := FE.wadd i j h
theorem w1' (i : Nat) (h : i < 2 ^ 60) : wrap64 ((i : Int) + 1) = ((i + 1 : Nat) : Int) := wsum i 1 (by omega)
theorem range_snoc (f : Nat → Int) (i : Nat) : (List.range i).map f ++ [f i] = (List.range (i + 1)).map f := by rw [List.range_succ, List.map_append]; rfl

theorem refBoxed_l0 (s : ByteArray) (hs : s.size = 16) (d : Nat) : ∀ (k i : Nat), d + i = 16 → d + 301 < k →
    saltusref06_Boxed.l0 k s ((List.range i).map fun j : Nat => boxI (bt s j)) i = some (boxedS s) := by
  induction d with
  | zero =>
    intro k i hi hk
    obtain ⟨k, rfl⟩ : ∃ m, k = m + 1 := ⟨k - 1, by omega⟩
    obtain rfl : i = 16 := by omega
    simp only [saltusref06_Boxed.l0]
    rw [if_neg (by omega)]
    rfl
  | succ d ih =>
    intro k i hi hk
    obtain ⟨k, rfl⟩ : ∃ m, k = m + 1 := ⟨k - 1, by omega⟩
    simp only [saltusref06_Boxed.l0]
    rw [if_pos (by omega), if_pos (by omega), refbox_bt k s i (by omega)]
    simp only [Option.bind_some]
    rw [if_pos (by simp; omega), w1' i (by omega), range_snoc (fun j : Nat => boxI (bt s j)) i]
    exact ih k (i + 1) (by omega) (by omega)
theorem refBoxed_eq (k : Nat) (s : ByteArray) (hs : s.size = 16) (hk : 400 < k) : saltusref06_Boxed.f k s = some (boxedS s) :=
  refBoxed_l0 s hs 16 k 0 rfl (by omega)

theorem tplace_eq (c r : Nat) (_hc : c < 4) (hr : r < 4) : tplace (4 * c + r) = 4 * ((c + r) % 4) + r := by unfold tplace; omega
theorem rix (c r : Nat) (hc : c < 4) (hr : r < 4) : wrap64 (wrap64 (4 * (Int.tmod (wrap64 ((c : Int) + (r : Int))) 4)) + (r : Int)) = ((4 * ((c + r) % 4) + r : Nat) : Int) := by
  rw [wsum c r (by omega), show Int.tmod ((c + r : Nat) : Int) 4 = (((c + r) % 4 : Nat) : Int) from FE.tm (c + r) 4]
  have h : (c + r) % 4 < 4 := Nat.mod_lt _ (by decide)
  generalize (c + r) % 4 = m at *
  unfold wrap64
  omega
theorem refTurned_go (s : ByteArray) (hs : s.size = 16) (d : Nat) : ∀ (k c r : Nat), c < 4 → r ≤ 4 → d + 5 * c + r = 20 → 2 * d + 2 < k →
    saltusref06_Turned.l1 k s ((List.range (4 * c + r)).map fun j : Nat => bt s (tplace j)) c r = some (turnedS s) := by
  induction d with
  | zero => intro k c r hc hr hd hk; omega
  | succ d ih =>
    intro k c r hc hr hd hk
    obtain ⟨k, rfl⟩ : ∃ m, k = m + 1 := ⟨k - 1, by omega⟩
    simp only [saltusref06_Turned.l1]
    by_cases h4 : r < 4
    · have hm : 4 * ((c + r) % 4) + r < 16 := by omega
      rw [if_pos (by omega), rix c r hc h4, if_pos (by omega), if_pos (by omega), if_pos (by simp; omega), w1' r (by omega)]
      have e : bt s ((4 * ((c + r) % 4) + r : Nat) : Int) = bt s (tplace (4 * c + r)) := by rw [tplace_eq c r hc h4]
      rw [e, range_snoc (fun j : Nat => bt s (tplace j)) (4 * c + r)]
      exact ih k c (r + 1) hc (by omega) (by omega) (by omega)
    · obtain rfl : r = 4 := by omega
      rw [if_neg (by omega), w1' c (by omega)]
      obtain ⟨k, rfl⟩ : ∃ m, k = m + 1 := ⟨k - 1, by omega⟩
      simp only [saltusref06_Turned.l0]
      by_cases h5 : c + 1 < 4
      · rw [if_pos (by omega)]
        have := ih k (c + 1) 0 h5 (by omega) (by omega) (by omega)
        exact this
      · rw [if_neg (by omega)]
        obtain rfl : c = 3 := by omega
        rfl
theorem refTurned_eq (k : Nat) (s : ByteArray) (hs : s.size = 16) (hk : 100 < k) : saltusref06_Turned.f k s = some (turnedS s) := by
  obtain ⟨k, rfl⟩ : ∃ m, k = m + 1 := ⟨k - 1, by omega⟩
  unfold saltusref06_Turned.f
  simp only [saltusref06_Turned.l0]
  rw [if_pos (by decide)]
  exact refTurned_go s hs 20 k 0 0 (by decide) (by decide) rfl (by omega)

/-! mixed -/
def m2 (a : Nat) : Nat := FM.mul a 2
theorem m3 (a : Nat) (ha : a < 256) : FM.mul a 3 = m2 a ^^^ a := by
  have := FM.mul_right a 2 1
  rw [FM.mul_one a ha] at this
  exact this
theorem m2_xor (a b : Nat) (ha : a < 256) (hb : b < 256) : m2 (a ^^^ b) = m2 a ^^^ m2 b := FM.mul_left a b 2 ha hb
theorem xor_ext (a b : Nat) (h : ∀ i, a.testBit i = b.testBit i) : a = b := Nat.eq_of_testBit_eq h
def fac (r k : Nat) : Nat := if r = k then 2 else if (r + 1) % 4 = k then 3 else 1
def col (a : Nat → Nat) (r : Nat) : Nat := (((0 ^^^ FM.mul (a 0) (fac r 0)) ^^^ FM.mul (a 1) (fac r 1)) ^^^ FM.mul (a 2) (fac r 2)) ^^^ FM.mul (a 3) (fac r 3)
theorem col_eq (a : Nat → Nat) (ha : ∀ i, i < 4 → a i < 256) (r : Nat) (hr : r < 4) :
    col a r = a r ^^^ ((((a 0 ^^^ a 1) ^^^ a 2) ^^^ a 3) ^^^ m2 (a r ^^^ a ((r + 1) % 4))) := by
  have h0 := ha 0 (by decide); have h1 := ha 1 (by decide); have h2 := ha 2 (by decide); have h3 := ha 3 (by decide)
  have : r = 0 ∨ r = 1 ∨ r = 2 ∨ r = 3 := by omega
  rcases this with rfl | rfl | rfl | rfl
  · show (((0 ^^^ m2 (a 0)) ^^^ FM.mul (a 1) 3) ^^^ FM.mul (a 2) 1) ^^^ FM.mul (a 3) 1 = a 0 ^^^ ((((a 0 ^^^ a 1) ^^^ a 2) ^^^ a 3) ^^^ m2 (a 0 ^^^ a 1))
    rw [m3 _ h1, FM.mul_one _ h2, FM.mul_one _ h3, m2_xor _ _ h0 h1]
    generalize a 0 = x0; generalize a 1 = x1; generalize a 2 = x2; generalize a 3 = x3
    refine xor_ext _ _ fun i => ?_
    simp only [Nat.testBit_xor, Nat.zero_testBit]
    generalize x0.testBit i = b0; generalize x1.testBit i = b1; generalize x2.testBit i = b2; generalize x3.testBit i = b3; generalize (m2 x0).testBit i = c0; generalize (m2 x1).testBit i = c1
    revert b0 b1 b2 b3 c0 c1; decide
  · show (((0 ^^^ FM.mul (a 0) 1) ^^^ m2 (a 1)) ^^^ FM.mul (a 2) 3) ^^^ FM.mul (a 3) 1 = a 1 ^^^ ((((a 0 ^^^ a 1) ^^^ a 2) ^^^ a 3) ^^^ m2 (a 1 ^^^ a 2))
    rw [m3 _ h2, FM.mul_one _ h0, FM.mul_one _ h3, m2_xor _ _ h1 h2]
    generalize a 0 = x0; generalize a 1 = x1; generalize a 2 = x2; generalize a 3 = x3
    refine xor_ext _ _ fun i => ?_
    simp only [Nat.testBit_xor, Nat.zero_testBit]
    generalize x0.testBit i = b0; generalize x1.testBit i = b1; generalize x2.testBit i = b2; generalize x3.testBit i = b3; generalize (m2 x1).testBit i = c0; generalize (m2 x2).testBit i = c1
    revert b0 b1 b2 b3 c0 c1; decide
  · show (((0 ^^^ FM.mul (a 0) 1) ^^^ FM.mul (a 1) 1) ^^^ m2 (a 2)) ^^^ FM.mul (a 3) 3 = a 2 ^^^ ((((a 0 ^^^ a 1) ^^^ a 2) ^^^ a 3) ^^^ m2 (a 2 ^^^ a 3))
    rw [m3 _ h3, FM.mul_one _ h0, FM.mul_one _ h1, m2_xor _ _ h2 h3]
    generalize a 0 = x0; generalize a 1 = x1; generalize a 2 = x2; generalize a 3 = x3
    refine xor_ext _ _ fun i => ?_
    simp only [Nat.testBit_xor, Nat.zero_testBit]
    generalize x0.testBit i = b0; generalize x1.testBit i = b1; generalize x2.testBit i = b2; generalize x3.testBit i = b3; generalize (m2 x2).testBit i = c0; generalize (m2 x3).testBit i = c1
    revert b0 b1 b2 b3 c0 c1; decide
  · show (((0 ^^^ FM.mul (a 0) 3) ^^^ FM.mul (a 1) 1) ^^^ FM.mul (a 2) 1) ^^^ m2 (a 3) = a 3 ^^^ ((((a 0 ^^^ a 1) ^^^ a 2) ^^^ a 3) ^^^ m2 (a 3 ^^^ a 0))
    rw [m3 _ h0, FM.mul_one _ h1, FM.mul_one _ h2, m2_xor _ _ h3 h0]
    generalize a 0 = x0; generalize a 1 = x1; generalize a 2 = x2; generalize a 3 = x3
    refine xor_ext _ _ fun i => ?_
    simp only [Nat.testBit_xor, Nat.zero_testBit]
    generalize x0.testBit i = b0; generalize x1.testBit i = b1; generalize x2.testBit i = b2; generalize x3.testBit i = b3; generalize (m2 x3).testBit i = c0; generalize (m2 x0).testBit i = c1
    revert b0 b1 b2 b3 c0 c1; decide

/-- a byte as a natural number -/
def bn (s : ByteArray) (i : Nat) : Nat := (bt s i).toNat
theorem bn_eq (s : ByteArray) (i : Nat) : bt s (i : Int) = ((bn s i : Nat) : Int) := (Int.toNat_of_nonneg (bt_by s i).lo).symm
theorem bn_lt (s : ByteArray) (i : Nat) : bn s i < 256 := by have := (bt_by s i).hi; have := (bt_by s i).lo; unfold bn; omega
theorem mixA_col (s : ByteArray) (c r : Nat) (hr : r < 4) : mixA (fun i => bt s i) (4 * c + r) = ((col (fun k => bn s (4 * c + k)) r : Nat) : Int) := by
  have e1 : 4 * ((4 * c + r) / 4) = 4 * c := by omega
  have e2 : (4 * c + r) % 4 = r := by omega
  have hb := fun k => bn_lt s (4 * c + k)
  rw [col_eq _ (fun k _ => hb k) r hr]
  unfold mixA
  rw [e1, e2]
  unfold mixI allI
  simp only [bn_eq]
  have l0 := bn_lt s (4 * c)
  have l1 := hb 1; have l2 := hb 2; have l3 := hb 3; have lr := hb r; have lq := hb ((r + 1) % 4)
  have t1 := FM.xor_lt l0 l1; have t2 := FM.xor_lt t1 l2; have t3 := FM.xor_lt t2 l3; have t4 := FM.xor_lt lr lq
  rw [x8 _ _ l0 l1, x8 _ _ t1 l2, x8 _ _ t2 l3, x8 _ _ lr lq, show (2 : Int) = ((2 : Nat) : Int) from rfl, mulI_nat]
  have t5 := FM.mul_lt _ 2 t4
  rw [x8 _ _ t3 t5, x8 _ _ lr (FM.xor_lt t3 t5)]
  rfl
theorem factor_eq (r k : Nat) (hr : r < 4) : saltusref06_factor.f r k = some ((fac r k : Nat) : Int) := by
  unfold saltusref06_factor.f fac
  have e : Int.tmod (wrap64 ((r : Int) + 1)) 4 = (((r + 1) % 4 : Nat) : Int) := by
    rw [w1' r (by omega)]; exact FE.tm (r + 1) 4
  rw [e]
  by_cases h : r = k
  · rw [if_pos (by omega), if_pos h]; rfl
  · rw [if_neg (by omega), if_neg h]
    by_cases h2 : (r + 1) % 4 = k
    · rw [if_pos (by omega), if_pos h2]; rfl
    · rw [if_neg (by omega), if_neg h2]; rfl
theorem fac_lt (r k : Nat) : fac r k < 256 := by unfold fac; split; · decide
                                                 split <;> decide
theorem cix (c j : Nat) (hc : c < 4) (hj : j < 4) : wrap64 (wrap64 (4 * (c : Int)) + (j : Int)) = ((4 * c + j : Nat) : Int) := by unfold wrap64; omega
def colTo (a : Nat → Nat) (r : Nat) : Nat → Nat
  | 0 => 0
  | k + 1 => colTo a r k ^^^ FM.mul (a k) (fac r k)
theorem colTo_lt (a : Nat → Nat) (ha : ∀ i, a i < 256) (r : Nat) : ∀ k, colTo a r k < 256
  | 0 => by show 0 < 256; decide
  | k + 1 => FM.xor_lt (colTo_lt a ha r k) (FM.mul_lt _ _ (ha k))
theorem refMixed_l2 (s : ByteArray) (hs : s.size = 16) (c r : Nat) (hc : c < 4) (hr : r < 4) (l : List Int) (hl : l.length < 100) (d : Nat) : ∀ (k j : Nat), d + j = 4 → d + 30 < k →
    saltusref06_Mixed.l2 k s l c r ((colTo (fun i => bn s (4 * c + i)) r j : Nat) : Int) j = saltusref06_Mixed.l1 (k - d - 1) s (l ++ [mixA (fun i => bt s i) (4 * c + r)]) c ((r + 1 : Nat) : Int) := by
  induction d with
  | zero =>
    intro k j hj hk
    obtain ⟨k, rfl⟩ : ∃ m, k = m + 1 := ⟨k - 1, by omega⟩
    obtain rfl : j = 4 := by omega
    simp only [saltusref06_Mixed.l2]
    rw [if_neg (by omega), if_pos (by omega), w1' r (by omega), mixA_col s c r hr]
    rfl
  | succ d ih =>
    intro k j hj hk
    obtain ⟨k, rfl⟩ : ∃ m, k = m + 1 := ⟨k - 1, by omega⟩
    simp only [saltusref06_Mixed.l2]
    rw [if_pos (by omega), cix c j hc (by omega), if_pos (by omega), if_pos (by omega), factor_eq r j hr]
    simp only [Option.bind_some]
    rw [bn_eq, FE.refmul_eq k _ _ (bn_lt s _) (fac_lt r j) (by omega)]
    simp only [Option.bind_some]
    rw [x8 _ _ (colTo_lt _ (fun i => bn_lt s _) r j) (FM.mul_lt _ _ (bn_lt s _)), w1' j (by omega)]
    have := ih k (j + 1) (by omega) (by omega)
    rw [show k + 1 - (d + 1) - 1 = k - d - 1 by omega]
    exact this
theorem refMixed_go (s : ByteArray) (hs : s.size = 16) (d : Nat) : ∀ (k c r : Nat), c < 4 → r ≤ 4 → d + 5 * c + r = 20 → 10 * d + 50 < k →
    saltusref06_Mixed.l1 k s ((List.range (4 * c + r)).map fun j : Nat => mixA (fun i => bt s i) j) c r = some (mixedS s) := by
  induction d with
  | zero => intro k c r hc hr hd hk; omega
  | succ d ih =>
    intro k c r hc hr hd hk
    obtain ⟨k, rfl⟩ : ∃ m, k = m + 1 := ⟨k - 1, by omega⟩
    simp only [saltusref06_Mixed.l1]
    by_cases h4 : r < 4
    · rw [if_pos (by omega)]
      have := refMixed_l2 s hs c r hc h4 ((List.range (4 * c + r)).map fun j : Nat => mixA (fun i => bt s i) j) (by simp; omega) 4 k 0 rfl (by omega)
      rw [range_snoc (fun j : Nat => mixA (fun i => bt s i) j) (4 * c + r)] at this
      exact this.trans (ih (k - 4 - 1) c (r + 1) hc (by omega) (by omega) (by omega))
    · obtain rfl : r = 4 := by omega
      rw [if_neg (by omega), w1' c (by omega)]
      obtain ⟨k, rfl⟩ : ∃ m, k = m + 1 := ⟨k - 1, by omega⟩
      simp only [saltusref06_Mixed.l0]
      by_cases h5 : c + 1 < 4
      · rw [if_pos (by omega)]
        exact ih k (c + 1) 0 h5 (by omega) (by omega) (by omega)
      · rw [if_neg (by omega)]
        obtain rfl : c = 3 := by omega
        rfl
theorem refMixed_eq (k : Nat) (s : ByteArray) (hs : s.size = 16) (hk : 400 < k) : saltusref06_Mixed.f k s = some (mixedS s) := by
  obtain ⟨k, rfl⟩ : ∃ m, k = m + 1 := ⟨k - 1, by omega⟩
  unfold saltusref06_Mixed.f
  simp only [saltusref06_Mixed.l0]
  rw [if_pos (by decide)]
  exact refMixed_go s hs 20 k 0 0 (by decide) (by decide) rfl (by omega)
end Go.Proofs.Ytnaidfcehmdmcaa.AS
