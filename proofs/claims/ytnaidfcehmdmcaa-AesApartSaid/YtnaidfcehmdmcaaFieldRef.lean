/- The reference's functions of the field, as printed, tied to the plain facts. -/
import Derived.Test.YtnaidfcehmdmcaaPFieldPowersx2
import Derived.Test.YtnaidfcehmdmcaaFieldLink
namespace Go.Proofs.Ytnaidfcehmdmcaa.FL
open Go.RowKit Go.Proofs.Ytnaidfcehmdmcaa.PFieldPowers Go.Proofs.YtnaidfcehmdmcaaW.PrintWords Go.Proofs.YtnaidfcehmdmcaaW.PrintLast Go.Proofs.YtnaidfcehmdmcaaW.PrintMore
open Go.Proofs.Ytnaidfcehmdmcaa.FM (xt mulAux mul pw pq inv cl red rmul rot box bitN rbox)

theorem bit_eq (n i : Nat) (hn : n < 2 ^ 63) (hi : i < 63) : saltusref05_Bit.f n i = some (((n.testBit i).toNat : Nat) : Int) := by
  unfold saltusref05_Bit.f
  rw [if_pos (by omega)]
  have e : shr .i64 (n : Int) (i : Int) = ((n / 2 ^ i : Nat) : Int) := by
    unfold shr
    have hm : min (i : Int).toNat IntKind.i64.bits = i := by simp [IntKind.bits]; omega
    rw [hm]; norm_cast
  have e1 : bits .and .i64 ((n / 2 ^ i : Nat) : Int) 1 = ((n / 2 ^ i &&& 1 : Nat) : Int) := n64 _ 1 (Nat.lt_of_le_of_lt (Nat.div_le_self _ _) hn) (by decide)
  rw [e, e1, Nat.and_one_is_mod, Nat.testBit_eq_decide_div_mod_eq]
  by_cases h : n / 2 ^ i % 2 = 1
  · simp [h]
  · have : n / 2 ^ i % 2 = 0 := by omega
    simp [this]
theorem pow2_eq (i : Nat) (hi : i < 62) : saltusref05_pow.f i = some ((2 ^ i : Nat) : Int) := by
  unfold saltusref05_pow.f
  rw [if_pos (by omega)]
  unfold shl
  have hm : min (i : Int).toNat IntKind.i64.bits = i := by simp [IntKind.bits]; omega
  rw [hm, Int.one_mul]
  have h : (2 : Nat) ^ i < 2 ^ 63 := Nat.pow_lt_pow_right (by decide) (by omega)
  have h0 : (0 : Int) ≤ ((2 ^ i : Nat) : Int) := Int.natCast_nonneg _
  have := wraps_i64 ((2 ^ i : Nat) : Int) h0 (by exact_mod_cast h)
  rw [← this]; simp
theorem wr (n : Nat) (hn : n < 2 ^ 62) : wrap64 (n : Int) = n := by unfold wrap64; omega
theorem cl_lt (f : Nat) : ∀ a b n i, a < 256 → n < 2 ^ 20 → f + i = 8 → cl f a b n i < 2 ^ 20 := by
  induction f with
  | zero => intro a b n i _ h _; exact h
  | succ f ih =>
    intro a b n i ha hn hi
    simp only [cl]
    refine ih _ _ _ _ ha ?_ (by omega)
    split
    · refine Nat.xor_lt_two_pow hn ?_
      have h1 : 2 ^ i ≤ 2 ^ 8 := Nat.pow_le_pow_right (by decide) (by omega)
      calc a * 2 ^ i ≤ 255 * 2 ^ 8 := Nat.mul_le_mul (by omega) h1
        _ < 2 ^ 20 := by decide
    · exact hn
theorem red_lt (f : Nat) : ∀ n i, n < 2 ^ 20 → i ≤ 14 → red f n i < 2 ^ 20 := by
  induction f with
  | zero => intro n i h _; exact h
  | succ f ih =>
    intro n i hn hi
    simp only [red]
    refine ih _ _ ?_ (by omega)
    split
    · refine Nat.xor_lt_two_pow hn ?_
      have h1 : 2 ^ (i - 8) ≤ 2 ^ 6 := Nat.pow_le_pow_right (by decide) (by omega)
      calc 283 * 2 ^ (i - 8) ≤ 283 * 2 ^ 6 := Nat.mul_le_mul (by omega) h1
        _ < 2 ^ 20 := by decide
    · exact hn
theorem ref_l1 (f : Nat) : ∀ (k n i : Nat), n < 2 ^ 20 → f + 7 = i → i ≤ 14 → f < k → saltusref05_Mul.l1 k n i = some ((red f n i % 256 : Nat) : Int) := by
  induction f with
  | zero =>
    intro k n i _ hi _ hk
    obtain ⟨k, rfl⟩ : ∃ m, k = m + 1 := ⟨k - 1, by omega⟩
    simp only [saltusref05_Mul.l1]
    rw [if_neg (by omega)]
    exact congrArg some (by simp only [red]; omega)
  | succ f ih =>
    intro k n i hn hi hi' hk
    obtain ⟨k, rfl⟩ : ∃ m, k = m + 1 := ⟨k - 1, by omega⟩
    simp only [saltusref05_Mul.l1]
    rw [if_pos (by omega), bit_eq n i (Nat.lt_trans hn (by decide)) (by omega)]
    simp only [Option.bind_some]
    have e8 : wrap64 ((i : Int) - 8) = ((i - 8 : Nat) : Int) := by unfold wrap64; omega
    have e1 : wrap64 ((i : Int) - 1) = ((i - 1 : Nat) : Int) := by unfold wrap64; omega
    rw [e8, e1, pow2_eq (i - 8) (by omega)]
    simp only [Option.bind_some]
    unfold red
    have h1 : 2 ^ (i - 8) ≤ 2 ^ 6 := Nat.pow_le_pow_right (by decide) (by omega)
    have h2 : 283 * 2 ^ (i - 8) < 2 ^ 20 := Nat.lt_of_le_of_lt (Nat.mul_le_mul (Nat.le_refl 283) h1) (by decide)
    have e2 : wrap64 (283 * ((2 ^ (i - 8) : Nat) : Int)) = ((283 * 2 ^ (i - 8) : Nat) : Int) := by
      rw [← wr (283 * 2 ^ (i - 8)) (Nat.lt_trans h2 (by decide))]; congr 1
    rw [e2, x64 _ _ (Nat.lt_trans hn (by decide)) (Nat.lt_trans h2 (by decide))]
    cases h : n.testBit i
    · rw [if_neg (by decide), if_neg (by decide), ih k _ _ hn (by omega) (by omega) (by omega)]
    · rw [if_pos (by decide), if_pos rfl, ih k _ _ (Nat.xor_lt_two_pow hn h2) (by omega) (by omega) (by omega)]
theorem ref_l0 (f : Nat) : ∀ (k a b n i : Nat), a < 256 → b < 256 → n < 2 ^ 20 → f + i = 8 → f + 9 < k →
    saltusref05_Mul.l0 k a b n i = some ((red 7 (cl f a b n i) 14 % 256 : Nat) : Int) := by
  induction f with
  | zero =>
    intro k a b n i _ _ hn hi hk
    obtain ⟨k, rfl⟩ : ∃ m, k = m + 1 := ⟨k - 1, by omega⟩
    simp only [saltusref05_Mul.l0]
    rw [if_neg (by omega)]
    exact ref_l1 7 k n 14 hn rfl (by decide) (by omega)
  | succ f ih =>
    intro k a b n i ha hb hn hi hk
    obtain ⟨k, rfl⟩ : ∃ m, k = m + 1 := ⟨k - 1, by omega⟩
    simp only [saltusref05_Mul.l0]
    rw [if_pos (by omega), wr b (by omega), bit_eq b i (by omega) (by omega)]
    simp only [Option.bind_some]
    rw [w1 i (by omega), pow2_eq i (by omega)]
    simp only [Option.bind_some]
    unfold cl
    have h1 : 2 ^ i ≤ 2 ^ 8 := Nat.pow_le_pow_right (by decide) (by omega)
    have h2 : a * 2 ^ i < 2 ^ 20 := Nat.lt_of_le_of_lt (Nat.mul_le_mul (show a ≤ 255 by omega) h1) (by decide)
    have e2 : wrap64 (wrap64 (a : Int) * ((2 ^ i : Nat) : Int)) = ((a * 2 ^ i : Nat) : Int) := by
      rw [wr a (by omega), ← wr (a * 2 ^ i) (Nat.lt_trans h2 (by decide))]; congr 1
    rw [e2, x64 _ _ (Nat.lt_trans hn (by decide)) (Nat.lt_trans h2 (by decide))]
    cases h : b.testBit i
    · rw [if_neg (by decide), if_neg (by decide), ih k _ _ _ _ ha hb hn (by omega) (by omega)]
    · rw [if_pos (by decide), if_pos rfl, ih k _ _ _ _ ha hb (Nat.xor_lt_two_pow hn h2) (by omega) (by omega)]
theorem refmul_eq (k a b : Nat) (ha : a < 256) (hb : b < 256) (hk : 17 < k) : saltusref05_Mul.f k a b = some ((mul a b : Nat) : Int) := by
  rw [← FM.rmul_eq a b ha hb]
  exact ref_l0 8 k a b 0 0 ha hb (by decide) rfl hk
theorem refpow_l0 (n : Nat) (hn : n < 2 ^ 30) (d : Nat) : ∀ (k a o i : Nat), a < 256 → o = pw a i → d + i = n → d + 18 < k →
    saltusref05_Pow.l0 k a n o i = some ((pw a n : Nat) : Int) := by
  induction d with
  | zero =>
    intro k a o i ha ho hi hk
    obtain ⟨k, rfl⟩ : ∃ m, k = m + 1 := ⟨k - 1, by omega⟩
    simp only [saltusref05_Pow.l0]
    obtain rfl : i = n := by omega
    rw [if_neg (by omega), ho]
  | succ d ih =>
    intro k a o i ha ho hi hk
    obtain ⟨k, rfl⟩ : ∃ m, k = m + 1 := ⟨k - 1, by omega⟩
    simp only [saltusref05_Pow.l0]
    have hol : o < 256 := by rw [ho]; exact FM.pw_lt a ha i
    rw [if_pos (by omega), refmul_eq k o a hol ha (by omega)]
    simp only [Option.bind_some]
    have e1 : wrap64 ((i : Int) + 1) = ((i + 1 : Nat) : Int) := by unfold wrap64; omega
    rw [e1]
    exact ih k a _ _ ha (by rw [ho]; rfl) (by omega) (by omega)
theorem refpow_eq (k a n : Nat) (hn : n < 1000) (ha : a < 256) (hk : 1100 < k) : saltusref05_Pow.f k a n = some ((pw a n : Nat) : Int) :=
  refpow_l0 n (by omega) n k a 1 0 ha rfl (by omega) (by omega)
theorem refpow_neg (k a : Nat) (n : Int) (hn : n ≤ 0) (hk : 0 < k) : saltusref05_Pow.f k a n = some 1 := by
  obtain ⟨k, rfl⟩ : ∃ m, k = m + 1 := ⟨k - 1, by omega⟩
  unfold saltusref05_Pow.f
  simp only [saltusref05_Pow.l0]
  rw [if_neg (by omega)]

end Go.Proofs.Ytnaidfcehmdmcaa.FL
