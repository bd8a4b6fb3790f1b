/- The reference's functions of the field, as printed, tied to the plain facts. -/
import Derived.Test.YtnaidfcehmdmcaaPAesEncryptsx3
import Derived.Test.YtnaidfcehmdmcaaFieldLink
namespace Go.Proofs.Ytnaidfcehmdmcaa.FE
open Go.RowKit Go.Proofs.Ytnaidfcehmdmcaa.PAesEncrypts Go.Proofs.YtnaidfcehmdmcaaW.PrintWords Go.Proofs.YtnaidfcehmdmcaaW.PrintLast Go.Proofs.YtnaidfcehmdmcaaW.PrintMore
open Go.Proofs.Ytnaidfcehmdmcaa.FL (wraps_i64 n64 x64 w1 x8 n8 o8)
open Go.Proofs.Ytnaidfcehmdmcaa.FM (xt mulAux mul pw pq inv cl red rmul rot box bitN rbox)

theorem bit_eq (n i : Nat) (hn : n < 2 ^ 63) (hi : i < 63) : saltusref05_Bit.f n i = some (((n.testBit i).toNat : Nat) : Int) := by
  unfold saltusref05_Bit.f
  rw [if_pos (by omega)]
  have e : shr .i64 (n : Int) (i : Int) = ((n / 2 ^ i : Nat) : Int) := by
    unfold shr
    have hm : min (i : Int).toNat IntKind.i64.bits = i := by simp [IntKind.bits]; omega
    rw [hm]; norm_cast
  have e1 : bits .and .i64 ((n / 2 ^ i : Nat) : Int) 1 = ((n / 2 ^ i &&& 1 : Nat) : Int) := n64 _ 1 (Nat.lt_of_le_of_lt (Nat.div_le_self _ _) hn) (by decide)
  rw [e, e1, Nat.and_one_is_mod, Nat.testBit_eq_decide_div_mod_eq]
  by_cases h : n / 2 ^ i % 2 = 1
  · simp [h]
  · have : n / 2 ^ i % 2 = 0 := by omega
    simp [this]
theorem pow2_eq (i : Nat) (hi : i < 62) : saltusref05_pow.f i = some ((2 ^ i : Nat) : Int) := by
  unfold saltusref05_pow.f
  rw [if_pos (by omega)]
  unfold shl
  have hm : min (i : Int).toNat IntKind.i64.bits = i := by simp [IntKind.bits]; omega
  rw [hm, Int.one_mul]
  have h : (2 : Nat) ^ i < 2 ^ 63 := Nat.pow_lt_pow_right (by decide) (by omega)
  have h0 : (0 : Int) ≤ ((2 ^ i : Nat) : Int) := Int.natCast_nonneg _
  have := wraps_i64 ((2 ^ i : Nat) : Int) h0 (by exact_mod_cast h)
  rw [← this]; simp
theorem wr (n : Nat) (hn : n < 2 ^ 62) : wrap64 (n : Int) = n := by unfold wrap64; omega
theorem cl_lt (f : Nat) : ∀ a b n i, a < 256 → n < 2 ^ 20 → f + i = 8 → cl f a b n i < 2 ^ 20 := by
  induction f with
  | zero => intro a b n i _ h _; exact h
  | succ f ih =>
    intro a b n i ha hn hi
    simp only [cl]
    refine ih _ _ _ _ ha ?_ (by omega)
    split
    · refine Nat.xor_lt_two_pow hn ?_
      have h1 : 2 ^ i ≤ 2 ^ 8 := Nat.pow_le_pow_right (by decide) (by omega)
      calc a * 2 ^ i ≤ 255 * 2 ^ 8 := Nat.mul_le_mul (by omega) h1
        _ < 2 ^ 20 := by decide
    · exact hn
theorem red_lt (f : Nat) : ∀ n i, n < 2 ^ 20 → i ≤ 14 → red f n i < 2 ^ 20 := by
  induction f with
  | zero => intro n i h _; exact h
  | succ f ih =>
    intro n i hn hi
    simp only [red]
    refine ih _ _ ?_ (by omega)
    split
    · refine Nat.xor_lt_two_pow hn ?_
      have h1 : 2 ^ (i - 8) ≤ 2 ^ 6 := Nat.pow_le_pow_right (by decide) (by omega)
      calc 283 * 2 ^ (i - 8) ≤ 283 * 2 ^ 6 := Nat.mul_le_mul (by omega) h1
        _ < 2 ^ 20 := by decide
    · exact hn
theorem ref_l1 (f : Nat) : ∀ (k n i : Nat), n < 2 ^ 20 → f + 7 = i → i ≤ 14 → f < k → saltusref05_Mul.l1 k n i = some ((red f n i % 256 : Nat) : Int) := by
  induction f with
  | zero =>
    intro k n i _ hi _ hk
    obtain ⟨k, rfl⟩ : ∃ m, k = m + 1 := ⟨k - 1, by omega⟩
    simp only [saltusref05_Mul.l1]
    rw [if_neg (by omega)]
    exact congrArg some (by simp only [red]; omega)
  | succ f ih =>
    intro k n i hn hi hi' hk
    obtain ⟨k, rfl⟩ : ∃ m, k = m + 1 := ⟨k - 1, by omega⟩
    simp only [saltusref05_Mul.l1]
    rw [if_pos (by omega), bit_eq n i (Nat.lt_trans hn (by decide)) (by omega)]
    simp only [Option.bind_some]
    have e8 : wrap64 ((i : Int) - 8) = ((i - 8 : Nat) : Int) := by unfold wrap64; omega
    have e1 : wrap64 ((i : Int) - 1) = ((i - 1 : Nat) : Int) := by unfold wrap64; omega
    rw [e8, e1, pow2_eq (i - 8) (by omega)]
    simp only [Option.bind_some]
    unfold red
    have h1 : 2 ^ (i - 8) ≤ 2 ^ 6 := Nat.pow_le_pow_right (by decide) (by omega)
    have h2 : 283 * 2 ^ (i - 8) < 2 ^ 20 := Nat.lt_of_le_of_lt (Nat.mul_le_mul (Nat.le_refl 283) h1) (by decide)
    have e2 : wrap64 (283 * ((2 ^ (i - 8) : Nat) : Int)) = ((283 * 2 ^ (i - 8) : Nat) : Int) := by
      rw [← wr (283 * 2 ^ (i - 8)) (Nat.lt_trans h2 (by decide))]; congr 1
    rw [e2, x64 _ _ (Nat.lt_trans hn (by decide)) (Nat.lt_trans h2 (by decide))]
    cases h : n.testBit i
    · rw [if_neg (by decide), if_neg (by decide), ih k _ _ hn (by omega) (by omega) (by omega)]
    · rw [if_pos (by decide), if_pos rfl, ih k _ _ (Nat.xor_lt_two_pow hn h2) (by omega) (by omega) (by omega)]
theorem ref_l0 (f : Nat) : ∀ (k a b n i : Nat), a < 256 → b < 256 → n < 2 ^ 20 → f + i = 8 → f + 9 < k →
    saltusref05_Mul.l0 k a b n i = some ((red 7 (cl f a b n i) 14 % 256 : Nat) : Int) := by
  induction f with
  | zero =>
    intro k a b n i _ _ hn hi hk
    obtain ⟨k, rfl⟩ : ∃ m, k = m + 1 := ⟨k - 1, by omega⟩
    simp only [saltusref05_Mul.l0]
    rw [if_neg (by omega)]
    exact ref_l1 7 k n 14 hn rfl (by decide) (by omega)
  | succ f ih =>
    intro k a b n i ha hb hn hi hk
    obtain ⟨k, rfl⟩ : ∃ m, k = m + 1 := ⟨k - 1, by omega⟩
    simp only [saltusref05_Mul.l0]
    rw [if_pos (by omega), wr b (by omega), bit_eq b i (by omega) (by omega)]
    simp only [Option.bind_some]
    rw [w1 i (by omega), pow2_eq i (by omega)]
    simp only [Option.bind_some]
    unfold cl
    have h1 : 2 ^ i ≤ 2 ^ 8 := Nat.pow_le_pow_right (by decide) (by omega)
    have h2 : a * 2 ^ i < 2 ^ 20 := Nat.lt_of_le_of_lt (Nat.mul_le_mul (show a ≤ 255 by omega) h1) (by decide)
    have e2 : wrap64 (wrap64 (a : Int) * ((2 ^ i : Nat) : Int)) = ((a * 2 ^ i : Nat) : Int) := by
      rw [wr a (by omega), ← wr (a * 2 ^ i) (Nat.lt_trans h2 (by decide))]; congr 1
    rw [e2, x64 _ _ (Nat.lt_trans hn (by decide)) (Nat.lt_trans h2 (by decide))]
    cases h : b.testBit i
    · rw [if_neg (by decide), if_neg (by decide), ih k _ _ _ _ ha hb hn (by omega) (by omega)]
    · rw [if_pos (by decide), if_pos rfl, ih k _ _ _ _ ha hb (Nat.xor_lt_two_pow hn h2) (by omega) (by omega)]
theorem refmul_eq (k a b : Nat) (ha : a < 256) (hb : b < 256) (hk : 17 < k) : saltusref05_Mul.f k a b = some ((mul a b : Nat) : Int) := by
  rw [← FM.rmul_eq a b ha hb]
  exact ref_l0 8 k a b 0 0 ha hb (by decide) rfl hk
theorem refpow_l0 (n : Nat) (hn : n < 2 ^ 30) (d : Nat) : ∀ (k a o i : Nat), a < 256 → o = pw a i → d + i = n → d + 18 < k →
    saltusref05_Pow.l0 k a n o i = some ((pw a n : Nat) : Int) := by
  induction d with
  | zero =>
    intro k a o i ha ho hi hk
    obtain ⟨k, rfl⟩ : ∃ m, k = m + 1 := ⟨k - 1, by omega⟩
    simp only [saltusref05_Pow.l0]
    obtain rfl : i = n := by omega
    rw [if_neg (by omega), ho]
  | succ d ih =>
    intro k a o i ha ho hi hk
    obtain ⟨k, rfl⟩ : ∃ m, k = m + 1 := ⟨k - 1, by omega⟩
    simp only [saltusref05_Pow.l0]
    have hol : o < 256 := by rw [ho]; exact FM.pw_lt a ha i
    rw [if_pos (by omega), refmul_eq k o a hol ha (by omega)]
    simp only [Option.bind_some]
    have e1 : wrap64 ((i : Int) + 1) = ((i + 1 : Nat) : Int) := by unfold wrap64; omega
    rw [e1]
    exact ih k a _ _ ha (by rw [ho]; rfl) (by omega) (by omega)
theorem refpow_eq (k a n : Nat) (hn : n < 1000) (ha : a < 256) (hk : 1100 < k) : saltusref05_Pow.f k a n = some ((pw a n : Nat) : Int) :=
  refpow_l0 n (by omega) n k a 1 0 ha rfl (by omega) (by omega)
theorem refpow_neg (k a : Nat) (n : Int) (hn : n ≤ 0) (hk : 0 < k) : saltusref05_Pow.f k a n = some 1 := by
  obtain ⟨k, rfl⟩ : ∃ m, k = m + 1 := ⟨k - 1, by omega⟩
  unfold saltusref05_Pow.f
  simp only [saltusref05_Pow.l0]
  rw [if_neg (by omega)]


theorem refinv_l0 (d : Nat) : ∀ (k a i : Nat), a < 256 → 0 < i → d + i = 256 → (∀ j, 0 < j → j < i → mul a j ≠ 1) → d + 18 < k →
    saltusref05_Inv.l0 k a i = some ((inv a : Nat) : Int) := by
  induction d with
  | zero =>
    intro k a i ha h0 hi hn hk
    obtain ⟨k, rfl⟩ : ∃ m, k = m + 1 := ⟨k - 1, by omega⟩
    simp only [saltusref05_Inv.l0]
    rw [if_neg (by omega)]
    by_cases hz : a = 0
    · subst hz; rw [FM.inv_zero]; rfl
    · have h1 := FM.mul_inv a ha hz
      have h2 : inv a ≠ 0 := by intro e; rw [e, FM.mul_zero a ha] at h1; cases h1
      exact absurd h1 (hn (inv a) (by omega) (by have := FM.inv_lt a ha; omega))
  | succ d ih =>
    intro k a i ha h0 hi hn hk
    obtain ⟨k, rfl⟩ : ∃ m, k = m + 1 := ⟨k - 1, by omega⟩
    simp only [saltusref05_Inv.l0]
    have e : (i : Int) % 256 = ((i : Nat) : Int) := by omega
    rw [if_pos (by omega), e, refmul_eq k a i ha (by omega) (by omega)]
    simp only [Option.bind_some]
    by_cases h : mul a i = 1
    · rw [if_pos (by omega), FM.inv_uniq a i ha (by omega) h]
    · rw [if_neg (by omega), w1 i (by omega)]
      refine ih k a (i + 1) ha (by omega) (by omega) (fun j hj0 hj => ?_) (by omega)
      by_cases hji : j = i
      · subst hji; exact h
      · exact hn j hj0 (by omega)
theorem refinv_eq (k a : Nat) (ha : a < 256) (hk : 300 < k) : saltusref05_Inv.f k a = some ((inv a : Nat) : Int) :=
  refinv_l0 255 k a 1 ha (by decide) rfl (fun j h0 h1 => by omega) (by omega)

def rb (b o i : Nat) : Nat := o + (bitN b i + bitN b ((i + 4) % 8) + bitN b ((i + 5) % 8) + bitN b ((i + 6) % 8) + bitN b ((i + 7) % 8) + bitN 99 i) % 2 * 2 ^ i
def rbs (b : Nat) : Nat → Nat → Nat → Nat
  | 0, o, _ => o
  | f + 1, o, i => rbs b f (rb b o i) (i + 1)
theorem rbs_eq (b : Nat) : rbs b 8 0 0 = (List.range 8).foldl (fun o i => rb b o i) 0 := rfl
theorem bitN_le (n i : Nat) : bitN n i ≤ 1 := by unfold bitN; rw [Nat.and_one_is_mod]; omega
theorem bitN_eq (n i : Nat) (hn : n < 2 ^ 63) (hi : i < 63) : saltusref05_Bit.f n i = some ((bitN n i : Nat) : Int) := by
  rw [bit_eq n i hn hi]
  unfold bitN
  rw [Nat.and_one_is_mod, Nat.shiftRight_eq_div_pow, Nat.testBit_eq_decide_div_mod_eq]
  by_cases h : n / 2 ^ i % 2 = 1
  · simp [h]
  · have : n / 2 ^ i % 2 = 0 := by omega
    simp [this]
theorem tm (n m : Nat) : Int.tmod (n : Int) (m : Int) = ((n % m : Nat) : Int) := rfl
theorem wadd (a b : Nat) (h : a + b < 2 ^ 62) : wrap64 ((a : Int) + (b : Int)) = ((a + b : Nat) : Int) := by rw [← Int.natCast_add]; exact wr _ h
theorem sum6 (x0 x4 x5 x6 x7 x9 : Nat) (h0 : x0 ≤ 1) (h4 : x4 ≤ 1) (h5 : x5 ≤ 1) (h6 : x6 ≤ 1) (h7 : x7 ≤ 1) (h9 : x9 ≤ 1) :
    Int.tmod (wrap64 (wrap64 (wrap64 (wrap64 (wrap64 ((x0 : Int) + (x4 : Int)) + (x5 : Int)) + (x6 : Int)) + (x7 : Int)) + (x9 : Int))) 2 = (((x0 + x4 + x5 + x6 + x7 + x9) % 2 : Nat) : Int) := by
  rw [wadd x0 x4 (by omega), wadd _ x5 (by omega), wadd _ x6 (by omega), wadd _ x7 (by omega), wadd _ x9 (by omega)]
  exact tm _ 2
theorem step2 (o y p : Nat) (hy : y ≤ 1) (hp : p ≤ 256) (ho : o < p) : wrap64 ((o : Int) + wrap64 ((y : Int) * (p : Int))) = ((o + y * p : Nat) : Int) ∧ o + y * p < p + p := by
  have hm : y * p ≤ p := by
    rcases (show y = 0 ∨ y = 1 by omega) with rfl | rfl
    · rw [Nat.zero_mul]; omega
    · rw [Nat.one_mul]; omega
  refine ⟨?_, by omega⟩
  rw [← Int.natCast_mul, wr (y * p) (by omega), wadd o (y * p) (by omega)]
theorem mod8 (i c : Nat) (hi : i < 8) (hc : c < 8) : Int.tmod (wrap64 ((i : Int) + (c : Int))) 8 = (((i + c) % 8 : Nat) : Int) := by
  rw [wadd i c (by omega)]; exact tm _ 8
theorem rb_lt (b o i : Nat) (hi : i < 8) (ho : o < 2 ^ i) : rb b o i < 2 ^ (i + 1) := by
  have hp : 2 ^ i ≤ 2 ^ 8 := Nat.pow_le_pow_right (by decide) (by omega)
  have := (step2 o _ (2 ^ i) (Nat.lt_succ_iff.1 (Nat.mod_lt (bitN b i + bitN b ((i + 4) % 8) + bitN b ((i + 5) % 8) + bitN b ((i + 6) % 8) + bitN b ((i + 7) % 8) + bitN 99 i) (by decide : 2 > 0))) hp ho).2
  rw [Nat.pow_succ, Nat.mul_two]
  exact this
theorem refbox_step (k b o i : Nat) (hb : b < 256) (hi : i < 8) (ho : o < 2 ^ i) : saltusref05_Box.l0 (k + 1) b o i = saltusref05_Box.l0 k b ((rb b o i : Nat) : Int) ((i + 1 : Nat) : Int) := by
  have h63 : b < 2 ^ 63 := Nat.lt_trans hb (by decide)
  have lt8 : ∀ c, (i + c) % 8 < 63 := fun c => Nat.lt_trans (Nat.mod_lt _ (by decide)) (by decide)
  have i63 : i < 63 := by omega
  have i62 : i < 62 := by omega
  have i1000 : i < 1000 := by omega
  have hlt : (i : Int) < 8 := by omega
  have hp : 2 ^ i ≤ 256 := Nat.pow_le_pow_right (n := 2) (by decide) (show i ≤ 8 by omega)
  have b9 : saltusref05_Bit.f 99 (i : Int) = some ((bitN 99 i : Nat) : Int) := bitN_eq 99 i (by decide) i63
  simp only [saltusref05_Box.l0]
  rw [if_pos hlt]
  rw [show Int.tmod (wrap64 ((i : Int) + 4)) 8 = (((i + 4) % 8 : Nat) : Int) from mod8 i 4 hi (by decide), show Int.tmod (wrap64 ((i : Int) + 5)) 8 = (((i + 5) % 8 : Nat) : Int) from mod8 i 5 hi (by decide), show Int.tmod (wrap64 ((i : Int) + 6)) 8 = (((i + 6) % 8 : Nat) : Int) from mod8 i 6 hi (by decide), show Int.tmod (wrap64 ((i : Int) + 7)) 8 = (((i + 7) % 8 : Nat) : Int) from mod8 i 7 hi (by decide)]
  rw [bitN_eq b i h63 i63, bitN_eq b _ h63 (lt8 4), bitN_eq b _ h63 (lt8 5), bitN_eq b _ h63 (lt8 6), bitN_eq b _ h63 (lt8 7), b9, pow2_eq i i62]
  simp only [Option.bind_some]
  rw [sum6 _ _ _ _ _ _ (bitN_le b i) (bitN_le b _) (bitN_le b _) (bitN_le b _) (bitN_le b _) (bitN_le 99 i),
    (step2 o _ (2 ^ i) (Nat.lt_succ_iff.1 (Nat.mod_lt _ (by decide : 2 > 0))) hp ho).1, w1 i i1000]
  rfl
theorem refbox_l0 (b : Nat) (hb : b < 256) (f : Nat) : ∀ (k o i : Nat), f + i = 8 → o < 2 ^ i → f + 1 < k → saltusref05_Box.l0 k b o i = some ((rbs b f o i % 256 : Nat) : Int) := by
  induction f with
  | zero =>
    intro k o i hi ho hk
    obtain ⟨k, rfl⟩ : ∃ m, k = m + 1 := ⟨k - 1, by omega⟩
    simp only [saltusref05_Box.l0]
    rw [if_neg (by omega)]
    exact congrArg some (by simp only [rbs]; omega)
  | succ f ih =>
    intro k o i hi ho hk
    obtain ⟨k, rfl⟩ : ∃ m, k = m + 1 := ⟨k - 1, by omega⟩
    rw [refbox_step k b o i hb (by omega) ho]
    exact ih k _ _ (by omega) (rb_lt b o i (by omega) ho) (by omega)
theorem rbs_lt (b : Nat) (f : Nat) : ∀ o i, f + i = 8 → o < 2 ^ i → rbs b f o i < 2 ^ (f + i) := by
  induction f with
  | zero => intro o i _ h; simpa [rbs] using h
  | succ f ih =>
    intro o i hi h
    have e : f + 1 + i = f + (i + 1) := by omega
    rw [e]
    exact ih _ _ (by omega) (rb_lt b o i (by omega) h)
theorem refbox_eq (k a : Nat) (ha : a < 256) (hk : 300 < k) : saltusref05_Box.f k a = some ((box a : Nat) : Int) := by
  unfold saltusref05_Box.f
  have hi := FM.inv_lt a ha
  rw [refinv_eq k a ha hk]; simp only [Option.bind_some]
  rw [wr _ (by omega)]
  have h := refbox_l0 (inv a) hi 8 k 0 0 rfl (by decide) (by omega)
  have h2 := rbs_lt (inv a) 8 0 0 rfl (by decide)
  rw [Nat.mod_eq_of_lt h2] at h
  rw [← FM.rbox_eq a ha]
  exact h
end Go.Proofs.Ytnaidfcehmdmcaa.FE
