/- The printed functions of the field, tied to the plain facts. -/
import Derived.Test.YtnaidfcehmdmcaaPFieldPowersx2
import Derived.Test.YtnaidfcehmdmcaaFieldMath
namespace Go.Proofs.Ytnaidfcehmdmcaa.FL
open Go.RowKit Go.Proofs.Ytnaidfcehmdmcaa.PFieldPowers Go.Proofs.YtnaidfcehmdmcaaW.PrintWords Go.Proofs.YtnaidfcehmdmcaaW.PrintLast Go.Proofs.YtnaidfcehmdmcaaW.PrintMore
open Go.Proofs.Ytnaidfcehmdmcaa.FM (xt mulAux mul pw pq inv cl red rmul rot box bitN rbox)

theorem wrap_small {j : Nat} (k : IntKind) (hk : ∀ n : Int, 0 ≤ n → n < 2 ^ j → k.wrap n = n) (a : Nat) (ha : a < 2 ^ j) : k.wrap (a : Int) = a := hk _ (by omega) (by exact_mod_cast ha)
theorem bits_xor_nat (k : IntKind) (j : Nat) (hj : j ≤ k.bits) (hk : ∀ n : Int, 0 ≤ n → n < 2 ^ j → k.wrap n = n) (a b : Nat) (ha : a < 2 ^ j) (hb : b < 2 ^ j) :
    bits .xor k a b = ((a ^^^ b : Nat) : Int) := by
  have hp : 2 ^ j ≤ 2 ^ k.bits := Nat.pow_le_pow_right (by decide) hj
  have ha' : a % 2 ^ k.bits = a := Nat.mod_eq_of_lt (Nat.lt_of_lt_of_le ha hp)
  have hb' : b % 2 ^ k.bits = b := Nat.mod_eq_of_lt (Nat.lt_of_lt_of_le hb hp)
  simp only [bits, BitVec.ofInt_natCast, BitVec.toNat_xor, BitVec.toNat_ofNat, ha', hb']
  exact wrap_small k hk _ (Nat.xor_lt_two_pow ha hb)
theorem x8 (a b : Nat) (ha : a < 256) (hb : b < 256) : bits .xor .u8 a b = ((a ^^^ b : Nat) : Int) := bits_xor_nat .u8 8 (by decide) wraps_u8 a b ha hb
theorem o8 (a b : Nat) (ha : a < 256) (hb : b < 256) : bits .or .u8 a b = ((a ||| b : Nat) : Int) := (bits_nat .u8 8 (by decide) wraps_u8 a b ha hb).2
theorem n8 (a b : Nat) (ha : a < 256) (hb : b < 256) : bits .and .u8 a b = ((a &&& b : Nat) : Int) := (bits_nat .u8 8 (by decide) wraps_u8 a b ha hb).1
theorem wraps_i64 : ∀ n : Int, 0 ≤ n → n < 2 ^ 63 → IntKind.i64.wrap n = n := by
  intro n h0 h1
  have := IntWalk.i64_in n (by omega)
  exact this
theorem x64 (a b : Nat) (ha : a < 2 ^ 63) (hb : b < 2 ^ 63) : bits .xor .i64 a b = ((a ^^^ b : Nat) : Int) := bits_xor_nat .i64 63 (by decide) wraps_i64 a b ha hb
theorem n64 (a b : Nat) (ha : a < 2 ^ 63) (hb : b < 2 ^ 63) : bits .and .i64 a b = ((a &&& b : Nat) : Int) := (bits_nat .i64 63 (by decide) wraps_i64 a b ha hb).1

theorem twice_eq (a : Nat) (ha : a < 256) : field_twice.f a = some ((xt a : Nat) : Int) := by
  unfold field_twice.f xt
  have e : ((a : Int) * 2) % 256 = ((a * 2 % 256 : Nat) : Int) := by omega
  by_cases h : a ≥ 128
  · rw [if_pos (by omega), if_pos h, e]
    congr 1
    exact x8 _ 27 (by omega) (by decide)
  · rw [if_neg (by omega), if_neg h, e]

theorem bit_test (b i : Nat) (hb : b < 256) (hi : i < 8) : (bits .and .u8 (shr .u8 (b : Int) (i : Int)) 1 = 1) ↔ b.testBit i = true := by
  have e : shr .u8 (b : Int) (i : Int) = ((b / 2 ^ i : Nat) : Int) := by
    unfold shr
    have hm : min (i : Int).toNat IntKind.u8.bits = i := by simp [IntKind.bits]; omega
    rw [hm]; norm_cast
  have hl : b / 2 ^ i < 256 := Nat.lt_of_le_of_lt (Nat.div_le_self _ _) hb
  have e1 : bits .and .u8 ((b / 2 ^ i : Nat) : Int) 1 = ((b / 2 ^ i &&& 1 : Nat) : Int) := n8 _ 1 hl (by decide)
  rw [e, e1]
  have e2 : (b / 2 ^ i) &&& 1 = (b.testBit i).toNat := by
    rw [Nat.and_one_is_mod, Nat.testBit_eq_decide_div_mod_eq]
    by_cases h : b / 2 ^ i % 2 = 1
    · simp [h]
    · have : b / 2 ^ i % 2 = 0 := by omega
      simp [this]
  rw [e2]
  cases b.testBit i <;> simp

theorem w1 (i : Nat) (hi : i < 1000) : wrap64 ((i : Int) + 1) = ((i + 1 : Nat) : Int) := by unfold wrap64; omega

theorem mul_l0 (n : Nat) : ∀ (k a b o i : Nat), a < 256 → b < 256 → o < 256 → n + i = 8 → n < k →
    field_Mul.l0 k a b o i = some ((mulAux n a b o i : Nat) : Int) := by
  induction n with
  | zero =>
    intro k a b o i _ _ _ hi hk
    obtain ⟨k, rfl⟩ : ∃ m, k = m + 1 := ⟨k - 1, by omega⟩
    simp only [field_Mul.l0]
    rw [if_neg (by omega)]; rfl
  | succ n ih =>
    intro k a b o i ha hb ho hi hk
    obtain ⟨k, rfl⟩ : ∃ m, k = m + 1 := ⟨k - 1, by omega⟩
    simp only [field_Mul.l0]
    rw [if_pos (by omega), if_pos (by omega), twice_eq a ha]
    simp only [Option.bind_some]
    rw [w1 i (by omega), x8 o a ho ha]
    unfold mulAux
    by_cases h : b.testBit i = true
    · rw [if_pos ((bit_test b i hb (by omega)).2 h), if_pos h, ih k _ _ _ _ (FM.xt_lt a ha) hb (FM.xor_lt ho ha) (by omega) (by omega)]
    · rw [if_neg (fun x => h ((bit_test b i hb (by omega)).1 x)), if_neg h, ih k _ _ _ _ (FM.xt_lt a ha) hb ho (by omega) (by omega)]
theorem mul_eq (k a b : Nat) (ha : a < 256) (hb : b < 256) (hk : 8 < k) : field_Mul.f k a b = some ((mul a b : Nat) : Int) :=
  mul_l0 8 k a b 0 0 ha hb (by decide) (by omega) hk

theorem odd_test (n : Nat) (hn : n < 2 ^ 63) : (bits .and .i64 (n : Int) 1 = 1) ↔ n % 2 = 1 := by
  have e : bits .and .i64 (n : Int) 1 = ((n &&& 1 : Nat) : Int) := n64 _ 1 hn (by decide)
  rw [e, Nat.and_one_is_mod]; omega
theorem pow_l0 (f : Nat) : ∀ (k a n o : Nat), a < 256 → o < 256 → n < 2 ^ f → n < 2 ^ 63 → f + 9 < k →
    field_Pow.l0 k a n o = some ((pq f a n o : Nat) : Int) := by
  induction f with
  | zero =>
    intro k a n o ha ho hn _ hk
    obtain ⟨k, rfl⟩ : ∃ m, k = m + 1 := ⟨k - 1, by omega⟩
    obtain rfl : n = 0 := by simpa using hn
    simp only [field_Pow.l0]
    rw [if_neg (by omega)]; rfl
  | succ f ih =>
    intro k a n o ha ho hn hn' hk
    obtain ⟨k, rfl⟩ : ∃ m, k = m + 1 := ⟨k - 1, by omega⟩
    simp only [field_Pow.l0]
    unfold pq
    by_cases h0 : n = 0
    · subst h0; rw [if_neg (by omega), if_pos rfl]
    · rw [if_pos (by omega), if_neg h0, mul_eq k o a ho ha (by omega), mul_eq k a a ha ha (by omega)]
      simp only [Option.bind_some]
      have hd : n / 2 < 2 ^ f := by rw [Nat.pow_succ] at hn; omega
      have e : ((n : Int) / 2) = ((n / 2 : Nat) : Int) := by omega
      rw [e]
      by_cases h1 : n % 2 = 1
      · rw [if_pos ((odd_test n hn').2 h1), if_pos h1, ih k _ _ _ (FM.mul_lt _ _ ha) (FM.mul_lt _ _ ho) hd (by omega) (by omega)]
      · rw [if_neg (fun x => h1 ((odd_test n hn').1 x)), if_neg h1, ih k _ _ _ (FM.mul_lt _ _ ha) ho hd (by omega) (by omega)]
theorem pow_eq (k a n : Nat) (ha : a < 256) (hn : n < 2 ^ 63) (hk : 80 < k) : field_Pow.f k a n = some ((pw a n : Nat) : Int) := by
  have := pow_l0 63 k a n 1 ha (by decide) hn hn (by omega)
  rw [FM.pq_eq 63 a n 1 ha (by decide) hn, FM.one_mul _ (FM.pw_lt a ha n)] at this
  exact this
theorem pow_neg (k a : Nat) (n : Int) (hn : n ≤ 0) (hk : 0 < k) : field_Pow.f k a n = some 1 := by
  obtain ⟨k, rfl⟩ : ∃ m, k = m + 1 := ⟨k - 1, by omega⟩
  unfold field_Pow.f
  simp only [field_Pow.l0]
  rw [if_neg (by omega)]
theorem inv_eq (k a : Nat) (ha : a < 256) (hk : 80 < k) : field_Inv.f k a = some ((inv a : Nat) : Int) := by
  unfold field_Inv.f
  have this : field_Pow.f k a 254 = some ((pw a 254 : Nat) : Int) := pow_eq k a 254 ha (by decide) hk
  rw [this, FM.inv_eq a ha]; rfl

theorem rot_eq (b i : Nat) (hb : b < 256) (hi : i < 8) : bits_RotateLeft8.f b i = some ((rot b i : Nat) : Int) := by
  have h7 : bits .and .u64 (IntKind.u64.wrap (i : Int)) 7 = (i : Int) := by
    have : i = 0 ∨ i = 1 ∨ i = 2 ∨ i = 3 ∨ i = 4 ∨ i = 5 ∨ i = 6 ∨ i = 7 := by omega
    rcases this with rfl | rfl | rfl | rfl | rfl | rfl | rfl | rfl <;> decide
  have h8 : IntKind.u64.wrap (8 - (i : Int)) = ((8 - i : Nat) : Int) := by
    have : i = 0 ∨ i = 1 ∨ i = 2 ∨ i = 3 ∨ i = 4 ∨ i = 5 ∨ i = 6 ∨ i = 7 := by omega
    rcases this with rfl | rfl | rfl | rfl | rfl | rfl | rfl | rfl <;> decide
  unfold bits_RotateLeft8.f
  rw [h7, h8, if_pos (by omega), if_pos (by omega)]
  have e1 : shl .u8 (b : Int) (i : Int) = ((b * 2 ^ i % 256 : Nat) : Int) := by
    unfold shl
    have hm : min (i : Int).toNat IntKind.u8.bits = i := by simp [IntKind.bits]; omega
    rw [hm, IntKind.wrap_u8, Int.natCast_emod, Int.natCast_mul, Int.natCast_pow]; rfl
  have e2 : shr .u8 (b : Int) ((8 - i : Nat) : Int) = ((b / 2 ^ (8 - i) : Nat) : Int) := by
    unfold shr
    have hm : min ((8 - i : Nat) : Int).toNat IntKind.u8.bits = 8 - i := by rw [Int.toNat_natCast]; exact Nat.min_eq_left (Nat.sub_le 8 i)
    rw [hm]
    generalize 8 - i = j
    norm_cast
  rw [e1, e2, o8 _ _ (Nat.mod_lt _ (by decide)) (Nat.lt_of_le_of_lt (Nat.div_le_self _ _) hb)]
  rfl
theorem rot_lt (b i : Nat) (hb : b < 256) : rot b i < 256 := Nat.or_lt_two_pow (n := 8) (Nat.mod_lt _ (by decide)) (Nat.lt_of_le_of_lt (Nat.div_le_self _ _) hb)
theorem box_eq (k a : Nat) (ha : a < 256) (hk : 80 < k) : field_Box.f k a = some ((box a : Nat) : Int) := by
  unfold field_Box.f
  have hi := FM.inv_lt a ha
  have r1 : bits_RotateLeft8.f (inv a : Nat) 1 = some ((rot (inv a) 1 : Nat) : Int) := rot_eq (inv a) 1 hi (by decide)
  have r2 : bits_RotateLeft8.f (inv a : Nat) 2 = some ((rot (inv a) 2 : Nat) : Int) := rot_eq (inv a) 2 hi (by decide)
  have r3 : bits_RotateLeft8.f (inv a : Nat) 3 = some ((rot (inv a) 3 : Nat) : Int) := rot_eq (inv a) 3 hi (by decide)
  have r4 : bits_RotateLeft8.f (inv a : Nat) 4 = some ((rot (inv a) 4 : Nat) : Int) := rot_eq (inv a) 4 hi (by decide)
  rw [inv_eq k a ha hk]; simp only [Option.bind_some]
  rw [r1]; simp only [Option.bind_some]
  rw [r2]; simp only [Option.bind_some]
  rw [r3]; simp only [Option.bind_some]
  rw [r4]; simp only [Option.bind_some]
  have l1 := rot_lt (inv a) 1 hi; have l2 := rot_lt (inv a) 2 hi; have l3 := rot_lt (inv a) 3 hi; have l4 := rot_lt (inv a) 4 hi
  have s1 := FM.xor_lt hi l1; have s2 := FM.xor_lt s1 l2; have s3 := FM.xor_lt s2 l3; have s4 := FM.xor_lt s3 l4
  rw [x8 _ _ hi l1, x8 _ _ s1 l2, x8 _ _ s2 l3, x8 _ _ s3 l4]
  exact congrArg some (x8 _ 99 s4 (by decide))
theorem alive_eq (k : Nat) (hk : 80 < k) : saltuslaw05_alive.f k = some true := by
  unfold saltuslaw05_alive.f
  have e1 : mul 87 131 = 193 := by decide +kernel
  have e2 : box 0 = 99 := by decide +kernel
  have h1 : field_Mul.f k 87 131 = some 193 := (mul_eq k 87 131 (by decide) (by decide) (by omega)).trans (by rw [e1]; rfl)
  have h2 : field_Box.f k 0 = some 99 := (box_eq k 0 (by decide) hk).trans (by rw [e2]; rfl)
  rw [h1]; simp only [Option.bind_some, if_true]
  rw [h2]; rfl
end Go.Proofs.Ytnaidfcehmdmcaa.FL
