/- The field of bytes: plain facts on numbers, without the program: products, powers, inverses, boxes. -/
import Init
namespace Go.Proofs.Ytnaidfcehmdmcaa.FM

def xt (a : Nat) : Nat := if a ≥ 128 then ((a * 2) % 256) ^^^ 27 else (a * 2) % 256
def mulAux : Nat → Nat → Nat → Nat → Nat → Nat
  | 0, _, _, o, _ => o
  | n + 1, a, b, o, i => mulAux n (xt a) b (if b.testBit i then o ^^^ a else o) (i + 1)
def mul (a b : Nat) : Nat := mulAux 8 a b 0 0

/-- additive on bytes -/
def Add (f : Nat → Nat) : Prop := ∀ a b, a < 256 → b < 256 → f (a ^^^ b) = f a ^^^ f b

theorem xor_lt {a b : Nat} (ha : a < 256) (hb : b < 256) : a ^^^ b < 256 := Nat.xor_lt_two_pow (n := 8) ha hb
theorem and_lt (a : Nat) {b : Nat} (hb : b < 256) : a &&& b < 256 := Nat.and_lt_two_pow (n := 8) a hb

theorem dec_all : ((List.range 256).all fun a => a == (a &&& 1) ^^^ ((a &&& 2) ^^^ ((a &&& 4) ^^^ ((a &&& 8) ^^^ ((a &&& 16) ^^^ ((a &&& 32) ^^^ ((a &&& 64) ^^^ (a &&& 128)))))))) = true := by decide +kernel
theorem bas_all : ((List.range 256).all fun a => (List.range 8).all fun i => (a &&& 2 ^ i) == 0 || (a &&& 2 ^ i) == 2 ^ i) = true := by decide +kernel

theorem all256 {p : Nat → Bool} (h : (List.range 256).all p = true) (a : Nat) (ha : a < 256) : p a = true :=
  List.all_eq_true.1 h a (List.mem_range.2 ha)

theorem dec (a : Nat) (ha : a < 256) : a = (a &&& 1) ^^^ ((a &&& 2) ^^^ ((a &&& 4) ^^^ ((a &&& 8) ^^^ ((a &&& 16) ^^^ ((a &&& 32) ^^^ ((a &&& 64) ^^^ (a &&& 128))))))) :=
  beq_iff_eq.1 (all256 dec_all a ha)
theorem bas (a : Nat) (ha : a < 256) (i : Nat) (hi : i < 8) : (a &&& 2 ^ i) = 0 ∨ (a &&& 2 ^ i) = 2 ^ i := by
  have h := List.all_eq_true.1 (all256 bas_all a ha) i (List.mem_range.2 hi)
  simpa using h

theorem Add.zero {f : Nat → Nat} (h : Add f) : f 0 = 0 := by
  have := h 0 0 (by decide) (by decide)
  simpa using this

theorem Add.ext {f g : Nat → Nat} (hf : Add f) (hg : Add g) (hb : ((List.range 8).all fun i => f (2 ^ i) == g (2 ^ i)) = true) (a : Nat) (ha : a < 256) : f a = g a := by
  have hz : f 0 = g 0 := by rw [hf.zero, hg.zero]
  have hi : ∀ i, i < 8 → f (a &&& 2 ^ i) = g (a &&& 2 ^ i) := fun i hi => by
    rcases bas a ha i hi with h | h <;> rw [h]
    · exact hz
    · exact beq_iff_eq.1 (List.all_eq_true.1 hb i (List.mem_range.2 hi))
  have l : ∀ i, i < 8 → a &&& 2 ^ i < 256 := fun i hi => by
    rcases bas a ha i hi with h | h <;> rw [h]
    · decide
    · exact Nat.pow_lt_pow_right (by decide) hi
  have x0 := l 0 (by decide); have x1 := l 1 (by decide); have x2 := l 2 (by decide); have x3 := l 3 (by decide)
  have x4 := l 4 (by decide); have x5 := l 5 (by decide); have x6 := l 6 (by decide); have x7 := l 7 (by decide)
  have e0 := hi 0 (by decide); have e1 := hi 1 (by decide); have e2 := hi 2 (by decide); have e3 := hi 3 (by decide)
  have e4 := hi 4 (by decide); have e5 := hi 5 (by decide); have e6 := hi 6 (by decide); have e7 := hi 7 (by decide)
  simp only [Nat.reducePow] at x0 x1 x2 x3 x4 x5 x6 x7 e0 e1 e2 e3 e4 e5 e6 e7
  have y6 := xor_lt x6 x7; have y5 := xor_lt x5 y6; have y4 := xor_lt x4 y5; have y3 := xor_lt x3 y4; have y2 := xor_lt x2 y3; have y1 := xor_lt x1 y2
  rw [dec a ha]
  rw [hf _ _ x0 y1, hf _ _ x1 y2, hf _ _ x2 y3, hf _ _ x3 y4, hf _ _ x4 y5, hf _ _ x5 y6, hf _ _ x6 x7]
  rw [hg _ _ x0 y1, hg _ _ x1 y2, hg _ _ x2 y3, hg _ _ x3 y4, hg _ _ x4 y5, hg _ _ x5 y6, hg _ _ x6 x7]
  rw [e0, e1, e2, e3, e4, e5, e6, e7]

theorem xlc (a b c : Nat) : a ^^^ (b ^^^ c) = b ^^^ (a ^^^ c) := by rw [← Nat.xor_assoc, Nat.xor_comm a b, Nat.xor_assoc]
theorem t1 (o p a : Nat) : (o ^^^ p) ^^^ a = o ^^^ (p ^^^ a) := Nat.xor_assoc ..
theorem t2 (o p a : Nat) : (o ^^^ p) ^^^ a = (o ^^^ a) ^^^ p := by rw [Nat.xor_assoc, Nat.xor_comm p, ← Nat.xor_assoc]
theorem t3 (o p a : Nat) : o ^^^ p = (o ^^^ a) ^^^ (p ^^^ a) := by rw [Nat.xor_comm p a, Nat.xor_assoc, ← Nat.xor_assoc a a p, Nat.xor_self, Nat.zero_xor]
theorem t4 (o p a b : Nat) : (o ^^^ p) ^^^ (a ^^^ b) = (o ^^^ a) ^^^ (p ^^^ b) := by rw [Nat.xor_assoc, xlc p a b, ← Nat.xor_assoc]
theorem xcl (a c : Nat) : a ^^^ (a ^^^ c) = c := by rw [← Nat.xor_assoc, Nat.xor_self, Nat.zero_xor]

theorem xt_all : ((List.range 256).all fun a => decide (xt a < 256)) = true := by decide +kernel
theorem xt_lt (a : Nat) (ha : a < 256) : xt a < 256 := of_decide_eq_true (all256 xt_all a ha)
theorem xt_bits : ((List.range 256).all fun a => xt a == ((a * 2) % 256) ^^^ (if a.testBit 7 then 27 else 0)) = true := by decide +kernel
theorem xt_bit (a : Nat) (ha : a < 256) : xt a = ((a * 2) % 256) ^^^ (if a.testBit 7 then 27 else 0) := beq_iff_eq.1 (all256 xt_bits a ha)
theorem xt_xor (a b : Nat) (ha : a < 256) (hb : b < 256) : xt (a ^^^ b) = xt a ^^^ xt b := by
  rw [xt_bit a ha, xt_bit b hb, xt_bit _ (xor_lt ha hb), Nat.testBit_xor]
  have e : ((a ^^^ b) * 2) % 256 = ((a * 2) % 256) ^^^ ((b * 2) % 256) := by
    have h : (a ^^^ b) * 2 = (a * 2) ^^^ (b * 2) := by
      have := Nat.shiftLeft_xor_distrib (a := a) (b := b) (i := 1)
      simpa [Nat.shiftLeft_eq] using this
    rw [h]; exact Nat.xor_mod_two_pow (n := 8)
  rw [e]
  cases a.testBit 7 <;> cases b.testBit 7
  · exact t4 _ _ 0 0
  · exact t4 _ _ 0 27
  · exact t4 _ _ 27 0
  · exact t4 _ _ 27 27

theorem mulAux_right (n : Nat) : ∀ a b c o p i, mulAux n a (b ^^^ c) (o ^^^ p) i = mulAux n a b o i ^^^ mulAux n a c p i := by
  induction n with
  | zero => intro a b c o p i; rfl
  | succ n ih =>
    intro a b c o p i
    simp only [mulAux]
    rw [← ih]
    congr 1
    rw [Nat.testBit_xor]
    cases hb : b.testBit i <;> cases hc : c.testBit i
    · rfl
    · exact t1 _ _ _
    · exact t2 _ _ _
    · exact t3 _ _ _
theorem mul_right (a b c : Nat) : mul a (b ^^^ c) = mul a b ^^^ mul a c := by
  have := mulAux_right 8 a b c 0 0 0
  simpa [mul] using this
theorem mulAux_left (n : Nat) : ∀ a b c o p i, a < 256 → b < 256 → mulAux n (a ^^^ b) c (o ^^^ p) i = mulAux n a c o i ^^^ mulAux n b c p i := by
  induction n with
  | zero => intros; rfl
  | succ n ih =>
    intro a b c o p i ha hb
    simp only [mulAux]
    rw [← ih _ _ _ _ _ _ (xt_lt a ha) (xt_lt b hb), xt_xor a b ha hb]
    congr 1
    cases hc : c.testBit i
    · rfl
    · exact t4 _ _ _ _
theorem mul_left (a b c : Nat) (ha : a < 256) (hb : b < 256) : mul (a ^^^ b) c = mul a c ^^^ mul b c := by
  have := mulAux_left 8 a b c 0 0 0 ha hb
  simpa [mul] using this
theorem mulAux_lt (n : Nat) : ∀ a b o i, a < 256 → o < 256 → mulAux n a b o i < 256 := by
  induction n with
  | zero => intro a b o i _ h; exact h
  | succ n ih =>
    intro a b o i ha ho
    simp only [mulAux]
    refine ih _ _ _ _ (xt_lt a ha) ?_
    split
    · exact xor_lt ho ha
    · exact ho
theorem mul_lt (a b : Nat) (ha : a < 256) : mul a b < 256 := mulAux_lt 8 a b 0 0 ha (by decide)

theorem addR (a : Nat) : Add (fun b => mul a b) := fun b c _ _ => mul_right a b c
theorem addL (c : Nat) : Add (fun a => mul a c) := fun a b ha hb => mul_left a b c ha hb

theorem comm_bas : ((List.range 8).all fun i => (List.range 8).all fun j => mul (2 ^ i) (2 ^ j) == mul (2 ^ j) (2 ^ i)) = true := by decide +kernel
theorem pow2_lt {i : Nat} (hi : i < 8) : 2 ^ i < 256 := Nat.pow_lt_pow_right (by decide) hi
theorem all8 {p : Nat → Bool} (h : ∀ i, i < 8 → p i = true) : (List.range 8).all p = true := List.all_eq_true.2 fun i hi => h i (List.mem_range.1 hi)
theorem mul_comm (a b : Nat) (ha : a < 256) (hb : b < 256) : mul a b = mul b a := by
  refine Add.ext (addL b) (addR b) (all8 fun i hi => beq_iff_eq.2 ?_) a ha
  refine Add.ext (f := fun b => mul (2 ^ i) b) (g := fun b => mul b (2 ^ i)) (addR _) (addL _) (all8 fun j hj => ?_) b hb
  exact List.all_eq_true.1 (List.all_eq_true.1 comm_bas i (List.mem_range.2 hi)) j (List.mem_range.2 hj)
theorem assoc_bas : ((List.range 8).all fun i => (List.range 8).all fun j => (List.range 8).all fun k => mul (mul (2 ^ i) (2 ^ j)) (2 ^ k) == mul (2 ^ i) (mul (2 ^ j) (2 ^ k))) = true := by decide +kernel
theorem mul_assoc (a b c : Nat) (ha : a < 256) (hb : b < 256) (hc : c < 256) : mul (mul a b) c = mul a (mul b c) := by
  refine Add.ext (f := fun a => mul (mul a b) c) (g := fun a => mul a (mul b c)) (fun x y hx hy => ?_) (addL _) (all8 fun i hi => beq_iff_eq.2 ?_) a ha
  · show mul (mul (x ^^^ y) b) c = _; rw [mul_left x y b hx hy, mul_left _ _ c (mul_lt x b hx) (mul_lt y b hy)]
  refine Add.ext (f := fun b => mul (mul (2 ^ i) b) c) (g := fun b => mul (2 ^ i) (mul b c)) (fun x y hx hy => ?_) (fun x y hx hy => ?_) (all8 fun j hj => beq_iff_eq.2 ?_) b hb
  · show mul (mul (2 ^ i) (x ^^^ y)) c = _; rw [mul_right, mul_left _ _ c (mul_lt _ _ (pow2_lt hi)) (mul_lt _ _ (pow2_lt hi))]
  · show mul (2 ^ i) (mul (x ^^^ y) c) = _; rw [mul_left x y c hx hy, mul_right]
  refine Add.ext (f := fun c => mul (mul (2 ^ i) (2 ^ j)) c) (g := fun c => mul (2 ^ i) (mul (2 ^ j) c)) (addR _) (fun x y hx hy => ?_) (all8 fun k hk => ?_) c hc
  · show mul (2 ^ i) (mul (2 ^ j) (x ^^^ y)) = _; rw [mul_right, mul_right]
  exact List.all_eq_true.1 (List.all_eq_true.1 (List.all_eq_true.1 assoc_bas i (List.mem_range.2 hi)) j (List.mem_range.2 hj)) k (List.mem_range.2 hk)
theorem one_all : ((List.range 256).all fun a => mul a 1 == a && mul 1 a == a && mul 0 a == 0 && mul a 0 == 0) = true := by decide +kernel
theorem mul_one (a : Nat) (ha : a < 256) : mul a 1 = a := by have := all256 one_all a ha; simp at this; exact this.1.1.1
theorem one_mul (a : Nat) (ha : a < 256) : mul 1 a = a := by have := all256 one_all a ha; simp at this; exact this.1.1.2
theorem zero_mul (a : Nat) (ha : a < 256) : mul 0 a = 0 := by have := all256 one_all a ha; simp at this; exact this.1.2
theorem mul_zero (a : Nat) (ha : a < 256) : mul a 0 = 0 := by have := all256 one_all a ha; simp at this; exact this.2

/-! powers -/
def pw (a : Nat) : Nat → Nat
  | 0 => 1
  | n + 1 => mul (pw a n) a
theorem pw_lt (a : Nat) (ha : a < 256) : ∀ n, pw a n < 256
  | 0 => by show 1 < 256; decide
  | n + 1 => mul_lt _ _ (pw_lt a ha n)
theorem pw_add (a : Nat) (ha : a < 256) (m : Nat) : ∀ n, pw a (m + n) = mul (pw a m) (pw a n)
  | 0 => (mul_one _ (pw_lt a ha m)).symm
  | n + 1 => by
    show mul (pw a (m + n)) a = mul (pw a m) (mul (pw a n) a)
    rw [pw_add a ha m n, mul_assoc _ _ _ (pw_lt a ha m) (pw_lt a ha n) ha]
theorem pw_sq (a : Nat) (ha : a < 256) : ∀ n, pw (mul a a) n = pw a (2 * n)
  | 0 => rfl
  | n + 1 => by
    show mul (pw (mul a a) n) (mul a a) = pw a (2 * n + 2)
    rw [pw_sq a ha n]
    show _ = mul (mul (pw a (2 * n)) a) a
    rw [mul_assoc _ _ _ (pw_lt a ha _) ha ha]
theorem pw_zero : ∀ n, 0 < n → pw 0 n = 0
  | n + 1, _ => mul_zero _ (pw_lt 0 (by decide) n)
/-- the program's way: by squares; the fuel is the rounds. -/
def pq : Nat → Nat → Nat → Nat → Nat
  | 0, _, _, o => o
  | f + 1, a, n, o => if n = 0 then o else pq f (mul a a) (n / 2) (if n % 2 = 1 then mul o a else o)
theorem pq_eq (f : Nat) : ∀ a n o, a < 256 → o < 256 → n < 2 ^ f → pq f a n o = mul o (pw a n) := by
  induction f with
  | zero =>
    intro a n o ha ho hn
    obtain rfl : n = 0 := by simpa using hn
    exact (mul_one o ho).symm
  | succ f ih =>
    intro a n o ha ho hn
    unfold pq
    by_cases h0 : n = 0
    · subst h0; rw [if_pos rfl]; exact (mul_one o ho).symm
    · rw [if_neg h0]
      have hd : n / 2 < 2 ^ f := by rw [Nat.pow_succ] at hn; omega
      by_cases h1 : n % 2 = 1
      · rw [if_pos h1, ih _ _ _ (mul_lt _ _ ha) (mul_lt _ _ ho) hd, pw_sq a ha]
        have e : n = 1 + 2 * (n / 2) := by omega
        have e1 : pw a 1 = a := one_mul a ha
        calc mul (mul o a) (pw a (2 * (n / 2))) = mul o (mul a (pw a (2 * (n / 2)))) := mul_assoc _ _ _ ho ha (pw_lt a ha _)
          _ = mul o (pw a (1 + 2 * (n / 2))) := by rw [pw_add a ha, e1]
          _ = mul o (pw a n) := by rw [← e]
      · rw [if_neg h1, ih _ _ _ (mul_lt _ _ ha) ho hd, pw_sq a ha]
        have e : 2 * (n / 2) = n := by omega
        rw [e]
def inv (a : Nat) : Nat := pq 8 a 254 1
theorem inv_eq (a : Nat) (ha : a < 256) : inv a = pw a 254 := by
  unfold inv
  rw [pq_eq 8 a 254 1 ha (by decide) (by decide), one_mul _ (pw_lt a ha _)]
theorem inv_lt (a : Nat) (ha : a < 256) : inv a < 256 := by rw [inv_eq a ha]; exact pw_lt a ha _
theorem inv_all : ((List.range 256).all fun a => (mul a (inv a) == if a = 0 then 0 else 1) && inv (inv a) == a) = true := by decide +kernel
theorem mul_inv (a : Nat) (ha : a < 256) (h0 : a ≠ 0) : mul a (inv a) = 1 := by
  have := all256 inv_all a ha; simp [h0] at this; exact this.1
theorem mul_inv0 : mul 0 (inv 0) = 0 := by
  have := all256 inv_all 0 (by decide); simp at this; exact this.1
theorem inv_inv (a : Nat) (ha : a < 256) : inv (inv a) = a := by
  have := all256 inv_all a ha; rw [Bool.and_eq_true] at this; exact beq_iff_eq.1 this.2
theorem inv_zero : inv 0 = 0 := by decide +kernel
theorem inv_uniq (a b : Nat) (ha : a < 256) (hb : b < 256) (h : mul a b = 1) : b = inv a := by
  have h0 : a ≠ 0 := by rintro rfl; rw [zero_mul b hb] at h; cases h
  have hi := inv_lt a ha
  calc b = mul 1 b := (one_mul b hb).symm
    _ = mul (mul (inv a) a) b := by rw [mul_comm _ _ hi ha, mul_inv a ha h0]
    _ = mul (inv a) (mul a b) := mul_assoc _ _ _ hi ha hb
    _ = inv a := by rw [h, mul_one _ hi]
theorem pw_255 (a : Nat) (ha : a < 256) (h0 : a ≠ 0) : pw a 255 = 1 := by
  show mul (pw a 254) a = 1
  rw [← inv_eq a ha, mul_comm _ _ (inv_lt a ha) ha, mul_inv a ha h0]
theorem pw_mul255 (a : Nat) (ha : a < 256) (h0 : a ≠ 0) (n : Nat) : ∀ q, pw a (n + 255 * q) = pw a n
  | 0 => rfl
  | q + 1 => by
    have : n + 255 * (q + 1) = (n + 255 * q) + 255 := by omega
    rw [this, pw_add a ha, pw_255 a ha h0, mul_one _ (pw_lt a ha _), pw_mul255 a ha h0 n q]

/-! the long product and what is left of it -/
def cl : Nat → Nat → Nat → Nat → Nat → Nat
  | 0, _, _, n, _ => n
  | f + 1, a, b, n, i => cl f a b (if b.testBit i then n ^^^ a * 2 ^ i else n) (i + 1)
def red : Nat → Nat → Nat → Nat
  | 0, n, _ => n
  | f + 1, n, i => red f (if n.testBit i then n ^^^ 283 * 2 ^ (i - 8) else n) (i - 1)
def rmul (a b : Nat) : Nat := (red 7 (cl 8 a b 0 0) 14) % 256
theorem cl_right (f : Nat) : ∀ a b c n m i, cl f a (b ^^^ c) (n ^^^ m) i = cl f a b n i ^^^ cl f a c m i := by
  induction f with
  | zero => intros; rfl
  | succ f ih =>
    intro a b c n m i
    simp only [cl]
    rw [← ih]
    congr 1
    rw [Nat.testBit_xor]
    cases hb : b.testBit i <;> cases hc : c.testBit i
    · rfl
    · exact t1 _ _ _
    · exact t2 _ _ _
    · exact t3 _ _ _
theorem cl_left (f : Nat) : ∀ a b c n m i, cl f (a ^^^ b) c (n ^^^ m) i = cl f a c n i ^^^ cl f b c m i := by
  induction f with
  | zero => intros; rfl
  | succ f ih =>
    intro a b c n m i
    simp only [cl]
    rw [← ih]
    congr 1
    have e : (a ^^^ b) * 2 ^ i = a * 2 ^ i ^^^ b * 2 ^ i := by rw [← Nat.shiftLeft_eq, ← Nat.shiftLeft_eq, ← Nat.shiftLeft_eq, Nat.shiftLeft_xor_distrib]
    rw [e]
    cases hc : c.testBit i
    · rfl
    · exact t4 _ _ _ _
theorem red_xor (f : Nat) : ∀ n m i, red f (n ^^^ m) i = red f n i ^^^ red f m i := by
  induction f with
  | zero => intros; rfl
  | succ f ih =>
    intro n m i
    simp only [red]
    rw [← ih]
    congr 1
    rw [Nat.testBit_xor]
    cases hb : n.testBit i <;> cases hc : m.testBit i
    · rfl
    · exact t1 _ _ _
    · exact t2 _ _ _
    · exact t3 _ _ _
theorem mod_xor (a b : Nat) : (a ^^^ b) % 256 = a % 256 ^^^ b % 256 := Nat.xor_mod_two_pow (n := 8)
theorem rmul_right (a b c : Nat) : rmul a (b ^^^ c) = rmul a b ^^^ rmul a c := by
  have := cl_right 8 a b c 0 0 0
  rw [Nat.xor_self] at this
  unfold rmul
  rw [this, red_xor, mod_xor]
theorem rmul_left (a b c : Nat) : rmul (a ^^^ b) c = rmul a c ^^^ rmul b c := by
  have := cl_left 8 a b c 0 0 0
  rw [Nat.xor_self] at this
  unfold rmul
  rw [this, red_xor, mod_xor]
theorem rmul_bas : ((List.range 8).all fun i => (List.range 8).all fun j => rmul (2 ^ i) (2 ^ j) == mul (2 ^ i) (2 ^ j)) = true := by decide +kernel
theorem rmul_eq (a b : Nat) (ha : a < 256) (hb : b < 256) : rmul a b = mul a b := by
  refine Add.ext (f := fun a => rmul a b) (fun x y _ _ => rmul_left x y b) (addL b) (all8 fun i hi => beq_iff_eq.2 ?_) a ha
  refine Add.ext (f := fun b => rmul (2 ^ i) b) (g := fun b => mul (2 ^ i) b) (fun x y _ _ => rmul_right _ x y) (addR _) (all8 fun j hj => ?_) b hb
  exact List.all_eq_true.1 (List.all_eq_true.1 rmul_bas i (List.mem_range.2 hi)) j (List.mem_range.2 hj)

/-! boxes -/
def rot (b n : Nat) : Nat := ((b * 2 ^ n) % 256) ||| (b / 2 ^ (8 - n))
def box (a : Nat) : Nat := let b := inv a; b ^^^ rot b 1 ^^^ rot b 2 ^^^ rot b 3 ^^^ rot b 4 ^^^ 99
def bitN (n i : Nat) : Nat := (n >>> i) &&& 1
def rbox (a : Nat) : Nat := (List.range 8).foldl (fun o i => o + (bitN (inv a) i + bitN (inv a) ((i + 4) % 8) + bitN (inv a) ((i + 5) % 8) + bitN (inv a) ((i + 6) % 8) + bitN (inv a) ((i + 7) % 8) + bitN 99 i) % 2 * 2 ^ i) 0
theorem box_all : ((List.range 256).all fun a => rbox a == box a && decide (box a < 256) && box a != a && box a != 255 - a && box a != a ^^^ 255) = true := by decide +kernel
theorem rbox_eq (a : Nat) (ha : a < 256) : rbox a = box a := by have := all256 box_all a ha; simp at this; exact this.1.1.1.1
theorem box_lt (a : Nat) (ha : a < 256) : box a < 256 := by have := all256 box_all a ha; simp at this; exact this.1.1.1.2
theorem box_ne (a : Nat) (ha : a < 256) : box a ≠ a := by have := all256 box_all a ha; simp at this; exact this.1.1.2
theorem box_ne' (a : Nat) (ha : a < 256) : box a ≠ 255 - a := by have := all256 box_all a ha; simp at this; exact this.1.2
theorem box_ne'' (a : Nat) (ha : a < 256) : box a ≠ a ^^^ 255 := by have := all256 box_all a ha; simp at this; exact this.2
/-- the way back -/
def unbox (x : Nat) : Nat := (((List.range 256).find? fun a => box a == x).getD 0)
def boxT : List Nat := [99, 124, 119, 123, 242, 107, 111, 197, 48, 1, 103, 43, 254, 215, 171, 118, 202, 130, 201, 125, 250, 89, 71, 240, 173, 212, 162, 175, 156, 164, 114, 192, 183, 253, 147, 38, 54, 63, 247, 204, 52, 165, 229, 241, 113, 216, 49, 21, 4, 199, 35, 195, 24, 150, 5, 154, 7, 18, 128, 226, 235, 39, 178, 117, 9, 131, 44, 26, 27, 110, 90, 160, 82, 59, 214, 179, 41, 227, 47, 132, 83, 209, 0, 237, 32, 252, 177, 91, 106, 203, 190, 57, 74, 76, 88, 207, 208, 239, 170, 251, 67, 77, 51, 133, 69, 249, 2, 127, 80, 60, 159, 168, 81, 163, 64, 143, 146, 157, 56, 245, 188, 182, 218, 33, 16, 255, 243, 210, 205, 12, 19, 236, 95, 151, 68, 23, 196, 167, 126, 61, 100, 93, 25, 115, 96, 129, 79, 220, 34, 42, 144, 136, 70, 238, 184, 20, 222, 94, 11, 219, 224, 50, 58, 10, 73, 6, 36, 92, 194, 211, 172, 98, 145, 149, 228, 121, 231, 200, 55, 109, 141, 213, 78, 169, 108, 86, 244, 234, 101, 122, 174, 8, 186, 120, 37, 46, 28, 166, 180, 198, 232, 221, 116, 31, 75, 189, 139, 138, 112, 62, 181, 102, 72, 3, 246, 14, 97, 53, 87, 185, 134, 193, 29, 158, 225, 248, 152, 17, 105, 217, 142, 148, 155, 30, 135, 233, 206, 85, 40, 223, 140, 161, 137, 13, 191, 230, 66, 104, 65, 153, 45, 15, 176, 84, 187, 22]
theorem boxT_all : ((List.range 256).map box == boxT) = true := by decide +kernel
theorem boxT_at (a : Nat) (ha : a < 256) : boxT.getD a 0 = box a := by
  rw [← beq_iff_eq.1 boxT_all]
  simp [List.getD_eq_getElem?_getD, List.getElem?_range ha]
theorem box_inj_all : ((List.range 256).all fun a => boxT.idxOf (boxT.getD a 0) == a) = true := by decide +kernel
theorem box_inj (a b : Nat) (ha : a < 256) (hb : b < 256) (h : box a = box b) : a = b := by
  have h1 := beq_iff_eq.1 (all256 box_inj_all a ha)
  have h2 := beq_iff_eq.1 (all256 box_inj_all b hb)
  rw [boxT_at a ha] at h1
  rw [boxT_at b hb] at h2
  rw [← h1, ← h2, h]
end Go.Proofs.Ytnaidfcehmdmcaa.FM
