/- HMAC: the reference and the program's tag are tagS; the check is the comparison; in plain Lean. -/
import Derived.Test.YtolbhliepkcihaaQMTx1
import Derived.Test.YtolbhliepkcihaaShaPure
namespace Go.Proofs.Ytolbhliepkcihaa.MacPure
open Go.RowKit Go.Proofs.Ytolbhliepkcihaa.QMT Go.Proofs.YtolbhliepkcihaaW.PrintWords Go.Proofs.YtolbhliepkcihaaW.PrintLast Go.Proofs.YtolbhliepkcihaaW.PrintMore Go.Proofs.Ytolbhliepkcihaa.Sha Go.Proofs.Ytolbhliepkcihaa.Mac
theorem ref_fitted (d : Nat) : ∀ (k : Nat) (x : ByteArray), x.size + d = 64 → d < k → saltusref04_fitted.l0 k x = some (x ++ ofNats (List.replicate d 0)) := by
  induction d with
  | zero =>
    intro k x hx hk
    obtain ⟨k, rfl⟩ : ∃ m, k = m + 1 := ⟨k - 1, by omega⟩
    rw [saltusref04_fitted.l0, if_neg (by omega)]
    congr 1
    have : ofNats (List.replicate 0 0) = ByteArray.empty := rfl
    rw [this, ByteArray.append_empty]
  | succ d ih =>
    intro k x hx hk
    obtain ⟨k, rfl⟩ : ∃ m, k = m + 1 := ⟨k - 1, by omega⟩
    rw [saltusref04_fitted.l0, if_pos (by omega)]
    simp only [Option.bind_some]
    have e : strOfNums [(0 : Int)] = ofNats [0] := ofNats_eq [0]
    have h1 : (ofNats [0]).size = 1 := rfl
    rw [e, if_pos (by omega), ih k _ (by rw [ByteArray.size_append]; omega) (by omega), ByteArray.append_assoc, ofNats_append]
    rfl
theorem ref_fit (key : ByteArray) (hk : key.size ≤ 1000) (k : Nat) (h : 100 < k) : saltusref04_fitted.f k key = some (fitS key) := by
  obtain ⟨k, rfl⟩ : ∃ m, k = m + 1 := ⟨k - 1, by omega⟩
  unfold saltusref04_fitted.f fitS
  have hs := short_size key
  by_cases hl : key.size > 64
  · have e : shortS key = sumS key := if_pos hl
    rw [e] at hs ⊢
    rw [if_pos (by omega), refsum_f key (by omega)]
    simp only [Option.bind_some]
    rw [saltusref04_fitted.j0]
    exact ref_fitted (64 - (sumS key).size) k _ (by omega) (by omega)
  · have e : shortS key = key := if_neg hl
    rw [e] at hs ⊢
    rw [if_neg (by omega), saltusref04_fitted.j0]
    exact ref_fitted (64 - key.size) k _ (by omega) (by omega)
theorem ref_with_l0 (x : ByteArray) (hx : x.size = 64) (c : Nat) (hc : c < 256) (d : Nat) : ∀ (k t : Nat), d + t = 64 → d < k →
    saltusref04_with.l0 k x (c : Int) (ofNats ((List.range t).map fun i => bn x i ^^^ c)) (t : Int) = some (xorS x c) := by
  induction d with
  | zero =>
    intro k t ht hk
    obtain ⟨k, rfl⟩ : ∃ m, k = m + 1 := ⟨k - 1, by omega⟩
    obtain rfl : t = 64 := by omega
    rw [saltusref04_with.l0, if_neg (by omega)]
    rfl
  | succ d ih =>
    intro k t ht hk
    obtain ⟨k, rfl⟩ : ∃ m, k = m + 1 := ⟨k - 1, by omega⟩
    have e : strOfNums [((bn x t ^^^ c : Nat) : Int)] = ofNats [bn x t ^^^ c] := ofNats_eq [bn x t ^^^ c]
    have w1 : wrap64 ((t : Int) + 1) = ((t + 1 : Nat) : Int) := by unfold wrap64; omega
    rw [saltusref04_with.l0, if_pos (by omega), if_pos (by omega)]
    simp only [Option.bind_some]
    rw [bt_bn, Mac.x8 _ _ (bn_lt x t) hc, e, if_pos (by rw [ofNats_size, ofNats_size]; simp; omega), ofNats_append, w1]
    have e2 : (List.range t).map (fun i => bn x i ^^^ c) ++ [bn x t ^^^ c] = (List.range (t + 1)).map fun i => bn x i ^^^ c := by rw [List.range_succ, List.map_append]; rfl
    rw [e2]
    exact ih k (t + 1) (by omega) (by omega)
theorem ref_with (x : ByteArray) (hx : x.size = 64) (c : Nat) (hc : c < 256) (k : Nat) (hk : 100 < k) : saltusref04_with.f k x (c : Int) = some (xorS x c) :=
  ref_with_l0 x hx c hc 64 k 0 rfl (by omega)
theorem ref_tag (key s : ByteArray) (hk : key.size ≤ 1000) (hs : s.size ≤ 1000) (k : Nat) (h : 200 < k) : saltusref04_Tag.f k key s = some (tagS key s) := by
  unfold saltusref04_Tag.f
  have h92 := ref_with (fitS key) (fit_size key) 92 (by decide) k (by omega)
  have h54 := ref_with (fitS key) (fit_size key) 54 (by decide) k (by omega)
  rw [show ((92 : Nat) : Int) = 92 from rfl] at h92
  rw [show ((54 : Nat) : Int) = 54 from rfl] at h54
  rw [ref_fit key hk k (by omega)]
  simp only [Option.bind_some]
  rw [h92]
  simp only [Option.bind_some]
  rw [h54]
  simp only [Option.bind_some]
  have z1 := xor_size (fitS key) 54
  have z2 := xor_size (fitS key) 92
  rw [if_pos (by omega), refsum_f _ (by rw [ByteArray.size_append]; omega)]
  simp only [Option.bind_some]
  rw [if_pos (by rw [sumS_size]; omega), refsum_f _ (by rw [ByteArray.size_append, sumS_size]; omega)]
  rfl
theorem of_two (a b : ByteArray) (h : a.size + b.size ≤ 1099511627776) : mac_of.f [a, b] = some (sumS (a ++ b)) := if_pos h
theorem tag_f (key s : ByteArray) (hk : key.size ≤ 1000) (hs : s.size ≤ 1000) : mac_Tag.f key s = some (tagS key s) := by
  have h1 : mac_keys.f key = some (xorS (fitS key) 54, xorS (fitS key) 92) := if_pos (by omega)
  have z1 := xor_size (fitS key) 54
  have z2 := xor_size (fitS key) 92
  have h2 : mac_of.f [xorS (fitS key) 54, s] = some (sumS (xorS (fitS key) 54 ++ s)) := if_pos (by omega)
  have h3 : mac_of.f [xorS (fitS key) 92, sumS (xorS (fitS key) 54 ++ s)] = some (sumS (xorS (fitS key) 92 ++ sumS (xorS (fitS key) 54 ++ s))) := of_two _ _ (by rw [sumS_size]; omega)
  unfold mac_Tag.f
  rw [h1]
  simp only [Option.bind_some]
  rw [h2]
  simp only [Option.bind_some]
  rw [h3]
  rfl
theorem u8_or_zero (a b : Nat) (ha : a < 256) (hb : b < 256) : bits .or .u8 (a : Int) (b : Int) = ((a ||| b : Nat) : Int) := by
  show IntKind.u8.wrap ((BitVec.ofInt 8 (a : Int) ||| BitVec.ofInt 8 (b : Int)).toNat : Int) = _
  rw [BitVec.ofInt_natCast, BitVec.ofInt_natCast, BitVec.toNat_or, BitVec.toNat_ofNat, BitVec.toNat_ofNat, Nat.mod_eq_of_lt ha, Nat.mod_eq_of_lt hb, IntKind.wrap_u8]
  have := Nat.or_lt_two_pow (n := 8) ha hb
  omega
open Classical in
theorem check_l0 (tag want : ByteArray) (n : Nat) (hn : n ≤ want.size) (hm : n ≤ tag.size) (hb : want.size < 2 ^ 60) (d : Nat) : ∀ (k t off : Nat), t + d = n → off < 256 → d < k →
    mac_Check.l0 k tag want (off : Int) (n : Int) (t : Int) = some (decide (off = 0 ∧ (∀ i, t ≤ i → i < n → bn want i = bn tag i) ∧ want.size = tag.size)) := by
  induction d with
  | zero =>
    intro k t off ht ho hk
    obtain ⟨k, rfl⟩ : ∃ m, k = m + 1 := ⟨k - 1, by omega⟩
    rw [mac_Check.l0, if_neg (by omega)]
    by_cases h0 : off = 0
    · rw [if_pos (by omega)]
      congr 1
      by_cases hz : want.size = tag.size
      · rw [show ((want.size : Int) == (tag.size : Int)) = true from beq_iff_eq.2 (by omega)]
        exact (decide_eq_true ⟨h0, fun i h1 h2 => by omega, hz⟩).symm
      · rw [show ((want.size : Int) == (tag.size : Int)) = false from beq_eq_false_iff_ne.2 (by omega)]
        exact (decide_eq_false fun h => hz h.2.2).symm
    · rw [if_neg (by omega)]
      congr 1
      exact (decide_eq_false fun h => h0 h.1).symm
  | succ d ih =>
    intro k t off ht ho hk
    obtain ⟨k, rfl⟩ : ∃ m, k = m + 1 := ⟨k - 1, by omega⟩
    have w1 : wrap64 ((t : Int) + 1) = ((t + 1 : Nat) : Int) := by unfold wrap64; omega
    have hx : bn want t ^^^ bn tag t < 256 := Nat.xor_lt_two_pow (n := 8) (bn_lt _ _) (bn_lt _ _)
    rw [mac_Check.l0, if_pos (by omega), if_pos (by omega), if_pos (by omega), if_pos (by omega), bt_bn, bt_bn, Mac.x8 _ _ (bn_lt _ _) (bn_lt _ _), u8_or_zero _ _ ho hx, w1,
      ih k (t + 1) _ (by omega) (Nat.or_lt_two_pow (n := 8) ho hx) (by omega)]
    congr 1
    apply decide_eq_decide.2
    constructor
    · rintro ⟨h1, h2, h3⟩
      have h4 := Nat.or_eq_zero_iff.1 h1
      refine ⟨h4.1, fun i hi hin => ?_, h3⟩
      by_cases e : i = t
      · subst e
        have h5 := congrArg (· ^^^ bn tag i) h4.2
        simpa [Nat.xor_assoc, Nat.xor_self] using h5
      · exact h2 i (by omega) hin
    · rintro ⟨h1, h2, h3⟩
      refine ⟨?_, fun i hi hin => h2 i (by omega) hin, h3⟩
      rw [h1, h2 t (Nat.le_refl t) (by omega), Nat.xor_self]
      rfl
theorem bn_ext {a b : ByteArray} (h : a.size = b.size) (he : ∀ i, i < a.size → bn a i = bn b i) : a = b := by
  apply ByteArray.ext
  apply Array.ext
  · exact h
  · intro i h1 h2
    have h3 := he i h1
    unfold bn at h3
    have h1' : i < a.size := h1
    have h4 : i < b.size := h2
    rw [dif_pos h1', dif_pos h4] at h3
    exact UInt8.toNat_inj.1 h3
open Classical in
/-- whether a text is the tag -/
theorem check_f (key s tag : ByteArray) (hk : key.size ≤ 1000) (hs : s.size ≤ 1000) (k : Nat) (h : 200 < k) : mac_Check.f k key s tag = some (tag.toList == (tagS key s).toList) := by
  unfold mac_Check.f
  rw [tag_f key s hk hs]
  simp only [Option.bind_some]
  have hz := tag_size key s
  generalize tagS key s = want at *
  obtain ⟨off, ho, eo⟩ : ∃ off : Nat, off < 256 ∧ bits .xor .i64 (want.size : Int) (tag.size : Int) % 256 = (off : Int) :=
    ⟨(bits .xor .i64 (want.size : Int) (tag.size : Int) % 256).toNat, by omega, by omega⟩
  have hmn : ∃ n : Nat, mn (want.size : Int) (tag.size : Int) = (n : Int) ∧ n ≤ want.size ∧ n ≤ tag.size ∧ (want.size = tag.size → n = want.size) := by
    unfold mn
    split
    · exact ⟨tag.size, rfl, by omega, Nat.le_refl _, fun e => e.symm⟩
    · exact ⟨want.size, rfl, Nat.le_refl _, by omega, fun _ => rfl⟩
  obtain ⟨n, en, n1, n2, n3⟩ := hmn
  have hself : want.size = tag.size → off = 0 := fun e => by
    rw [e] at eo
    have : bits .xor .i64 (tag.size : Int) (tag.size : Int) = 0 := by
      show IntKind.i64.wrap ((BitVec.ofInt 64 (tag.size : Int) ^^^ BitVec.ofInt 64 (tag.size : Int)).toNat : Int) = 0
      rw [BitVec.xor_self]
      rfl
    rw [this] at eo
    omega
  have hl := check_l0 tag want n n1 n2 (by omega) n k 0 off (by omega) ho (by omega)
  rw [eo, en]
  rw [show ((0 : Nat) : Int) = 0 from rfl] at hl
  rw [hl]
  congr 1
  refine Bool.eq_iff_iff.2 ?_
  rw [decide_eq_true_iff, beq_iff_eq]
  constructor
  · rintro ⟨_, h2, h3⟩
    rw [bn_ext h3.symm fun i hi => (h2 i (Nat.zero_le i) (by rw [n3 h3, h3]; exact hi)).symm]
  · intro e
    have e := toList_inj e
    subst e
    exact ⟨hself rfl, fun _ _ _ => rfl, rfl⟩
end Go.Proofs.Ytolbhliepkcihaa.MacPure
