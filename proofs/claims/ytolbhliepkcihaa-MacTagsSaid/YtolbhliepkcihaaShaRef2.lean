/- The reference's padding, mixing and sum, as a program has printed them in Lean, are the plain ones. -/
import Derived.Test.YtolbhliepkcihaaShaSum
import Derived.Test.YtolbhliepkcihaaQRx4
namespace Go.Proofs.Ytolbhliepkcihaa.Sha
open Go.RowKit Go.Proofs.Ytolbhliepkcihaa.QR Go.Proofs.YtolbhliepkcihaaW.PrintWords Go.Proofs.YtolbhliepkcihaaW.PrintLast Go.Proofs.YtolbhliepkcihaaW.PrintMore
theorem ofNats_append (a b : List Nat) : ofNats a ++ ofNats b = ofNats (a ++ b) := by
  apply ByteArray.ext
  simp [ofNats]
theorem sON (l : List Nat) : strOfNums (ints l) = ofNats l := ofNats_eq l
/-- a number's lowest bytes, the highest first -/
def hiL (n : Nat) : Nat → List Nat
  | 0 => []
  | j + 1 => (n / 256 ^ j % 256) :: hiL n j
theorem hiL_length (n : Nat) : ∀ j, (hiL n j).length = j
  | 0 => rfl
  | j + 1 => by simp [hiL, hiL_length n j]
theorem hiL_eight (n : Nat) : hiL n 8 = high8 n := by simp [hiL, high8]
theorem hiL_four (n : Nat) : hiL n 4 = high4 n := by simp [hiL, high4]
theorem u64n (n : Nat) (h : n < 18446744073709551616) : IntKind.u64.wrap (n : Int) = (n : Int) := by rw [wrap_u64]; omega
theorem refhigh_l0 (n m : Nat) (hn : n < 18446744073709551616) (hm : m ≤ 8) (d : Nat) : ∀ (k j : Nat), d + j = m → d < k →
    saltusref03_high.l0 k ((n / 256 ^ j : Nat) : Int) (m : Int) (ofNats (hiL n j)) (j : Int) = some (ofNats (hiL n m)) := by
  induction d with
  | zero =>
    intro k j hj hk
    obtain ⟨k, rfl⟩ : ∃ m, k = m + 1 := ⟨k - 1, by omega⟩
    obtain rfl : j = m := by omega
    simp only [saltusref03_high.l0]
    rw [if_neg (by omega)]
  | succ d ih =>
    intro k j hj hk
    obtain ⟨k, rfl⟩ : ∃ m, k = m + 1 := ⟨k - 1, by omega⟩
    simp only [saltusref03_high.l0]
    have hq : n / 256 ^ j < 18446744073709551616 := Nat.lt_of_le_of_lt (Nat.div_le_self _ _) hn
    have e1 : Int.tmod ((n / 256 ^ j : Nat) : Int) 256 % 256 = ((n / 256 ^ j % 256 : Nat) : Int) := by
      rw [show ((256 : Int)) = ((256 : Nat) : Int) from rfl, ← Int.ofNat_tmod]
      omega
    have e2 : IntKind.u64.wrap (Int.tdiv ((n / 256 ^ j : Nat) : Int) 256) = ((n / 256 ^ (j + 1) : Nat) : Int) := by
      rw [show ((256 : Int)) = ((256 : Nat) : Int) from rfl, ← Int.ofNat_tdiv, u64n _ (Nat.lt_of_le_of_lt (Nat.div_le_self _ _) hq), Nat.div_div_eq_div_mul, ← Nat.pow_succ]
    have e3 : strOfNums [((n / 256 ^ j % 256 : Nat) : Int)] = ofNats [n / 256 ^ j % 256] := ofNats_eq [n / 256 ^ j % 256]
    rw [if_pos (by omega), e1, e2]
    simp only [Option.bind_some]
    rw [e3, ofNats_append, if_pos (by rw [ofNats_size, ofNats_size, hiL_length]; simp; omega), wr1 j (by omega)]
    exact ih k (j + 1) (by omega) (by omega)
theorem refhigh_eq (k n m : Nat) (hn : n < 18446744073709551616) (hm : m ≤ 8) (hk : m < k) : saltusref03_high.f k (n : Int) (m : Int) = some (ofNats (hiL n m)) := by
  have := refhigh_l0 n m hn hm m k 0 rfl hk
  rw [Nat.pow_zero, Nat.div_one] at this
  exact this
def zpad (s : ByteArray) (i : Nat) : ByteArray := (s ++ ⟨#[128]⟩) ++ ofNats (List.replicate i 0)
theorem zpad_size (s : ByteArray) (i : Nat) : (zpad s i).size = s.size + 1 + i := by
  unfold zpad
  rw [ByteArray.size_append, ByteArray.size_append, ofNats_size, List.length_replicate]
  rfl
theorem zpad_succ (s : ByteArray) (i : Nat) : zpad s i ++ ofNats [0] = zpad s (i + 1) := by
  unfold zpad
  rw [ByteArray.append_assoc, ofNats_append]
  congr 2
  rw [List.replicate_succ']
theorem refpad_l0 (s : ByteArray) (hs : s.size ≤ 1099511627776) (d : Nat) : ∀ (k i : Nat), d + i = zerosN s.size → d + 20 < k → saltusref03_Pad.l0 k s (zpad s i) = some (padS s) := by
  have hz : zerosN s.size = (64 - (s.size + 9) % 64) % 64 := rfl
  induction d with
  | zero =>
    intro k i hi hk
    obtain ⟨k, rfl⟩ : ∃ m, k = m + 1 := ⟨k - 1, by omega⟩
    simp only [saltusref03_Pad.l0]
    have hsz := zpad_size s i
    have e : IntKind.u64.wrap (8 * IntKind.u64.wrap (s.size : Int)) = ((s.size * 8 : Nat) : Int) := by
      rw [u64n _ (by omega), show (8 : Int) * (s.size : Int) = ((s.size * 8 : Nat) : Int) by omega, u64n _ (by omega)]
    have h8 := refhigh_eq k (s.size * 8) 8 (by omega) (by decide) (by omega)
    rw [show ((8 : Nat) : Int) = 8 from rfl, hiL_eight] at h8
    rw [if_pos (by rw [hsz]; omega), e, h8]
    simp only [Option.bind_some]
    rw [if_pos (by rw [hsz, ofNats_size]; simp [high8]; omega)]
    unfold padS zpad
    rw [Nat.mod_eq_of_lt (by omega), ← hi, Nat.zero_add]
  | succ d ih =>
    intro k i hi hk
    obtain ⟨k, rfl⟩ : ∃ m, k = m + 1 := ⟨k - 1, by omega⟩
    simp only [saltusref03_Pad.l0]
    have hsz := zpad_size s i
    have e3 : strOfNums [(0 : Int)] = ofNats [0] := ofNats_eq [0]
    rw [if_neg (by rw [hsz]; omega)]
    simp only [Option.bind_some]
    rw [e3, if_pos (by rw [hsz, ofNats_size]; simp; omega), zpad_succ]
    exact ih k (i + 1) (by omega) (by omega)
theorem refpad_eq (k : Nat) (s : ByteArray) (hs : s.size ≤ 1099511627776) (hk : 100 < k) : saltusref03_Pad.f k s = some (padS s) := by
  have e3 : strOfNums [(128 : Int)] = ofNats [128] := ofNats_eq [128]
  have hz : zerosN s.size ≤ 63 := by unfold zerosN; omega
  unfold saltusref03_Pad.f
  simp only [Option.bind_some]
  rw [e3, if_pos (by rw [ofNats_size]; simp; omega)]
  have e : s ++ ofNats [128] = zpad s 0 := by
    unfold zpad
    rw [show ofNats (List.replicate 0 0) = ofNats [] from rfl]
    have : (⟨#[128]⟩ : ByteArray) = ofNats [128] := rfl
    rw [this, ByteArray.append_assoc, ofNats_append]
    rfl
  rw [e]
  exact refpad_l0 s hs (zerosN s.size) k 0 rfl (by omega)
theorem refkeys_eq : saltusref03_Keys.f = some (ints keyL) := rfl
theorem refstart_eq : saltusref03_Start.f = some (ints start.list) := rfl
theorem list_length (s : St) : (ints s.list).length = 8 := rfl
theorem refmix_l1 (s x : St) (d : Nat) : ∀ (k t : Nat), d + t = 8 → d < k →
    saltusref03_Mix.l1 k (ints s.list) (ints ((List.range t).map fun i => (x.at i + s.at i) % M)) (ints x.list) 8 (t : Int) = some (ints (addS x s).list) := by
  induction d with
  | zero =>
    intro k t ht hk
    obtain ⟨k, rfl⟩ : ∃ m, k = m + 1 := ⟨k - 1, by omega⟩
    obtain rfl : t = 8 := by omega
    simp only [saltusref03_Mix.l1]
    rw [if_neg (by omega)]
    rfl
  | succ d ih =>
    intro k t ht hk
    obtain ⟨k, rfl⟩ : ∃ m, k = m + 1 := ⟨k - 1, by omega⟩
    simp only [saltusref03_Mix.l1]
    rw [list_length, list_length, ints_length, List.length_map, List.length_range, if_pos (by omega), if_pos (by omega), if_pos (by omega), if_pos (by omega), if_pos (by omega), rd_ints, rd_ints, wr1 t (by omega)]
    have e : (((x.list.getD t 0 : Nat) : Int) + ((s.list.getD t 0 : Nat) : Int)) % 4294967296 = (((x.at t + s.at t) % M : Nat) : Int) := by unfold St.at M; omega
    rw [e, ints_snoc]
    have e2 : ((List.range t).map fun i => (x.at i + s.at i) % M) ++ [(x.at t + s.at t) % M] = (List.range (t + 1)).map fun i => (x.at i + s.at i) % M := by rw [List.range_succ, List.map_append]; rfl
    rw [e2]
    exact ih k (t + 1) (by omega) (by omega)
theorem refmix_l0 (s : St) (hs : s.Ok) (b : ByteArray) (d : Nat) : ∀ (k t : Nat), d + t = 64 → d + 20 < k →
    saltusref03_Mix.l0 k (ints s.list) (ints (rounds (wordN b) s t).list) (ints keyL) (ints (words b)) 64 (t : Int) = some (ints (mixS s b).list) := by
  have hw : (ints (words b)).length = 64 := by rw [ints_length, ← wordsTo_all, wordsTo_length]
  have hk64 : (ints keyL).length = 64 := rfl
  induction d with
  | zero =>
    intro k t ht hk
    obtain ⟨k, rfl⟩ : ∃ m, k = m + 1 := ⟨k - 1, by omega⟩
    obtain rfl : t = 64 := by omega
    simp only [saltusref03_Mix.l0]
    rw [if_neg (by omega), list_length]
    exact refmix_l1 s (rounds (wordN b) s 64) 8 k 0 rfl (by omega)
  | succ d ih =>
    intro k t ht hk
    obtain ⟨k, rfl⟩ : ∃ m, k = m + 1 := ⟨k - 1, by omega⟩
    simp only [saltusref03_Mix.l0]
    rw [hw, hk64, if_pos (by omega), if_pos (by omega), if_pos (by omega), if_pos (by omega), rd_ints, rd_ints, wr1 t (by omega)]
    have h1 : keyL.getD t 0 = keyN t := rfl
    have h2 : (words b).getD t 0 = wordN b t := rfl
    rw [h1, h2, refround_eq _ (Ok.rounds hs (wordN b) t)]
    simp only [Option.bind_some]
    exact ih k (t + 1) (by omega) (by omega)
theorem refmix_eq (k : Nat) (s : St) (hs : s.Ok) (b : ByteArray) (hb : b.size = 64) (hk : 100 < k) : saltusref03_Mix.f k (ints s.list) b = some (ints (mixS s b).list) := by
  unfold saltusref03_Mix.f
  have hw : (ints (words b)).length = 64 := by rw [ints_length, ← wordsTo_all, wordsTo_length]
  rw [refkeys_eq]
  simp only [Option.bind_some]
  rw [refwords_eq k b hb (by omega)]
  simp only [Option.bind_some]
  rw [hw]
  exact refmix_l0 s hs b 64 k 0 rfl (by omega)
theorem at_lt32 (s : St) (hs : s.Ok) (t : Nat) (ht : t < 8) : s.at t < 4294967296 := by
  have : t = 0 ∨ t = 1 ∨ t = 2 ∨ t = 3 ∨ t = 4 ∨ t = 5 ∨ t = 6 ∨ t = 7 := by omega
  rcases this with rfl | rfl | rfl | rfl | rfl | rfl | rfl | rfl
  · exact hs.a
  · exact hs.b
  · exact hs.c
  · exact hs.d
  · exact hs.e
  · exact hs.f
  · exact hs.g
  · exact hs.h
theorem refsum_l1 (s : St) (hs : s.Ok) (d : Nat) : ∀ (k t : Nat), d + t = 8 → d + 20 < k → saltusref03_Sum.l1 k (ofNats (outTo s t)) (ints s.list) 8 (t : Int) = some (ofNats (outL s)) := by
  induction d with
  | zero =>
    intro k t ht hk
    obtain ⟨k, rfl⟩ : ∃ m, k = m + 1 := ⟨k - 1, by omega⟩
    obtain rfl : t = 8 := by omega
    simp only [saltusref03_Sum.l1]
    rw [if_neg (by omega)]
    rfl
  | succ d ih =>
    intro k t ht hk
    obtain ⟨k, rfl⟩ : ∃ m, k = m + 1 := ⟨k - 1, by omega⟩
    simp only [saltusref03_Sum.l1]
    have hx := at_lt32 s hs t (by omega)
    have h4 := refhigh_eq k (s.at t) 4 (by omega) (by decide) (by omega)
    rw [show ((4 : Nat) : Int) = 4 from rfl, hiL_four] at h4
    rw [list_length, if_pos (by omega), if_pos (by omega), if_pos (by omega), rd_ints]
    have h1 : s.list.getD t 0 = s.at t := rfl
    rw [h1, u64n _ (by omega), h4]
    simp only [Option.bind_some]
    rw [if_pos (by rw [ofNats_size, ofNats_size, outTo_length s t (by omega)]; simp [high4]; omega), ofNats_append, ← outTo_succ s t (by omega), wr1 t (by omega)]
    exact ih k (t + 1) (by omega) (by omega)
theorem refsum_l0 (p : ByteArray) (N : Nat) (hp : p.size = 64 * N) (hN : N < 2 ^ 50) (d : Nat) : ∀ (k i : Nat), d + i = N → d + 200 < k →
    saltusref03_Sum.l0 k (ints (goS p i).list) p ((64 * i : Nat) : Int) = some (ofNats (outL (goS p N))) := by
  induction d with
  | zero =>
    intro k i hi hk
    obtain ⟨k, rfl⟩ : ∃ m, k = m + 1 := ⟨k - 1, by omega⟩
    obtain rfl : i = N := by omega
    simp only [saltusref03_Sum.l0]
    rw [if_neg (by omega), list_length]
    exact refsum_l1 (goS p i) (Ok.go p i) 8 k 0 rfl (by omega)
  | succ d ih =>
    intro k i hi hk
    obtain ⟨k, rfl⟩ : ∃ m, k = m + 1 := ⟨k - 1, by omega⟩
    simp only [saltusref03_Sum.l0]
    have e : wrap64 (((64 * i : Nat) : Int) + 64) = ((64 * (i + 1) : Nat) : Int) := by unfold wrap64; omega
    rw [e, if_pos (by omega), if_pos (by omega), if_pos (by omega), if_pos (by omega), Int.toNat_natCast, Int.toNat_natCast, show 64 * (i + 1) = 64 * i + 64 by omega, refmix_eq k _ (Ok.go p i) _ (extract_size p i (by omega)) (by omega)]
    simp only [Option.bind_some]
    exact ih k (i + 1) (by omega) (by omega)
theorem refsum_eq (k : Nat) (s : ByteArray) (hs : s.size ≤ 1099511627776) (hk : s.size + 400 < k) : saltusref03_Sum.f k s = some (sumS s) := by
  unfold saltusref03_Sum.f
  rw [refstart_eq]
  simp only [Option.bind_some]
  rw [refpad_eq k s hs (by omega)]
  simp only [Option.bind_some]
  have hmod := pad_mod s
  have hps := pad_size s
  have hz : zerosN s.size ≤ 63 := by unfold zerosN; omega
  exact refsum_l0 (padS s) ((padS s).size / 64) (by omega) (by omega) ((padS s).size / 64) k 0 (by omega) (by omega)
end Go.Proofs.Ytolbhliepkcihaa.Sha
