/- A text's sum is its padded blocks mixed into the first state, one by one; it has 32 bytes; under no condition. -/
import Derived.Test.YtolbhliepkcihaaQSGx1
import Derived.Test.YtolbhliepkcihaaShaPure
namespace Go.Proofs.Ytolbhliepkcihaa.Pure
open Go.RowKit Go.Proofs.Ytolbhliepkcihaa.QSG Go.Proofs.YtolbhliepkcihaaW.PrintWords Go.Proofs.YtolbhliepkcihaaW.PrintLast Go.Proofs.YtolbhliepkcihaaW.PrintMore Go.Proofs.Ytolbhliepkcihaa.Sha
theorem alive03 : saltuslaw03_alive.f = some true := by
  unfold saltuslaw03_alive.f
  have h : sha_Sum.f (⟨#[97, 98, 99]⟩ : ByteArray) = some (sumS abc) := sum_f abc (by decide)
  rw [h]
  simp only [Option.bind_some]
  rw [sum_size, if_pos (by decide), if_pos (by decide), abc_bt0, if_pos rfl, if_pos (by decide), abc_bt1]
  rfl
theorem cut03 (s : ByteArray) : ∃ t : ByteArray, t.size ≤ 400 ∧ saltuslaw03_cut.f s = some t := by
  unfold saltuslaw03_cut.f
  have h0 : 0 ≤ mn (s.size : Int) 400 := by unfold mn; split <;> omega
  have h1 : mn (s.size : Int) 400 ≤ s.size := by unfold mn; split <;> omega
  have h2 : mn (s.size : Int) 400 ≤ 400 := by unfold mn; split <;> omega
  rw [if_pos h0, if_pos h1]
  refine ⟨_, ?_, rfl⟩
  rw [ByteArray.size_extract]
  omega
theorem stOf_list (s : St) : stOf (ints s.list) = s := rfl
theorem okU_list (s : St) (hs : s.Ok) : okU (ints s.list) = true := by
  rw [okU, List.all_eq_true]
  intro x hx
  obtain ⟨n, hn, rfl⟩ := List.mem_map.1 hx
  obtain ⟨a, b, c, d, e, f, g, h⟩ := hs
  simp only [St.list, List.mem_cons, List.not_mem_nil, or_false] at hn
  simp only [decide_eq_true_eq]
  rcases hn with rfl | rfl | rfl | rfl | rfl | rfl | rfl | rfl <;> omega
theorem mix_f (s : St) (hs : s.Ok) (b : ByteArray) (hb : b.size = 64) : sha_Mix.f (ints s.list) b = some (ints (mixS s b).list, 0) := by
  unfold sha_Mix.f
  rw [if_pos ⟨by rw [ints_length]; rfl, hb⟩, if_pos (okU_list s hs), stOf_list]
theorem goes_l1 (T : ByteArray) (hT : T.size ≤ 1000000) (s : St) (hsum : sumS T = ofNats (outL s)) (d : Nat) : ∀ (k t : Nat), d + t = 8 → d < k → saltuslaw03_ShaGoes.l1 k T (ints (outTo s t)) (ints s.list) 8 (t : Int) = some true := by
  induction d with
  | zero =>
    intro k t ht hk
    obtain ⟨k, rfl⟩ : ∃ m, k = m + 1 := ⟨k - 1, by omega⟩
    obtain rfl : t = 8 := by omega
    simp only [saltuslaw03_ShaGoes.l1]
    have hl : ((ints (outTo s 8)).length : Int) = 32 := by rw [ints_length, outTo_length s 8 (by omega)]; rfl
    rw [if_neg (by omega), alive03]
    simp only [Option.bind_some, if_true]
    rw [hl, sum_f T hT, hsum]
    simp only [Option.bind_some, if_true]
    have e : strOfNums (ints (outTo s 8)) = ofNats (outL s) := ofNats_eq (outTo s 8)
    rw [e]
    simp
  | succ d ih =>
    intro k t ht hk
    obtain ⟨k, rfl⟩ : ∃ m, k = m + 1 := ⟨k - 1, by omega⟩
    simp only [saltuslaw03_ShaGoes.l1]
    have h1 : s.list.getD t 0 = s.at t := rfl
    rw [list_length, if_pos (by omega), if_pos (by omega), if_pos (by omega), rd_ints, h1]
    simp only [Option.bind_some]
    have e : ([((s.at t : Nat) : Int) / 16777216 % 256, ((s.at t : Nat) : Int) / 65536 % 256, ((s.at t : Nat) : Int) / 256 % 256, ((s.at t : Nat) : Int) % 256] : List Int) = ints (high4 (s.at t)) := rfl
    rw [e, if_pos (by rw [ints_length, ints_length, outTo_length s t (by omega)]; simp [high4]; omega), ← ints_append, ← outTo_succ s t (by omega), wr1 t (by omega)]
    exact ih k (t + 1) (by omega) (by omega)
theorem goes_l0 (T : ByteArray) (hT : T.size ≤ 1000000) (p : ByteArray) (N : Nat) (hp : p.size = 64 * N) (hN : N < 2 ^ 50) (hsum : sumS T = ofNats (outL (goS p N))) (d : Nat) : ∀ (k i : Nat), d + i = N → d + 20 < k →
    saltuslaw03_ShaGoes.l0 k T (ints (goS p i).list) p ((64 * i : Nat) : Int) = some true := by
  induction d with
  | zero =>
    intro k i hi hk
    obtain ⟨k, rfl⟩ : ∃ m, k = m + 1 := ⟨k - 1, by omega⟩
    obtain rfl : i = N := by omega
    have e : wrap64 (((64 * i : Nat) : Int) + 64) = ((64 * i + 64 : Nat) : Int) := by unfold wrap64; omega
    simp only [saltuslaw03_ShaGoes.l0]
    rw [e, if_neg (by omega), list_length]
    exact goes_l1 T hT (goS p i) hsum 8 k 0 rfl (by omega)
  | succ d ih =>
    intro k i hi hk
    obtain ⟨k, rfl⟩ : ∃ m, k = m + 1 := ⟨k - 1, by omega⟩
    simp only [saltuslaw03_ShaGoes.l0]
    have e : wrap64 (((64 * i : Nat) : Int) + 64) = ((64 * (i + 1) : Nat) : Int) := by unfold wrap64; omega
    rw [e, if_pos (by omega), if_pos (by omega), if_pos (by omega), Int.toNat_natCast, Int.toNat_natCast, show 64 * (i + 1) = 64 * i + 64 by omega, mix_f _ (Ok.go p i) _ (extract_size p i (by omega))]
    simp only [Option.bind_some, if_true]
    exact ih k (i + 1) (by omega) (by omega)
theorem ShaGoes : saltuslaw03_ShaGoes.Pure := by
  intro a0 _
  obtain ⟨t, ht, e⟩ := cut03 a0
  have hmod := pad_mod t
  have hps := pad_size t
  have hz : zerosN t.size ≤ 63 := by unfold zerosN; omega
  refine ⟨1000, ?_⟩
  have h1 : sha_Start.f = some (ints Sha.start.list) := rfl
  have h2 : slices_Clone_uint32_uint32.f (ints Sha.start.list) = some (ints Sha.start.list) := rfl
  unfold saltuslaw03_ShaGoes.f
  rw [e]
  simp only [Option.bind_some]
  rw [h1]
  simp only [Option.bind_some]
  rw [h2]
  simp only [Option.bind_some]
  rw [pad_f t (by omega)]
  simp only [Option.bind_some]
  exact goes_l0 t (by omega) (padS t) ((padS t).size / 64) (by omega) (by omega) rfl ((padS t).size / 64) 1000 0 (by omega) (by omega)
end Go.Proofs.Ytolbhliepkcihaa.Pure
