/- Any state behind any block is as the document says, or refused; under no condition. -/
import Derived.Test.YtolbhliepkcihaaQSMx1
import Derived.Test.YtolbhliepkcihaaShaPure
namespace Go.Proofs.Ytolbhliepkcihaa.Pure
open Go.RowKit Go.Proofs.Ytolbhliepkcihaa.QSM Go.Proofs.YtolbhliepkcihaaW.PrintWords Go.Proofs.YtolbhliepkcihaaW.PrintLast Go.Proofs.YtolbhliepkcihaaW.PrintMore Go.Proofs.Ytolbhliepkcihaa.Sha
theorem alive03 : saltuslaw03_alive.f = some true := by
  unfold saltuslaw03_alive.f
  have h : sha_Sum.f (⟨#[97, 98, 99]⟩ : ByteArray) = some (sumS abc) := sum_f abc (by decide)
  rw [h]
  simp only [Option.bind_some]
  rw [sum_size, if_pos (by decide), if_pos (by decide), abc_bt0, if_pos rfl, if_pos (by decide), abc_bt1]
  rfl
theorem cut03 (s : ByteArray) : ∃ t : ByteArray, t.size ≤ 400 ∧ saltuslaw03_cut.f s = some t := by
  unfold saltuslaw03_cut.f
  have h0 : 0 ≤ mn (s.size : Int) 400 := by unfold mn; split <;> omega
  have h1 : mn (s.size : Int) 400 ≤ s.size := by unfold mn; split <;> omega
  have h2 : mn (s.size : Int) 400 ≤ 400 := by unfold mn; split <;> omega
  rw [if_pos h0, if_pos h1]
  refine ⟨_, ?_, rfl⟩
  rw [ByteArray.size_extract]
  omega
theorem same_l (l : List Int) (hl : (l.length : Int) < 4611686018427387904) : ∀ (k t : Nat), t ≤ l.length → l.length - t < k → QR.saltusref03_Same.l0 k l l (l.length : Int) (t : Int) = some true
  | 0, _, _, h => absurd h (by omega)
  | k + 1, t, ht, h => by
    unfold QR.saltusref03_Same.l0
    by_cases hlt : t < l.length
    · have w1 : wrap64 ((t : Int) + 1) = ((t + 1 : Nat) : Int) := by unfold wrap64; omega
      rw [if_pos (by omega), if_pos (by omega), if_pos (by omega), if_pos (by omega), if_pos rfl, w1]
      exact same_l l hl k (t + 1) (by omega) (by omega)
    · rw [if_neg (by omega)]
theorem same_f (l : List Int) (hl : (l.length : Int) < 4611686018427387904) (k : Nat) (hk : l.length < k) : saltusref03_Same.f k l l = some true := by
  show QR.saltusref03_Same.f k l l = some true
  unfold QR.saltusref03_Same.f
  rw [if_pos rfl]
  exact same_l l hl k 0 (by omega) (by omega)
theorem u32_wf {x : Int} (h : (Lit.int .u32 x).wf = true) : 0 ≤ x ∧ x < 4294967296 := by
  simp only [Lit.wf, IntKind.min, IntKind.max, IntKind.signed, IntKind.bits, Bool.and_eq_true, decide_eq_true_eq, Bool.false_eq_true, if_false] at h
  omega
theorem list8 {l : List Int} (h : okU l = true) (hl : l.length = 8) : ints (stOf l).list = l := by
  apply List.ext_getElem
  · rw [ints_length, hl]; rfl
  · intro i h1 h2
    have hi : i < 8 := by omega
    have h3 := stOf_at h i hi
    rw [List.getD_eq_getElem?_getD, List.getElem?_eq_getElem h2] at h3
    simp only [Option.getD_some] at h3
    rw [← h3]
    unfold St.at
    have h4 : i < (stOf l).list.length := hi
    rw [List.getD_eq_getElem?_getD, List.getElem?_eq_getElem h4]
    simp [ints]
theorem j0_bad (k : Nat) (L : List Int) (t : ByteArray) : saltuslaw03_ShaMixes.j0 (k + 1) L t [] 4 true = some true := by
  rw [saltuslaw03_ShaMixes.j0, if_pos rfl, alive03]
  rfl
theorem j0_good (k : Nat) (L l : List Int) (t : ByteArray) (hr : saltusref03_Mix.f k L t = some l) (hs : saltusref03_Same.f k l l = some true) : saltuslaw03_ShaMixes.j0 (k + 1) L t l 0 false = some true := by
  rw [saltuslaw03_ShaMixes.j0, if_neg (by decide), alive03]
  simp only [Option.bind_some, if_true]
  rw [hr]
  simp only [Option.bind_some]
  rw [hs]
  rfl
theorem mix_good {L : List Int} {t : ByteArray} (hL : okU L = true) (hc : L.length = 8 ∧ t.size = 64) (k : Nat) (hk : 200 ≤ k) : ∃ l, sha_Mix.f L t = some (l, 0) ∧ saltusref03_Mix.f k L t = some l ∧ saltusref03_Same.f k l l = some true := by
  have hr := refmix_eq k (stOf L) (stOf_ok hL) t hc.2 (by omega)
  rw [list8 hL hc.1] at hr
  have hm : sha_Mix.f L t = some (ints (mixS (stOf L) t).list, 0) := by unfold sha_Mix.f; rw [if_pos hc, if_pos hL]
  have hz : (mixS (stOf L) t).list.length = 8 := rfl
  generalize (mixS (stOf L) t).list = l at *
  exact ⟨ints l, hm, hr, same_f _ (by rw [ints_length]; omega) k (by rw [ints_length]; omega)⟩
theorem ShaMixes : saltuslaw03_ShaMixes.Pure := by
  intro l0 a1 _ _ hwf _
  obtain ⟨t, ht, e⟩ := cut03 a1
  refine ⟨201, ?_⟩
  have h0 : 0 ≤ mn (l0.length : Int) 10 := by unfold mn; split <;> omega
  have h1 : mn (l0.length : Int) 10 ≤ l0.length := by unfold mn; split <;> omega
  have h2 : mn (l0.length : Int) 10 ≤ 10 := by unfold mn; split <;> omega
  unfold saltuslaw03_ShaMixes.f
  rw [if_pos h0, if_pos h1, e]
  simp only [Option.bind_some]
  have hL : okU (l0.take (mn (l0.length : Int) 10).toNat) = true := by
    rw [okU, List.all_eq_true]
    intro x hx
    have := u32_wf (hwf x (List.mem_of_mem_take hx))
    simpa using this
  generalize l0.take (mn (l0.length : Int) 10).toNat = L at *
  by_cases hc : L.length = 8 ∧ t.size = 64
  · obtain ⟨l, hm, hr, hs⟩ := mix_good hL hc 200 (Nat.le_refl _)
    have hn : ((t.size : Int) != 64) = false := by rw [hc.2]; rfl
    rw [hm]
    simp only [Option.bind_some]
    rw [if_pos (by omega), hn]
    exact j0_good 200 L l t hr hs
  · have hm : sha_Mix.f L t = some ([], 4) := by unfold sha_Mix.f; rw [if_neg hc]
    rw [hm]
    simp only [Option.bind_some]
    by_cases h8 : L.length = 8
    · have hn : ((t.size : Int) != 64) = true := bne_iff_ne.2 (fun h => hc ⟨h8, by omega⟩)
      rw [if_pos (by omega), hn]
      exact j0_bad 200 L t
    · rw [if_neg (by omega)]
      exact j0_bad 200 L t
end Go.Proofs.Ytolbhliepkcihaa.Pure
