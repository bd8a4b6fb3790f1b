/- Any text's sum, and the text padded, are as the document says; under no condition. -/
import Derived.Test.YtolbhliepkcihaaQSBx1
import Derived.Test.YtolbhliepkcihaaShaPure
namespace Go.Proofs.Ytolbhliepkcihaa.Pure
open Go.RowKit Go.Proofs.Ytolbhliepkcihaa.QSB Go.Proofs.YtolbhliepkcihaaW.PrintWords Go.Proofs.YtolbhliepkcihaaW.PrintLast Go.Proofs.YtolbhliepkcihaaW.PrintMore Go.Proofs.Ytolbhliepkcihaa.Sha
theorem alive03 : saltuslaw03_alive.f = some true := by
  unfold saltuslaw03_alive.f
  have h : sha_Sum.f (⟨#[97, 98, 99]⟩ : ByteArray) = some (sumS abc) := sum_f abc (by decide)
  rw [h]
  simp only [Option.bind_some]
  rw [sum_size, if_pos (by decide), if_pos (by decide), abc_bt0, if_pos rfl, if_pos (by decide), abc_bt1]
  rfl
theorem cut03 (s : ByteArray) : ∃ t : ByteArray, t.size ≤ 400 ∧ saltuslaw03_cut.f s = some t := by
  unfold saltuslaw03_cut.f
  have h0 : 0 ≤ mn (s.size : Int) 400 := by unfold mn; split <;> omega
  have h1 : mn (s.size : Int) 400 ≤ s.size := by unfold mn; split <;> omega
  have h2 : mn (s.size : Int) 400 ≤ 400 := by unfold mn; split <;> omega
  rw [if_pos h0, if_pos h1]
  refine ⟨_, ?_, rfl⟩
  rw [ByteArray.size_extract]
  omega
theorem ShaSums : saltuslaw03_ShaSums.Pure := by
  intro a0 _
  obtain ⟨t, ht, e⟩ := cut03 a0
  unfold saltuslaw03_ShaSums.f
  rw [e]
  simp only [Option.bind_some]
  rw [alive03]
  simp only [Option.bind_some]
  simp only [if_true]
  rw [pad_f t (by omega)]
  simp only [Option.bind_some]
  rw [refpad_f t (by omega)]
  simp only [Option.bind_some]
  simp only [if_true]
  rw [sum_f t (by omega)]
  simp only [Option.bind_some]
  rw [refsum_f t (by omega)]
  simp
end Go.Proofs.Ytolbhliepkcihaa.Pure
