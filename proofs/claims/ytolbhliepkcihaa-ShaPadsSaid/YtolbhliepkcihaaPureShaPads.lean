/- A text padded is a multiple of 64 bytes long, not 73 longer, and begins with the text and the byte 128; texts padded are the same just if the texts are; under no condition. -/
import Derived.Test.YtolbhliepkcihaaQSBx1
import Derived.Test.YtolbhliepkcihaaPureShaSums
namespace Go.Proofs.Ytolbhliepkcihaa.Pure
open Go.RowKit Go.Proofs.Ytolbhliepkcihaa.QSB Go.Proofs.YtolbhliepkcihaaW.PrintWords Go.Proofs.YtolbhliepkcihaaW.PrintLast Go.Proofs.YtolbhliepkcihaaW.PrintMore Go.Proofs.Ytolbhliepkcihaa.Sha
theorem prefix03 (s : ByteArray) : strings_HasPrefix.f (padS s) (s ++ (⟨#[128]⟩ : ByteArray)) = some true := by
  unfold strings_HasPrefix.f stringslite_HasPrefix.f
  have h := pad_size s
  have h1 : (s ++ (⟨#[128]⟩ : ByteArray)).size = s.size + 1 := by rw [ByteArray.size_append]; rfl
  rw [h1, if_pos (by omega), if_pos (by omega), if_pos (by omega), Int.toNat_natCast, pad_prefix]
  simp
theorem ShaPads : saltuslaw03_ShaPads.Pure := by
  intro a0 a1 _ _
  obtain ⟨s, hs, e⟩ := cut03 a0
  obtain ⟨t, ht, e2⟩ := cut03 a1
  unfold saltuslaw03_ShaPads.f
  rw [e]
  simp only [Option.bind_some]
  rw [e2]
  simp only [Option.bind_some]
  rw [pad_f s (by omega)]
  simp only [Option.bind_some]
  rw [pad_f t (by omega)]
  simp only [Option.bind_some]
  rw [alive03]
  simp only [Option.bind_some]
  have h := pad_size s
  have hm := pad_mod s
  have hz : zerosN s.size ≤ 63 := by unfold zerosN; omega
  have w1 : wrap64 ((s.size : Int) + 9) = (s.size : Int) + 9 := by unfold wrap64; omega
  have w2 : wrap64 ((s.size : Int) + 73) = (s.size : Int) + 73 := by unfold wrap64; omega
  simp only [if_true]
  rw [if_pos (by omega), w1, w2, if_pos (by omega), if_pos (by omega), if_pos (by omega), prefix03]
  simp only [Option.bind_some, if_true]
  by_cases hst : s = t
  · subst hst; simp
  · have h1 : (s.toList == t.toList) = false := beq_eq_false_iff_ne.2 fun e => hst (toList_inj e)
    have h2 : ((padS s).toList == (padS t).toList) = false := beq_eq_false_iff_ne.2 fun e => hst (pad_inj (by omega) (by omega) (toList_inj e))
    rw [h1, h2]; rfl
end Go.Proofs.Ytolbhliepkcihaa.Pure
