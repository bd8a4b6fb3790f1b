/- Any text's tag, by any key, and whether any tag is it, is as the document says; under no condition. -/
import Derived.Test.YtolbhliepkcihaaMacPure
import Derived.Test.YtolbhliepkcihaaMacHi
namespace Go.Proofs.Ytolbhliepkcihaa.Pure
open Go.RowKit Go.Proofs.Ytolbhliepkcihaa.QMT Go.Proofs.YtolbhliepkcihaaW.PrintWords Go.Proofs.YtolbhliepkcihaaW.PrintLast Go.Proofs.YtolbhliepkcihaaW.PrintMore Go.Proofs.Ytolbhliepkcihaa.Sha Go.Proofs.Ytolbhliepkcihaa.Mac Go.Proofs.Ytolbhliepkcihaa.MacPure
theorem alive04 : saltuslaw04_alive.f = some true := by
  have h1 : strings_Repeat.f (⟨#[11]⟩ : ByteArray) 20 = some elevens := by
    unfold strings_Repeat.f
    rw [if_pos ⟨by decide, by decide, by decide⟩]
    rfl
  have h2 : mac_Tag.f elevens (⟨#[72, 105, 32, 84, 104, 101, 114, 101]⟩ : ByteArray) = some (tagS elevens hiThere) := tag_f elevens hiThere (by decide) (by decide)
  unfold saltuslaw04_alive.f
  rw [h1]
  simp only [Option.bind_some]
  rw [h2]
  simp only [Option.bind_some]
  have hz : ((tagS elevens hiThere).size : Int) = 32 := by rw [tag_size]; rfl
  rw [hz, hi_bt0, hi_bt1]
  rfl
theorem cut04 (s : ByteArray) : ∃ t : ByteArray, t.size ≤ 200 ∧ saltuslaw04_cut.f s = some t := by
  unfold saltuslaw04_cut.f
  have h0 : 0 ≤ mn (s.size : Int) 200 := by unfold mn; split <;> omega
  have h1 : mn (s.size : Int) 200 ≤ s.size := by unfold mn; split <;> omega
  have h2 : mn (s.size : Int) 200 ≤ 200 := by unfold mn; split <;> omega
  rw [if_pos h0, if_pos h1]
  refine ⟨_, ?_, rfl⟩
  rw [ByteArray.size_extract]
  omega
theorem MacTags : saltuslaw04_MacTags.Pure := by
  intro a0 a1 a2 _ _ h2
  obtain ⟨key, hk, e0⟩ := cut04 a0
  obtain ⟨s, hs, e1⟩ := cut04 a1
  obtain ⟨k, hk2⟩ : ∃ k : Nat, 200 < k := ⟨201, by omega⟩
  refine ⟨k, ?_⟩
  have f1 := ref_tag key s (by omega) (by omega) k hk2
  have f2 := tag_f key s (by omega) (by omega)
  have f3 := check_f key s a2 (by omega) (by omega) k hk2
  have f4 := check_f key s (tagS key s) (by omega) (by omega) k hk2
  rw [show ((tagS key s).toList == (tagS key s).toList) = true from beq_self_eq_true _] at f4
  generalize tagS key s = want at *
  unfold saltuslaw04_MacTags.f
  rw [e0, Option.bind_some, e1, Option.bind_some, f1, Option.bind_some, alive04, Option.bind_some, if_pos rfl, f2, Option.bind_some, if_pos rfl, f3, Option.bind_some, if_pos (beq_self_eq_true _), f4]
  rfl
end Go.Proofs.Ytolbhliepkcihaa.Pure
