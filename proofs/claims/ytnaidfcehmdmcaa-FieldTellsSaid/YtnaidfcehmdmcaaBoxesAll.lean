/- Boxes: the walk. -/
import Derived.Test.YtnaidfcehmdmcaaFieldCon
import Derived.LoopTactic
namespace Go.Proofs.Ytnaidfcehmdmcaa.FC
open Go.RowKit Go.Proofs.YtnaidfcehmdmcaaW.PrintWords Go.Proofs.YtnaidfcehmdmcaaW.PrintLast Go.Proofs.YtnaidfcehmdmcaaW.PrintMore
open Go.Proofs.Ytnaidfcehmdmcaa.FL

def Blk (w : World) (g : Nat) (t : TypeId) (cs : Array Value) : Prop := w.heap[g]? = some (.cells cs t (0, 0))
def bxs (k : Nat) : Array Value := ((List.range 256).map fun i => Value.int .u8 (if i < k then boxI i else 0)).toArray
theorem bxs_at (k i : Nat) (hi : i < 256) : (bxs k)[i]? = some (Value.int .u8 (if i < k then boxI i else 0)) := by
  simp [bxs, List.getElem?_range hi]
theorem bxs_set (k : Nat) (_hk : k < 256) : (bxs k).setIfInBounds k (Value.int .u8 (boxI k)) = bxs (k + 1) := by
  apply Array.ext_getElem?
  intro i
  rw [Array.getElem?_setIfInBounds]
  by_cases hi : i < 256
  · rw [bxs_at _ _ hi, bxs_at _ _ hi]
    by_cases h : k = i
    · subst h; simp [bxs, hi]
    · rw [if_neg h]
      by_cases h2 : i < k
      · rw [if_pos h2, if_pos (by omega)]
      · rw [if_neg h2, if_neg (by omega)]
  · have e1 : (bxs k)[i]? = none := by simp [bxs]; omega
    have e2 : (bxs (k + 1))[i]? = none := by simp [bxs]; omega
    rw [e1, e2, if_neg (by omega)]
theorem info5 : (Try.prog.info? 5).map (fun i => (i.zero, i.size, i.bytes)) = some (some (.int .u8 0), 1, 1) := by kernel_rfl
theorem made_bxs : madeCells (Value.int .u8 0).cells 256 = bxs 0 := by
  kernel_rfl
theorem make_bxs (w : World) : (Instr.makeSlice 29 (.int .i64 256) (.int .i64 256)).run Try.prog w = .ok (.slice (some ⟨w.heap.size, 0, none⟩) 256 256) (w.alloc (.cells (bxs 0) 5)) := by
  obtain ⟨i, hi, hz, hs, hb⟩ := info_parts info5
  have := run_make (P := Try.prog) w 29 5 i (.int .u8 0) Try.underlying29 hi hz .i64 .i64 256 256 (by decide) (by decide) (by rw [hb]; decide) (by decide)
  rw [hs] at this
  rw [← made_bxs]
  exact this
theorem Blk.cell {w : World} {g : Nat} {t : TypeId} {cs : Array Value} (h : Blk w g t cs) (i : Nat) : w.cell? ⟨g, i, none⟩ = cs[i]? := by
  unfold Blk at h; simp [World.cell?, h]
theorem Blk.frozen {w : World} {g : Nat} {t : TypeId} {cs : Array Value} (h : Blk w g t cs) (i : Nat) : w.frozen? ⟨g, i, none⟩ = false := by
  unfold Blk at h; simp [World.frozen?, h]
theorem Blk.set_ {w : World} {g : Nat} {t : TypeId} {cs : Array Value} (h : Blk w g t cs) (i : Nat) (u : Value) : Blk (w.setCell ⟨g, i, none⟩ u) g t (cs.setIfInBounds i u) := by
  unfold Blk at h ⊢
  simp [World.setCell, Array.getElem?_modify, h]
theorem Blk.drewN {w : World} {g : Nat} {t : TypeId} {cs : Array Value} (h : Blk w g t cs) (n : Nat) : Blk (w.drewN n) g t cs := h
set_option maxRecDepth 100000 in
set_option maxHeartbeats 4000000 in
theorem boxes19 (w : World) : Calls Try.prog 19 #[] w fun e w' => e = .returned (.slice (some ⟨w.heap.size, 0, none⟩) 256 256) ∧ Blk w' w.heap.size 5 (bxs 256) ∧ Below w.heap.size w w' := by
  have hmk := make_bxs w
  go_enter Try.func19, Try.ntmps19
  go_wp2
  clear hmk
  obtain ⟨g, hg⟩ : ∃ g, w.heap.size = g := ⟨_, rfl⟩
  have H0 : Blk (w.alloc (.cells (bxs 0) 5)) g 5 (bxs 0) := by rw [← hg]; exact heap_alloc_new w _
  have B0 : Below g w (w.alloc (.cells (bxs 0) 5)) := by rw [← hg]; exact (Below.refl _ _).alloc (Nat.le_refl _) _
  rw [hg]
  go_loopw [2, 6] (fun _ i wr => ∃ k : Nat, k ≤ 256 ∧ i = .int .i64 k ∧ Blk wr g 5 (bxs k) ∧ Below g w wr) (fun _ i _ => 256 - (intOf i).toNat)
  case atStart => exact ⟨0, by omega, rfl, H0, B0⟩
  case round =>
    clear H0 B0
    obtain ⟨k, hk, rfl, hB, hb⟩ := hrel
    by_cases hlt : k < 256
    · have hc : wr.cell? ⟨g, k, none⟩ = some (.int .u8 0) := by rw [hB.cell, bxs_at _ _ hlt]; simp
      have hf := hB.frozen k
      have by1 : By (k : Int) := ⟨by omega, by omega⟩
      go_wp2_with (go_at_call 18; with_reducible refine (box_any _ _ ?_).mono ?_; (with_reducible assumption); rintro e w' ⟨rfl, ⟨nd, rfl⟩⟩)
      go_roundw
      case rel =>
        refine ⟨k + 1, by omega, by go_num, ?_, ?_⟩
        · rw [← bxs_set k hlt]; exact (hB.drewN _).set_ k _
        · exact (pw_below_drewN hb _).setCell (p := ⟨g, k, none⟩) (Nat.le_refl _) _
      case measure => simp [intOf]; omega
    · obtain rfl : k = 256 := by omega
      go_wp2
      go_ret
      exact ⟨by rw [hg]; rfl, by rw [hg]; exact hB, by rw [hg]; exact hb⟩
end Go.Proofs.Ytnaidfcehmdmcaa.FC
