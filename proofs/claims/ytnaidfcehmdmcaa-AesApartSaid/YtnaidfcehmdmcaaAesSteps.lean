/- AES's steps: boxed, turned, with: the walks. -/
import Derived.Test.YtnaidfcehmdmcaaMem
import Derived.RegionTactic
import Derived.Lib.Hide
namespace Go.Proofs.Ytnaidfcehmdmcaa.AS
open Go.RowKit Go.Proofs.YtnaidfcehmdmcaaW.PrintWords Go.Proofs.YtnaidfcehmdmcaaW.PrintLast Go.Proofs.YtnaidfcehmdmcaaW.PrintMore
open Go.Proofs.Ytnaidfcehmdmcaa.FC Go.Proofs.Ytnaidfcehmdmcaa.Mem

set_option maxRecDepth 100000 in
set_option maxHeartbeats 4000000 in
theorem boxed_any (st : Nat → Int) (hst : ∀ i, i < 16 → By (st i)) (w : World) : Calls Try.prog 49 #[.agg (u8a 16 st)] w fun e w' => e = .returned (.agg (u8a 16 fun i => boxI (st i))) ∧ Below w.heap.size w w' := by
  go_enter Try.func49, Try.ntmps49
  go_wp2
  rw [zero16]
  have H1 := (Blk.new w 62 (u8a 16 st)).alloc (.cells (u8a 16 fun _ => 0) 62)
  have H2 := Blk.new (w.alloc (.cells (u8a 16 st) 62)) 62 (u8a 16 fun _ => 0)
  have B0 : Below w.heap.size w ((w.alloc (.cells (u8a 16 st) 62)).alloc (.cells (u8a 16 fun _ => 0) 62)) := ((Below.refl _ _).alloc (Nat.le_refl _) _).alloc (by simp) _
  rw [World.size_alloc] at H2
  generalize hg : w.heap.size = g at *
  go_loopw [4] (fun i wr => ∃ k : Nat, k ≤ 16 ∧ i = .int .i64 k ∧ Blk wr g 62 (u8a 16 fun i => if i < k then boxI (st i) else st i) ∧ Blk wr (g + 1) 62 (u8a 16 fun _ => 0) ∧ Below g w wr) (fun i _ => 16 - (intOf i).toNat)
  case atStart => exact ⟨0, by omega, rfl, by simpa using H1, H2, B0⟩
  case round =>
    clear H1 H2 B0
    obtain ⟨k, hk, rfl, hB, hR, hb⟩ := hrel
    by_cases hlt : k < 16
    · have hc : wr.cell? ⟨g, k, none⟩ = some (.int .u8 (st k)) := by rw [hB.cell, u8a_at _ hlt, if_neg (by omega)]
      have hf := hB.frozen k
      have by1 := hst k hlt
      go_wp2_with (go_at_call 18; with_reducible refine (box_any _ _ ?_).mono ?_; (with_reducible assumption); rintro e w' ⟨rfl, ⟨nd, rfl⟩⟩)
      go_roundw
      case rel =>
        refine ⟨k + 1, by omega, by go_num, ?_, ?_, ?_⟩
        · have h := (hB.drewN nd).set_ k (.int .u8 (boxI (st k)))
          rw [u8a_set _ _ hlt] at h
          rw [u8a_ext (g := fun i => if i = k then boxI (st k) else if i < k then boxI (st i) else st i)]
          · exact h
          · intro i _
            by_cases h1 : i = k
            · subst h1; rw [if_pos (by omega), if_pos rfl]
            · rw [if_neg h1]
              by_cases h2 : i < k
              · rw [if_pos (by omega), if_pos h2]
              · rw [if_neg (by omega), if_neg h2]
        · exact (hR.drewN nd).far (p := ⟨g, k, none⟩) (by simp) _
        · exact (pw_below_drewN hb _).setCell (p := ⟨g, k, none⟩) (Nat.le_refl _) _
      case measure => simp [intOf]; omega
    · obtain rfl : k = 16 := by omega
      go_wp2_with (first | (refine wpList_load_row rfl 62 _ rfl g rfl 62 _ (0, 0) _ hB Try.underlying62 rfl (size62 _) ?_) | (refine wpList_store_row rfl 62 _ _ rfl (g + 1) _ rfl rfl 62 _ hR (size62 _) (by rw [u8a_size, u8a_size]) (u8a_one _ _) ?_))
      refine bodyPost_ret (results_cell_row rfl _ _ (g + 1) 62 _ (0, 0) _ rfl (hR.row _) Try.underlying62 rfl (size62 _)) rfl ⟨?_, by rw [hg]; exact below_row hb (Nat.le_succ g) _⟩
      rw [u8a_ext (g := fun i => boxI (st i))]
      intro i hi
      rw [if_pos hi]

theorem mask (x i : Nat) (hi : i ≤ 63) (hx : x < 2 ^ 63) : bits .and .i64 (x : Int) ((2 ^ i - 1 : Nat) : Int) = ((x % 2 ^ i : Nat) : Int) := by
  have hp : 2 ^ i ≤ 2 ^ 63 := Nat.pow_le_pow_right (by decide) hi
  have h0 : 0 < 2 ^ i := Nat.pow_pos (by decide)
  rw [FL.n64 x (2 ^ i - 1) hx (by omega), Nat.and_two_pow_sub_one_eq_mod]
theorem and3 (x : Nat) (hx : x < 2 ^ 63) : bits .and .i64 (x : Int) 3 = ((x % 4 : Nat) : Int) := mask x 2 (by decide) hx
theorem and15 (x : Nat) (hx : x < 2 ^ 63) : bits .and .i64 (x : Int) 15 = ((x % 16 : Nat) : Int) := mask x 4 (by decide) hx

def tplace (i : Nat) : Nat := (i + 4 * (i % 4)) % 16
set_option maxRecDepth 100000 in
set_option maxHeartbeats 4000000 in
theorem turned_any (st : Nat → Int) (w : World) : Calls Try.prog 50 #[.agg (u8a 16 st)] w fun e w' => e = .returned (.agg (u8a 16 fun i => st (tplace i))) ∧ Below w.heap.size w w' := by
  go_enter Try.func50, Try.ntmps50
  go_wp2
  rw [zero16]
  have H1 := ((Blk.new w 62 (u8a 16 st)).alloc (.cells (u8a 16 fun _ => 0) 62)).alloc (.cells (u8a 16 fun _ => 0) 62)
  have H2 := (Blk.new (w.alloc (.cells (u8a 16 st) 62)) 62 (u8a 16 fun _ => 0)).alloc (.cells (u8a 16 fun _ => 0) 62)
  have H3 := Blk.new ((w.alloc (.cells (u8a 16 st) 62)).alloc (.cells (u8a 16 fun _ => 0) 62)) 62 (u8a 16 fun _ => 0)
  have B0 : Below w.heap.size w (((w.alloc (.cells (u8a 16 st) 62)).alloc (.cells (u8a 16 fun _ => 0) 62)).alloc (.cells (u8a 16 fun _ => 0) 62)) := (((Below.refl _ _).alloc (Nat.le_refl _) _).alloc (by simp) _).alloc (by simp; omega) _
  rw [World.size_alloc] at H2
  rw [World.size_alloc, World.size_alloc] at H3
  generalize hg : w.heap.size = g at *
  go_loopw [5] (fun i wr => ∃ k : Nat, k ≤ 16 ∧ i = .int .i64 k ∧ Blk wr g 62 (u8a 16 st) ∧ Blk wr (g + 1) 62 (u8a 16 fun _ => 0) ∧ Blk wr (g + 1 + 1) 62 (u8a 16 fun i => if i < k then st (tplace i) else 0) ∧ Below g w wr) (fun i _ => 16 - (intOf i).toNat)
  case atStart => exact ⟨0, by omega, rfl, H1, H2, by simpa using H3, B0⟩
  case round =>
    clear H1 H2 H3 B0
    obtain ⟨k, hk, rfl, hB, hR, hO, hb⟩ := hrel
    by_cases hlt : k < 16
    · obtain ⟨m, hm⟩ : ∃ m, k % 4 = m := ⟨_, rfl⟩
      obtain ⟨j, hj⟩ : ∃ j, (k + 4 * m) % 16 = j := ⟨_, rfl⟩
      have m4 : m < 4 := by omega
      have j16 : j < 16 := by omega
      have jt : tplace k = j := by unfold tplace; rw [hm, hj]
      have a3 : bits .and .i64 (k : Int) 3 = (m : Int) := by rw [and3 k (by omega), hm]
      have a15 : bits .and .i64 ((k : Int) + 4 * (m : Int)) 15 = (j : Int) := by
        have := and15 (k + 4 * m) (by omega)
        rw [hj] at this
        exact this
      have JT := Lib.hid jt
      clear hm hj jt
      have hc : wr.cell? ⟨g, j, none⟩ = some (.int .u8 (st j)) := by rw [hB.cell, u8a_at _ j16]
      have ho : wr.cell? ⟨g + 1 + 1, k, none⟩ = some (.int .u8 0) := by rw [hO.cell, u8a_at _ hlt, if_neg (by omega)]
      have hf := hO.frozen k
      go_wp2
      go_roundw
      case rel =>
        refine ⟨k + 1, by omega, by go_num, ?_, ?_, ?_, ?_⟩
        · exact hB.far (p := ⟨g + 1 + 1, k, none⟩) (by simp; omega) _
        · exact hR.far (p := ⟨g + 1 + 1, k, none⟩) (by simp) _
        · have h := hO.set_ k (.int .u8 (st j))
          rw [u8a_set _ _ hlt] at h
          rw [u8a_ext (g := fun i => if i = k then st j else if i < k then st (tplace i) else 0)]
          · exact h
          · intro i _
            by_cases h1 : i = k
            · subst h1; rw [if_pos (by omega), if_pos rfl, JT.out]
            · rw [if_neg h1]
              by_cases h2 : i < k
              · rw [if_pos (by omega), if_pos h2]
              · rw [if_neg (by omega), if_neg h2]
        · exact hb.setCell (p := ⟨g + 1 + 1, k, none⟩) (by simp; omega) _
      case measure => simp [intOf]; omega
    · obtain rfl : k = 16 := by omega
      go_wp2_with (first | (refine wpList_load_row rfl 62 _ rfl (g + 1 + 1) rfl 62 _ (0, 0) _ hO Try.underlying62 rfl (size62 _) ?_) | (refine wpList_store_row rfl 62 _ _ rfl (g + 1) _ rfl rfl 62 _ hR (size62 _) (by rw [u8a_size, u8a_size]) (u8a_one _ _) ?_))
      refine bodyPost_ret (results_cell_row rfl _ _ (g + 1) 62 _ (0, 0) _ rfl (hR.row _) Try.underlying62 rfl (size62 _)) rfl ⟨?_, by rw [hg]; exact below_row hb (Nat.le_succ g) _⟩
      rw [u8a_ext (g := fun i => st (tplace i))]
      intro i hi
      rw [if_pos hi]

theorem bt_nat (s : ByteArray) (k : Nat) (hk : k < s.size) : ((s[k]'hk).toNat : Int) = bt s k := by
  unfold bt
  rw [dif_pos (by simpa using hk)]
  rfl
set_option maxRecDepth 100000 in
set_option maxHeartbeats 4000000 in
theorem with_any (st : Nat → Int) (key : ByteArray) (hkey : key.size = 16) (w : World) : Calls Try.prog 56 #[.agg (u8a 16 st), .string key] w fun e w' => e = .returned (.agg (u8a 16 fun i => bits .xor .u8 (st i) (bt key i))) ∧ Below w.heap.size w w' := by
  go_enter Try.func56, Try.ntmps56
  go_wp2
  rw [zero16]
  have H1 := (Blk.new w 62 (u8a 16 st)).alloc (.cells (u8a 16 fun _ => 0) 62)
  have H2 := Blk.new (w.alloc (.cells (u8a 16 st) 62)) 62 (u8a 16 fun _ => 0)
  have B0 : Below w.heap.size w ((w.alloc (.cells (u8a 16 st) 62)).alloc (.cells (u8a 16 fun _ => 0) 62)) := ((Below.refl _ _).alloc (Nat.le_refl _) _).alloc (by simp) _
  rw [World.size_alloc] at H2
  generalize hg : w.heap.size = g at *
  go_loopw [6] (fun i wr => ∃ k : Nat, k ≤ 16 ∧ i = .int .i64 k ∧ Blk wr g 62 (u8a 16 fun i => if i < k then bits .xor .u8 (st i) (bt key i) else st i) ∧ Blk wr (g + 1) 62 (u8a 16 fun _ => 0) ∧ Below g w wr) (fun i _ => 16 - (intOf i).toNat)
  case atStart => exact ⟨0, by omega, rfl, by simpa using H1, H2, B0⟩
  case round =>
    clear H1 H2 B0
    obtain ⟨k, hk, rfl, hB, hR, hb⟩ := hrel
    by_cases hlt : k < 16
    · have hc : wr.cell? ⟨g, k, none⟩ = some (.int .u8 (st k)) := by rw [hB.cell, u8a_at _ hlt, if_neg (by omega)]
      have hf := hB.frozen k
      have hks : k < key.size := by omega
      go_wp2
      go_region
      all_goals
        go_wp2
        go_roundw
        case rel =>
          rw [bt_nat key k hks]
          refine ⟨k + 1, by omega, by go_num, ?_, ?_, ?_⟩
          · have h := (hB.set_ k (.int .u8 (bits .xor .u8 (st k) (bt key k)))).drew
            rw [u8a_set _ _ hlt] at h
            rw [u8a_ext (g := fun i => if i = k then bits .xor .u8 (st k) (bt key k) else if i < k then bits .xor .u8 (st i) (bt key i) else st i)]
            · exact h
            · intro i _
              by_cases h1 : i = k
              · subst h1; rw [if_pos (by omega), if_pos rfl]
              · rw [if_neg h1]
                by_cases h2 : i < k
                · rw [if_pos (by omega), if_pos h2]
                · rw [if_neg (by omega), if_neg h2]
          · exact (hR.far (p := ⟨g, k, none⟩) (by simp) _).drew
          · exact below_drew (hb.setCell (p := ⟨g, k, none⟩) (Nat.le_refl _) _)
        case measure => simp [intOf]; omega
    · obtain rfl : k = 16 := by omega
      go_wp2_with (first | (refine wpList_load_row rfl 62 _ rfl g rfl 62 _ (0, 0) _ hB Try.underlying62 rfl (size62 _) ?_) | (refine wpList_store_row rfl 62 _ _ rfl (g + 1) _ rfl rfl 62 _ hR (size62 _) (by rw [u8a_size, u8a_size]) (u8a_one _ _) ?_))
      refine bodyPost_ret (results_cell_row rfl _ _ (g + 1) 62 _ (0, 0) _ rfl (hR.row _) Try.underlying62 rfl (size62 _)) rfl ⟨?_, by rw [hg]; exact below_row hb (Nat.le_succ g) _⟩
      rw [u8a_ext (g := fun i => bits .xor .u8 (st i) (bt key i))]
      intro i hi
      rw [if_pos hi]
end Go.Proofs.Ytnaidfcehmdmcaa.AS
