/- mac.keys: the walk. -/
import Derived.Test.YtolbhliepkcihaaMacWalk
namespace Go.Proofs.Ytolbhliepkcihaa.Mac
open Go.RowKit Go.Proofs.Ytolbhliepkcihaa.Mem Go.Proofs.Ytolbhliepkcihaa.Sha Go.Proofs.YtolbhliepkcihaaW.PrintWords Go.Proofs.YtolbhliepkcihaaW.PrintLast Go.Proofs.YtolbhliepkcihaaW.PrintMore
theorem load_str (w : World) (g : Nat) (s : ByteArray) (h : w.cell? ⟨g, 0, none⟩ = some (.string s)) : (loadVar 9 ⟨g, 0, none⟩).run Try.prog w = .ok (.string s) w := by
  go_simp
theorem store_str (w : World) (g : Nat) (s t : ByteArray) (h : Blk w g 9 #[.string s]) : (Instr.storeAt 9 (.pointer (some ⟨g, 0, none⟩)) (.string t)).run Try.prog w = .ok () (w.setCell ⟨g, 0, none⟩ (.string t)) := by
  have c := h.cell 0
  have f := h.frozen 0
  go_simp
set_option maxRecDepth 100000 in
set_option maxHeartbeats 4000000 in
theorem keys_any (key : ByteArray) (hk : key.size ≤ 549755813888) (w : World) :
    Calls Try.prog 78 #[.string key] w fun e w' => e = .returned (.tuple #[.string (xorS (fitS key) 54), .string (xorS (fitS key) 92)]) ∧ Below w.heap.size w w' := by
  obtain ⟨g, hg⟩ : ∃ g, w.heap.size = g := ⟨_, rfl⟩
  have b0 : Below g w w := by rw [← hg]; exact Below.refl _ _
  rw [hg]
  go_enter Try.func78, Try.ntmps78
  have A0 := Blk.new w 9 #[.string key]
  have B0 := b0.alloc (Nat.le_of_eq hg.symm) (.cells #[.string key] 9)
  have HSUM := Lib.hid (sum_any key (by omega))
  rw [hg] at A0
  have HW1 : Hid (∀ W : World, W.cell? ⟨g, 0, none⟩ = some (.string (fitS key)) → Calls Try.prog 106 #[.int .u8 54, .pointer (some ⟨g, 0, none⟩)] W fun e w' => e = .returned (.string (xorS (fitS key) 54)) ∧ Below W.heap.size W w') :=
    Lib.hid fun W h => with_any (fitS key) (fit_size key) 54 (by decide) g W h
  have HW2 : Hid (∀ W : World, W.cell? ⟨g, 0, none⟩ = some (.string (fitS key)) → Calls Try.prog 106 #[.int .u8 92, .pointer (some ⟨g, 0, none⟩)] W fun e w' => e = .returned (.string (xorS (fitS key) 92)) ∧ Below W.heap.size W w') :=
    Lib.hid fun W h => with_any (fitS key) (fit_size key) 92 (by decide) g W h
  by_cases hlen : key.size ≤ 64
  · have hlenI : ¬ (64 : Int) < (key.size : Int) := by omega
    have hq : shortS key = key := if_neg (by omega)
    go_wp2
    have A := A0
    have B := B0
    have hqs := hlen
    generalize w.alloc (.cells #[.string key] 9) = wq at *
    clear A0 B0 HSUM hlen hlenI
    obtain ⟨z, hz⟩ : ∃ z, 64 - key.size = z := ⟨_, rfl⟩
    have hw : IntKind.i64.wrap (64 - (key.size : Int)) = (z : Int) := by rw [IntKind.wrap_i64]; omega
    have hrep := fun W : World => repeat_any z (by omega) W
    have hq1 : (ofNats (List.replicate z 0)).size = z := by rw [ofNats_size]; simp
    have hfit : key ++ ofNats (List.replicate z 0) = fitS key := by unfold fitS; rw [hq, hz]
    generalize ofNats (List.replicate z 0) = zt at *
    have HREP := Lib.hid hrep
    have HFIT := Lib.hid hfit
    have hcat : key.size + z ≤ 9223372036854775807 := by omega
    have HA := Lib.hid (A.cell 0)
    have hzw := B.size
    rw [hg] at hzw
    clear hrep hfit hz hq hqs
    refine start_ (n := 7) (S := fun w' => w'.cell? ⟨g, 0, none⟩ = some (.string key)) (ds := [6]) #[false, false, false, false, false, false, false] (by kernel_rfl) rfl rfl HA.out (fun hHeld => ?_)
    refine take_ (i := 0) (N := some 10) (v := .string key) (a' := ?_) #[true, false, false, false, false, false, false] rfl rfl (by kernel_rfl) (fun _ _ _ h => h) (Or.inl ⟨by rfl, ?_⟩) hHeld ?_ ?_
    · intro w' hS
      have hS1 : w'.cell? ⟨g, 0, none⟩ = some (.string key) := hS
      simp [execOp, Act.eval, Instr.loadAt, Instr.sureAddr, load_str w' g key hS1]
    rotate_left
    · simp only [Act.put, List.setIfInBounds_toArray, List.set_cons_zero, List.set_cons_succ]
      rfl
    refine take_ (i := 1) (N := some 11) (v := .string key) (a' := ?_) #[true, true, false, false, false, false, false] rfl rfl (by kernel_rfl) (fun _ _ _ h => h) (Or.inl ⟨by rfl, ?_⟩) hHeld ?_ ?_
    · intro w' hS
      have hS1 : w'.cell? ⟨g, 0, none⟩ = some (.string key) := hS
      simp [execOp, Act.eval, Instr.loadAt, Instr.sureAddr, load_str w' g key hS1]
    rotate_left
    · simp only [Act.put, List.setIfInBounds_toArray, List.set_cons_zero, List.set_cons_succ]
      rfl
    refine pure_ (i := 2) (N := some 12) (v := .int .i64 (key.size : Int)) (a' := ?_) #[true, true, true, false, false, false, false] rfl rfl (by kernel_rfl) (fun _ _ _ h => h) (Or.inl ⟨by rfl, ?_⟩) ?_ ?_
    · intro w'
      go_simp
    rotate_left
    · simp only [Act.put, List.setIfInBounds_toArray, List.set_cons_zero, List.set_cons_succ]
      rfl
    refine pure_ (i := 3) (N := some 13) (v := .int .i64 (z : Int)) (a' := ?_) #[true, true, true, true, false, false, false] rfl rfl (by kernel_rfl) (fun _ _ _ h => h) (Or.inl ⟨by rfl, ?_⟩) ?_ ?_
    · intro w'
      go_simp
    rotate_left
    · simp only [Act.put, List.setIfInBounds_toArray, List.set_cons_zero, List.set_cons_succ]
      rfl
    refine one_ (i := 4) (N := some 14) #[true, true, true, true, true, false, false] rfl rfl (by kernel_rfl) (by decide) (fun K hK => ?_)
    refine goes_ Try.func70 (by kernel_rfl) rfl #[.string ⟨#[0]⟩, .int .i64 (z : Int)] (by rfl) rfl rfl (by (try simp only [List.map_toArray, List.map_cons, List.map_nil]); first | done | rfl) ?_
    refine (HREP.out _).mono ?_
    rintro e w5 ⟨rfl, hb5⟩
    refine ⟨_, rfl, ?_⟩
    have A5 := A.drew.below hb5 A.lt
    have c5 := A5.cell 0
    refine hK.out _ _ c5 (fun hHeld => ?_)
    clear hK K
    refine norm_ (a' := ?_) ?_ ?_
    rotate_left
    · simp only [Act.put, List.setIfInBounds_toArray, List.set_cons_zero, List.set_cons_succ]
      rfl
    refine pure_ (i := 5) (N := some 15) (v := .string (fitS key)) (a' := ?_) #[true, true, true, true, true, true, false] rfl rfl (by kernel_rfl) (fun _ _ _ h => h) (Or.inl ⟨by rfl, ?_⟩) ?_ ?_
    · intro w'
      rw [← HFIT.out]
      go_simp
    rotate_left
    · simp only [Act.put, List.setIfInBounds_toArray, List.set_cons_zero, List.set_cons_succ]
      rfl
    refine last_ (i := 6) (N := none) #[true, true, true, true, true, true, true] rfl rfl (by kernel_rfl) (by decide) (fun K hK => ?_)
    have f5 := A5.frozen 0
    refine skip_ (w1 := w5.setCell ⟨g, 0, none⟩ (.string (fitS key))) rfl rfl (by simp [execOp, Act.eval, store_str w5 g key (fitS key) A5]) ?_
    have A6 := A5.set_ 0 (.string (fitS key))
    have B6 := ((Mem.below_drew B).trans (hb5.mono hzw)).setCell (p := ⟨g, 0, none⟩) (Nat.le_refl g) (.string (fitS key))
    clear c5 f5 hb5 A B A5
    generalize w5.setCell ⟨g, 0, none⟩ (.string (fitS key)) = w6 at *
    have c6 := A6.cell 0
    refine hK.out _ _ ?_
    refine done_ (by kernel_rfl) ?_
    clear hK K HREP HA hHeld
    go_wp2_with fail
    refine (HW1.out _ c6).mono ?_
    rintro e w7 ⟨rfl, hb7⟩
    have A7 := A6.below hb7 A6.lt
    have c7 := A7.cell 0
    have hz6 := B6.size
    have B7 := B6.trans (hb7.mono (by rw [hg] at hz6; exact hz6))
    have hz7 := B7.size
    clear c6 A6 B6 hb7
    go_wp2_with fail
    refine (HW2.out _ c7).mono ?_
    rintro e w8 ⟨rfl, hb8⟩
    have B8 := B7.trans (hb8.mono (by rw [hg] at hz7; exact hz7))
    clear c7 A7 B7 hb8 HW1 HW2
    go_wp2
    go_ret2
    exact ⟨rfl, B8⟩
  · have hlenI : (64 : Int) < (key.size : Int) := by omega
    have hq : shortS key = sumS key := if_pos (by omega)
    go_wp2_with fail
    refine (HSUM.out _).mono ?_
    rintro e w1 ⟨rfl, hb1⟩
    have hz1 := B0.size
    have A1 := A0.below hb1 A0.lt
    have B1 := B0.trans (hb1.mono (by rw [hg] at hz1; exact hz1))
    have hqs : (sumS key).size ≤ 64 := by rw [sumS_size]; decide
    generalize sumS key = q at *
    clear A0 B0 HSUM hb1
    have c1 := A1.cell 0
    have f1 := A1.frozen 0
    go_wp2
    have A := A1.set_ 0 (.string q)
    have B := B1.setCell (p := ⟨g, 0, none⟩) (Nat.le_refl g) (.string q)
    generalize w1.setCell ⟨g, 0, none⟩ (.string q) = wq at *
    clear A1 B1 c1 f1 hlen hlenI
    obtain ⟨z, hz⟩ : ∃ z, 64 - q.size = z := ⟨_, rfl⟩
    have hw : IntKind.i64.wrap (64 - (q.size : Int)) = (z : Int) := by rw [IntKind.wrap_i64]; omega
    have hrep := fun W : World => repeat_any z (by omega) W
    have hq1 : (ofNats (List.replicate z 0)).size = z := by rw [ofNats_size]; simp
    have hfit : q ++ ofNats (List.replicate z 0) = fitS key := by unfold fitS; rw [hq, hz]
    generalize ofNats (List.replicate z 0) = zt at *
    have HREP := Lib.hid hrep
    have HFIT := Lib.hid hfit
    have hcat : q.size + z ≤ 9223372036854775807 := by omega
    have HA := Lib.hid (A.cell 0)
    have hzw := B.size
    rw [hg] at hzw
    clear hrep hfit hz hq hqs
    refine start_ (n := 7) (S := fun w' => w'.cell? ⟨g, 0, none⟩ = some (.string q)) (ds := [6]) #[false, false, false, false, false, false, false] (by kernel_rfl) rfl rfl HA.out (fun hHeld => ?_)
    refine take_ (i := 0) (N := some 10) (v := .string q) (a' := ?_) #[true, false, false, false, false, false, false] rfl rfl (by kernel_rfl) (fun _ _ _ h => h) (Or.inl ⟨by rfl, ?_⟩) hHeld ?_ ?_
    · intro w' hS
      have hS1 : w'.cell? ⟨g, 0, none⟩ = some (.string q) := hS
      simp [execOp, Act.eval, Instr.loadAt, Instr.sureAddr, load_str w' g q hS1]
    rotate_left
    · simp only [Act.put, List.setIfInBounds_toArray, List.set_cons_zero, List.set_cons_succ]
      rfl
    refine take_ (i := 1) (N := some 11) (v := .string q) (a' := ?_) #[true, true, false, false, false, false, false] rfl rfl (by kernel_rfl) (fun _ _ _ h => h) (Or.inl ⟨by rfl, ?_⟩) hHeld ?_ ?_
    · intro w' hS
      have hS1 : w'.cell? ⟨g, 0, none⟩ = some (.string q) := hS
      simp [execOp, Act.eval, Instr.loadAt, Instr.sureAddr, load_str w' g q hS1]
    rotate_left
    · simp only [Act.put, List.setIfInBounds_toArray, List.set_cons_zero, List.set_cons_succ]
      rfl
    refine pure_ (i := 2) (N := some 12) (v := .int .i64 (q.size : Int)) (a' := ?_) #[true, true, true, false, false, false, false] rfl rfl (by kernel_rfl) (fun _ _ _ h => h) (Or.inl ⟨by rfl, ?_⟩) ?_ ?_
    · intro w'
      go_simp
    rotate_left
    · simp only [Act.put, List.setIfInBounds_toArray, List.set_cons_zero, List.set_cons_succ]
      rfl
    refine pure_ (i := 3) (N := some 13) (v := .int .i64 (z : Int)) (a' := ?_) #[true, true, true, true, false, false, false] rfl rfl (by kernel_rfl) (fun _ _ _ h => h) (Or.inl ⟨by rfl, ?_⟩) ?_ ?_
    · intro w'
      go_simp
    rotate_left
    · simp only [Act.put, List.setIfInBounds_toArray, List.set_cons_zero, List.set_cons_succ]
      rfl
    refine one_ (i := 4) (N := some 14) #[true, true, true, true, true, false, false] rfl rfl (by kernel_rfl) (by decide) (fun K hK => ?_)
    refine goes_ Try.func70 (by kernel_rfl) rfl #[.string ⟨#[0]⟩, .int .i64 (z : Int)] (by rfl) rfl rfl (by (try simp only [List.map_toArray, List.map_cons, List.map_nil]); first | done | rfl) ?_
    refine (HREP.out _).mono ?_
    rintro e w5 ⟨rfl, hb5⟩
    refine ⟨_, rfl, ?_⟩
    have A5 := A.drew.below hb5 A.lt
    have c5 := A5.cell 0
    refine hK.out _ _ c5 (fun hHeld => ?_)
    clear hK K
    refine norm_ (a' := ?_) ?_ ?_
    rotate_left
    · simp only [Act.put, List.setIfInBounds_toArray, List.set_cons_zero, List.set_cons_succ]
      rfl
    refine pure_ (i := 5) (N := some 15) (v := .string (fitS key)) (a' := ?_) #[true, true, true, true, true, true, false] rfl rfl (by kernel_rfl) (fun _ _ _ h => h) (Or.inl ⟨by rfl, ?_⟩) ?_ ?_
    · intro w'
      rw [← HFIT.out]
      go_simp
    rotate_left
    · simp only [Act.put, List.setIfInBounds_toArray, List.set_cons_zero, List.set_cons_succ]
      rfl
    refine last_ (i := 6) (N := none) #[true, true, true, true, true, true, true] rfl rfl (by kernel_rfl) (by decide) (fun K hK => ?_)
    have f5 := A5.frozen 0
    refine skip_ (w1 := w5.setCell ⟨g, 0, none⟩ (.string (fitS key))) rfl rfl (by simp [execOp, Act.eval, store_str w5 g q (fitS key) A5]) ?_
    have A6 := A5.set_ 0 (.string (fitS key))
    have B6 := ((Mem.below_drew B).trans (hb5.mono hzw)).setCell (p := ⟨g, 0, none⟩) (Nat.le_refl g) (.string (fitS key))
    clear c5 f5 hb5 A B A5
    generalize w5.setCell ⟨g, 0, none⟩ (.string (fitS key)) = w6 at *
    have c6 := A6.cell 0
    refine hK.out _ _ ?_
    refine done_ (by kernel_rfl) ?_
    clear hK K HREP HA hHeld
    go_wp2_with fail
    refine (HW1.out _ c6).mono ?_
    rintro e w7 ⟨rfl, hb7⟩
    have A7 := A6.below hb7 A6.lt
    have c7 := A7.cell 0
    have hz6 := B6.size
    have B7 := B6.trans (hb7.mono (by rw [hg] at hz6; exact hz6))
    have hz7 := B7.size
    clear c6 A6 B6 hb7
    go_wp2_with fail
    refine (HW2.out _ c7).mono ?_
    rintro e w8 ⟨rfl, hb8⟩
    have B8 := B7.trans (hb8.mono (by rw [hg] at hz7; exact hz7))
    clear c7 A7 B7 hb8 HW1 HW2
    go_wp2
    go_ret2
    exact ⟨rfl, B8⟩
end Go.Proofs.Ytolbhliepkcihaa.Mac
