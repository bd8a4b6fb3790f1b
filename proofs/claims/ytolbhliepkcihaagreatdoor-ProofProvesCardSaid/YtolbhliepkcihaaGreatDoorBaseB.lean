/- Joined by a program of this session (wip/pack.py) for this claim: QRx3, QRx4, ShaRef, ShaRound, ShaWords, ShaMix. -/
import Derived.Test.YtolbhliepkcihaaGreatDoorBaseA
import Derived.Deep.QuietTactic
import Derived.BigQuiet
import Derived.RegionTactic
import Derived.Outline
import Derived.StillTailTactics
import Derived.LoopTactic
import Derived.Lib.Hide
section
namespace Go.Proofs.YtolbhliepkcihaaGreatDoor.QR
open Go.RowKit YtolbhliepkcihaaGreatDoorW.PrintWords YtolbhliepkcihaaGreatDoorW.PrintLast YtolbhliepkcihaaGreatDoorW.PrintMore
attribute [local go_sem] max2_int min2_int max_two min_two max_three min_three max_four min_four   -- for this text's walks alone
set_option linter.unusedVariables false
set_option linter.unusedSimpArgs false
/-! ### saltusref03_round: function 85 -/
def saltusref03_round.f (l0 : List Int) (a1 : Int) (a2 : Int) : Option (List Int) := if 4 < (l0.length : Int) then ((saltusref03_ror.f (rd l0 4) 6).bind fun t140 => ((saltusref03_ror.f (rd l0 4) 11).bind fun t142 => ((saltusref03_ror.f (rd l0 4) 25).bind fun t144 => (if 5 < (l0.length : Int) then (if 6 < (l0.length : Int) then (if 7 < (l0.length : Int) then (if 0 < (l0.length : Int) then ((saltusref03_ror.f (rd l0 0) 2).bind fun t151 => ((saltusref03_ror.f (rd l0 0) 13).bind fun t153 => ((saltusref03_ror.f (rd l0 0) 22).bind fun t155 => (if 1 < (l0.length : Int) then (if 2 < (l0.length : Int) then (if 3 < (l0.length : Int) then (some (([((((((((((rd l0 7) + (Go.bits .xor .u32 (Go.bits .xor .u32 t140 t142) t144)) % 4294967296) + (Go.bits .xor .u32 (Go.bits .and .u32 (rd l0 4) (rd l0 5)) (Go.bits .and .u32 ((4294967295 - (rd l0 4)) % 4294967296) (rd l0 6)))) % 4294967296) + a1) % 4294967296) + a2) % 4294967296) + (((Go.bits .xor .u32 (Go.bits .xor .u32 t151 t153) t155) + (Go.bits .xor .u32 (Go.bits .xor .u32 (Go.bits .and .u32 (rd l0 0) (rd l0 1)) (Go.bits .and .u32 (rd l0 0) (rd l0 2))) (Go.bits .and .u32 (rd l0 1) (rd l0 2)))) % 4294967296)) % 4294967296, rd l0 0, rd l0 1, rd l0 2, ((rd l0 3) + (((((((((rd l0 7) + (Go.bits .xor .u32 (Go.bits .xor .u32 t140 t142) t144)) % 4294967296) + (Go.bits .xor .u32 (Go.bits .and .u32 (rd l0 4) (rd l0 5)) (Go.bits .and .u32 ((4294967295 - (rd l0 4)) % 4294967296) (rd l0 6)))) % 4294967296) + a1) % 4294967296) + a2) % 4294967296)) % 4294967296, rd l0 4, rd l0 5, rd l0 6] : List Int))) else (none)) else (none)) else (none))))) else (none)) else (none)) else (none)) else (none))))) else (none)
def saltusref03_round.T1 : Bool × List (List Nat × List Nat) := (true, [([], []), ([0], [0]), ([1], [1]), ([2], [2]), ([], []), ([4], [4]), ([5], [5]), ([6, 3], [6]), ([3, 7], [3, 7]), ([], []), ([9], [9]), ([10], [10]), ([11, 7], [11]), ([8, 12], [8, 12]), ([13, 12, 0, 1, 2, 3, 4, 5, 6, 7, 8, 9, 10, 11, 12, 13], [13])])
def saltusref03_round.B1 : List Nat := [0, 1, 3, 7, 0, 16, 48, 127, 255, 0, 512, 1536, 3839, 8191, 16383]
theorem saltusref03_round.tab1 : rtab .any (opsOf Tryz.f85 1) = saltusref03_round.T1 := by kernel_rfl
theorem saltusref03_round.bits1 : waitsOk saltusref03_round.T1.2 saltusref03_round.B1 = true := by kernel_rfl
def saltusref03_round.T2 : Bool × List (List Nat × List Nat) := (true, [([], []), ([0], [0]), ([1], [1]), ([], []), ([3], [3]), ([4], [4]), ([2, 5], [2, 5]), ([], []), ([7], [7]), ([8], [8]), ([9], [9]), ([], []), ([11], [11]), ([12], [12]), ([10, 13], [10, 13]), ([6, 14], [6, 14]), ([15, 0, 1, 2, 3, 4, 5, 6, 7, 8, 9, 10, 11, 12, 13, 14, 15], [15])])
def saltusref03_round.B2 : List Nat := [0, 1, 3, 0, 8, 24, 63, 0, 128, 384, 896, 0, 2048, 6144, 16256, 32767, 65535]
theorem saltusref03_round.tab2 : rtab .any (opsOf Tryz.f85 2) = saltusref03_round.T2 := by kernel_rfl
theorem saltusref03_round.bits2 : waitsOk saltusref03_round.T2.2 saltusref03_round.B2 = true := by kernel_rfl
def saltusref03_round.T4 : Bool × List (List Nat × List Nat) := (true, [([], []), ([0], [0]), ([1], [1]), ([2], [2]), ([], []), ([4], [4]), ([5], [5]), ([6, 3], [6]), ([3, 7], [3, 7]), ([], []), ([9], [9]), ([10], [10]), ([11, 7], [11]), ([8, 12], [8, 12]), ([], []), ([14], [14]), ([15], [15]), ([], []), ([17], [17]), ([18], [18]), ([16, 19], [16, 19]), ([], []), ([21], [21]), ([22], [22]), ([], []), ([24], [24]), ([25], [25]), ([23, 26], [23, 26]), ([20, 27], [20, 27]), ([], []), ([29], [29]), ([30], [30]), ([], []), ([32], [32]), ([33], [33]), ([31, 34], [31, 34]), ([28, 35], [28, 35]), ([13, 36], [13, 36]), ([37, 12, 0, 1, 2, 3, 4, 5, 6, 7, 8, 9, 10, 11, 12, 13, 14, 15, 16, 17, 18, 19, 20, 21, 22, 23, 24, 25, 26, 27, 28, 29, 30, 31, 32, 33, 34, 35, 36, 37], [37])])
def saltusref03_round.B4 : List Nat := [0, 1, 3, 7, 0, 16, 48, 127, 255, 0, 512, 1536, 3839, 8191, 0, 16384, 49152, 0, 131072, 393216, 1032192, 0, 2097152, 6291456, 0, 16777216, 50331648, 132120576, 268419072, 0, 536870912, 1610612736, 0, 4294967296, 12884901888, 33822867456, 68719460352, 137438953471, 274877906943]
theorem saltusref03_round.tab4 : rtab .any (opsOf Tryz.f85 4) = saltusref03_round.T4 := by kernel_rfl
theorem saltusref03_round.bits4 : waitsOk saltusref03_round.T4.2 saltusref03_round.B4 = true := by kernel_rfl
def saltusref03_round.T5 : Bool × List (List Nat × List Nat) := (true, [([], []), ([], []), ([0, 1], [0, 1]), ([], []), ([3], [3]), ([4], [4]), ([], []), ([6], [6]), ([7], [7]), ([], []), ([9], [9]), ([10], [10]), ([], []), ([12], [12]), ([13], [13]), ([], []), ([14, 15], [14, 15]), ([], []), ([17], [17]), ([18], [18]), ([], []), ([20], [20]), ([21], [21]), ([], []), ([23], [23]), ([24], [24]), ([2, 5, 8, 11, 16, 19, 22, 25], [2, 5, 8, 11, 16, 19, 22, 25]), ([26, 0, 1, 2, 3, 4, 5, 6, 7, 8, 9, 10, 11, 12, 13, 14, 15, 16, 17, 18, 19, 20, 21, 22, 23, 24, 25, 26], [26])])
def saltusref03_round.B5 : List Nat := [0, 0, 3, 0, 8, 24, 0, 64, 192, 0, 512, 1536, 0, 4096, 12288, 0, 61440, 0, 131072, 393216, 0, 1048576, 3145728, 0, 8388608, 25165824, 67108863, 134217727]
theorem saltusref03_round.tab5 : rtab .any (opsOf Tryz.f85 5) = saltusref03_round.T5 := by kernel_rfl
theorem saltusref03_round.bits5 : waitsOk saltusref03_round.T5.2 saltusref03_round.B5 = true := by kernel_rfl
set_option maxHeartbeats 8000000 in
set_option maxRecDepth 100000 in
theorem saltusref03_round.calls (A0 : Option Addr) (c0 : Nat) (l0 : List Int) (a1 : Int) (a2 : Int) (r : List Int) (w : World) (hr0 : Kd.C (Kd.int .u32) w A0 l0.length l0) (hc0 : l0.length ≤ c0) (h : saltusref03_round.f l0 a1 a2 = some r) :
  Calls Tryz.prog 85 #[.slice A0 l0.length c0, .int .u32 a1, .int .u32 a2] w fun e w' => ∃ v0_ : Value, e = .returned (v0_) ∧ Kd.R (Kd.int .u32) 89 w' w.heap.size (fun _ => True) v0_ r ∧ Below w.heap.size w w' := by
 have HR0 := qf hr0; have HC0 := qf hc0; clear hr0 hc0; have HB := qf (Below.refl w.heap.size w); have H : (if 4 < (l0.length : Int) then ((saltusref03_ror.f (rd l0 4) 6).bind fun t140 => ((saltusref03_ror.f (rd l0 4) 11).bind fun t142 => ((saltusref03_ror.f (rd l0 4) 25).bind fun t144 => (if 5 < (l0.length : Int) then (if 6 < (l0.length : Int) then (if 7 < (l0.length : Int) then (if 0 < (l0.length : Int) then ((saltusref03_ror.f (rd l0 0) 2).bind fun t151 => ((saltusref03_ror.f (rd l0 0) 13).bind fun t153 => ((saltusref03_ror.f (rd l0 0) 22).bind fun t155 => (if 1 < (l0.length : Int) then (if 2 < (l0.length : Int) then (if 3 < (l0.length : Int) then (some (([((((((((((rd l0 7) + (Go.bits .xor .u32 (Go.bits .xor .u32 t140 t142) t144)) % 4294967296) + (Go.bits .xor .u32 (Go.bits .and .u32 (rd l0 4) (rd l0 5)) (Go.bits .and .u32 ((4294967295 - (rd l0 4)) % 4294967296) (rd l0 6)))) % 4294967296) + a1) % 4294967296) + a2) % 4294967296) + (((Go.bits .xor .u32 (Go.bits .xor .u32 t151 t153) t155) + (Go.bits .xor .u32 (Go.bits .xor .u32 (Go.bits .and .u32 (rd l0 0) (rd l0 1)) (Go.bits .and .u32 (rd l0 0) (rd l0 2))) (Go.bits .and .u32 (rd l0 1) (rd l0 2)))) % 4294967296)) % 4294967296, rd l0 0, rd l0 1, rd l0 2, ((rd l0 3) + (((((((((rd l0 7) + (Go.bits .xor .u32 (Go.bits .xor .u32 t140 t142) t144)) % 4294967296) + (Go.bits .xor .u32 (Go.bits .and .u32 (rd l0 4) (rd l0 5)) (Go.bits .and .u32 ((4294967295 - (rd l0 4)) % 4294967296) (rd l0 6)))) % 4294967296) + a1) % 4294967296) + a2) % 4294967296)) % 4294967296, rd l0 4, rd l0 5, rd l0 6] : List Int))) else (none)) else (none)) else (none))))) else (none)) else (none)) else (none)) else (none))))) else (none)) = some r := h; clear h
 by_cases c4 : 4 < (l0.length : Int)
 ·rw [if_pos c4] at H; have c4b0 := qj c4; have c4b1 : decide (4 < l0.length) = true := qj (by omega); clear c4; replace H := qi H; obtain ⟨t140, A50, H⟩ := H
  (try dsimp only at H)
  have A5 := qf A50; clear A50; replace H := qi H; obtain ⟨t142, A60, H⟩ := H
  (try dsimp only at H)
  have A6 := qf A60; clear A60; replace H := qi H; obtain ⟨t144, A70, H⟩ := H
  (try dsimp only at H)
  have A7 := qf A70; clear A70
  by_cases c8 : 5 < (l0.length : Int)
  ·rw [if_pos c8] at H; have c8b0 := qj c8; have c8b1 : decide (5 < l0.length) = true := qj (by omega); clear c8
   by_cases c9 : 6 < (l0.length : Int)
   ·rw [if_pos c9] at H; have c9b0 := qj c9; have c9b1 : decide (6 < l0.length) = true := qj (by omega); clear c9
    by_cases c10 : 7 < (l0.length : Int)
    ·rw [if_pos c10] at H; have c10b0 := qj c10; have c10b1 : decide (7 < l0.length) = true := qj (by omega); clear c10
     by_cases c11 : 0 < (l0.length : Int)
     ·rw [if_pos c11] at H; have c11b0 := qj c11; have c11b1 : decide (0 < l0.length) = true := qj (by omega); clear c11; replace H := qi H; obtain ⟨t151, A120, H⟩ := H
      (try dsimp only at H)
      have A12 := qf A120; clear A120; replace H := qi H; obtain ⟨t153, A130, H⟩ := H
      (try dsimp only at H)
      have A13 := qf A130; clear A130; replace H := qi H; obtain ⟨t155, A140, H⟩ := H
      (try dsimp only at H)
      have A14 := qf A140; clear A140
      by_cases c15 : 1 < (l0.length : Int)
      ·rw [if_pos c15] at H; have c15b0 := qj c15; have c15b1 : decide (1 < l0.length) = true := qj (by omega); clear c15
       by_cases c16 : 2 < (l0.length : Int)
       ·rw [if_pos c16] at H; have c16b0 := qj c16; have c16b1 : decide (2 < l0.length) = true := qj (by omega); clear c16
        by_cases c17 : 3 < (l0.length : Int)
        ·rw [if_pos c17] at H; have c17b0 := qj c17; have c17b1 : decide (3 < l0.length) = true := qj (by omega); clear c17
         obtain ⟨y169, hy169⟩ : ∃ y_ : List Int, y_ = (([((((((((((rd l0 7) + (Go.bits .xor .u32 (Go.bits .xor .u32 t140 t142) t144)) % 4294967296) + (Go.bits .xor .u32 (Go.bits .and .u32 (rd l0 4) (rd l0 5)) (Go.bits .and .u32 ((4294967295 - (rd l0 4)) % 4294967296) (rd l0 6)))) % 4294967296) + a1) % 4294967296) + a2) % 4294967296) + (((Go.bits .xor .u32 (Go.bits .xor .u32 t151 t153) t155) + (Go.bits .xor .u32 (Go.bits .xor .u32 (Go.bits .and .u32 (rd l0 0) (rd l0 1)) (Go.bits .and .u32 (rd l0 0) (rd l0 2))) (Go.bits .and .u32 (rd l0 1) (rd l0 2)))) % 4294967296)) % 4294967296, rd l0 0, rd l0 1, rd l0 2, ((rd l0 3) + (((((((((rd l0 7) + (Go.bits .xor .u32 (Go.bits .xor .u32 t140 t142) t144)) % 4294967296) + (Go.bits .xor .u32 (Go.bits .and .u32 (rd l0 4) (rd l0 5)) (Go.bits .and .u32 ((4294967295 - (rd l0 4)) % 4294967296) (rd l0 6)))) % 4294967296) + a1) % 4294967296) + a2) % 4294967296)) % 4294967296, rd l0 4, rd l0 5, rd l0 6] : List Int)) := ⟨_, rfl⟩
         replace H : (some y169) = some r := by first | (rw [hy169]; with_reducible exact H) | (have H2_ := (qv _ _).symm.trans H; rw [hy169]; with_reducible exact H2_) | (have H2_ := (qv _ _).symm.trans H; with_reducible exact H2_) | with_reducible exact H | (rw [hy169]; exact H) | exact H
         have Ny169 := qf hy169; clear hy169; obtain rfl := Option.some.inj H
         go_enter Tryz.func85, Tryz.ntmps85
         try go_wp2
         have n0_ := qf (qc HB.out); clear HB; have HB := n0_; clear n0_; have p139 : 0 ≤ (4 : Int) := (by omega); have q139 : 4 < (l0.length : Int) := qe (by with_reducible assumption); obtain ⟨ad139, e139, hx139_0⟩ := Kd.at_int HR0.out 4 p139 q139; have hw139_0 := hx139_0
         (try rw [show ((4 : Int)).toNat = 4 from rfl] at hw139_0)
         (try rw [show 4 * 1 = 4 from rfl] at hw139_0)
         (try simp only [Nat.reduceMul, Nat.reduceEqDiff, Go.Addr.add, ↓reduceIte] at hw139_0)
         cases e139
         (try simp only [show (4 : Int).toNat = 4 from rfl, Nat.reduceMul, Nat.reduceEqDiff, Go.Addr.add, ↓reduceIte] at hx139_0)
         have qi139 : (4 < l0.length) = True := eq_true (by omega)
         (try rw [show ((4 : Int)).toNat = 4 from rfl] at hx139_0)
         replace hx139_0 := (HB.out.cell (qd w _ hx139_0)).trans hx139_0; replace p139 := eq_true p139; replace q139 := eq_true q139; have p141 : 0 ≤ (4 : Int) := (by omega); have q141 : 4 < (l0.length : Int) := qe (by with_reducible assumption); obtain ⟨ad141, e141, hx141_0⟩ := Kd.at_int HR0.out 4 p141 q141; have hw141_0 := hx141_0
         (try rw [show ((4 : Int)).toNat = 4 from rfl] at hw141_0)
         (try rw [show 4 * 1 = 4 from rfl] at hw141_0)
         (try simp only [Nat.reduceMul, Nat.reduceEqDiff, Go.Addr.add, ↓reduceIte] at hw141_0)
         obtain rfl : ad139 = ad141 := (by injection e141)
         (try simp only [show (4 : Int).toNat = 4 from rfl, Nat.reduceMul, Nat.reduceEqDiff, Go.Addr.add, ↓reduceIte] at hx141_0)
         have qi141 : (4 < l0.length) = True := eq_true (by omega)
         (try rw [show ((4 : Int)).toNat = 4 from rfl] at hx141_0)
         replace hx141_0 := (HB.out.cell (qd w _ hx141_0)).trans hx141_0; replace p141 := eq_true p141; replace q141 := eq_true q141; have p143 : 0 ≤ (4 : Int) := (by omega); have q143 : 4 < (l0.length : Int) := qe (by with_reducible assumption); obtain ⟨ad143, e143, hx143_0⟩ := Kd.at_int HR0.out 4 p143 q143; have hw143_0 := hx143_0
         (try rw [show ((4 : Int)).toNat = 4 from rfl] at hw143_0)
         (try rw [show 4 * 1 = 4 from rfl] at hw143_0)
         (try simp only [Nat.reduceMul, Nat.reduceEqDiff, Go.Addr.add, ↓reduceIte] at hw143_0)
         obtain rfl : ad139 = ad143 := (by injection e143)
         (try simp only [show (4 : Int).toNat = 4 from rfl, Nat.reduceMul, Nat.reduceEqDiff, Go.Addr.add, ↓reduceIte] at hx143_0)
         have qi143 : (4 < l0.length) = True := eq_true (by omega)
         (try rw [show ((4 : Int)).toNat = 4 from rfl] at hx143_0)
         replace hx143_0 := (HB.out.cell (qd w _ hx143_0)).trans hx143_0; replace p143 := eq_true p143; replace q143 := eq_true q143; refine start_ (n := 15) (S := fun w' => w'.cell? ⟨ad139.block, ad139.off + 4, none⟩ = some (.int .u32 (rd l0 4)) ∧ w'.cell? ⟨ad139.block, ad139.off + 4, none⟩ = some (.int .u32 (rd l0 4)) ∧ w'.cell? ⟨ad139.block, ad139.off + 4, none⟩ = some (.int .u32 (rd l0 4))) (ds := []) (bm 15 0) (by kernel_rfl) rfl rfl ⟨((HB.out.cell (qd w _ hw139_0)).trans hw139_0), ((HB.out.cell (qd w _ hw141_0)).trans hw141_0), ((HB.out.cell (qd w _ hw143_0)).trans hw143_0)⟩ (fun hHeld => ?_); refine with_tabW saltusref03_round.tab1 saltusref03_round.bits1 (fun HT_ HW_ => ?_); generalize w.drew = w18 at HB hx139_0 hx141_0 hx143_0 hHeld ⊢; refine qz 0 11 ?_ (bm 15 1) rfl rfl HT_ (by kernel_rfl) (fun _ _ _ h => h) (by rfl) ?_ ?_ ?_ ?_; rotate_left; (intro w'; go_simp; with_reducible rfl); rotate_left; (simp only [Act.put, qs, qt, qu, i64_w, i32_w]; rfl); refine qz 1 12 ?_ (bm 15 3) rfl rfl HT_ (by kernel_rfl) (fun _ _ _ h => h) (by rfl) ?_ ?_ ?_ ?_; rotate_left; (intro w'; go_simp; with_reducible rfl); rotate_left; (simp only [Act.put, qs, qt, qu, i64_w, i32_w]; rfl); refine qz 4 15 ?_ (bm 15 19) rfl rfl HT_ (by kernel_rfl) (fun _ _ _ h => h) (by rfl) ?_ ?_ ?_ ?_; rotate_left; (intro w'; go_simp; with_reducible rfl); rotate_left; (simp only [Act.put, qs, qt, qu, i64_w, i32_w]; rfl); refine qz 5 16 ?_ (bm 15 51) rfl rfl HT_ (by kernel_rfl) (fun _ _ _ h => h) (by rfl) ?_ ?_ ?_ ?_; rotate_left; (intro w'; go_simp; with_reducible rfl); rotate_left; (simp only [Act.put, qs, qt, qu, i64_w, i32_w]; rfl); refine qz 9 20 ?_ (bm 15 563) rfl rfl HT_ (by kernel_rfl) (fun _ _ _ h => h) (by rfl) ?_ ?_ ?_ ?_; rotate_left; (intro w'; go_simp; with_reducible rfl); rotate_left; (simp only [Act.put, qs, qt, qu, i64_w, i32_w]; rfl); refine qz 10 21 ?_ (bm 15 1587) rfl rfl HT_ (by kernel_rfl) (fun _ _ _ h => h) (by rfl) ?_ ?_ ?_ ?_; rotate_left; (intro w'; go_simp; with_reducible rfl); rotate_left; (simp only [Act.put, qs, qt, qu, i64_w, i32_w]; rfl); refine take_ (i := 2) (N := some 13) (v := ?_) (a' := ?_) (bm 15 1591) rfl rfl (take_ofW HT_.out HW_.out (by kernel_rfl)) (fun _ _ _ h => h) (Or.inl ⟨by rfl, ?_⟩) hHeld ?_ ?_; rotate_left
         ·rintro w' ⟨s0, s1, s2⟩
          go_simp; with_reducible rfl
         rotate_left; (simp only [Act.put, qs, qt, qu, i64_w, i32_w]; rfl); refine take_ (i := 6) (N := some 17) (v := ?_) (a' := ?_) (bm 15 1655) rfl rfl (take_ofW HT_.out HW_.out (by kernel_rfl)) (fun _ _ _ h => h) (Or.inl ⟨by rfl, ?_⟩) hHeld ?_ ?_; rotate_left
         ·rintro w' ⟨s0, s1, s2⟩
          go_simp; with_reducible rfl
         rotate_left; (simp only [Act.put, qs, qt, qu, i64_w, i32_w]; rfl); refine take_ (i := 11) (N := some 22) (v := ?_) (a' := ?_) (bm 15 3703) rfl rfl (take_ofW HT_.out HW_.out (by kernel_rfl)) (fun _ _ _ h => h) (Or.inl ⟨by rfl, ?_⟩) hHeld ?_ ?_; rotate_left
         ·rintro w' ⟨s0, s1, s2⟩
          go_simp; with_reducible rfl
         rotate_left; (simp only [Act.put, qs, qt, qu, i64_w, i32_w]; rfl); refine one_ (i := 3) (N := some 14) (bm 15 3711) rfl rfl (one_of HT_.out (by kernel_rfl)) (by decide) (fun K hK => ?_); refine goes_ Tryz.func102 (by kernel_rfl) rfl #[.int .u32 (rd l0 4), .int .u32 6] (by rfl) rfl rfl (by (try simp only [List.map_toArray, List.map_cons, List.map_nil]); first | done | rfl | (simp only [List.length_drop, qw]; rfl)) ?_
         with_reducible refine (saltusref03_ror.calls (rd l0 4) 6 t140 _ A5.out).mono ?_
         rintro e w' ⟨rfl, ⟨nd, rfl⟩⟩
         refine ⟨_, rfl, ?_⟩; refine hK.out _ _ ⟨((HB.out.cell (qd w _ hw139_0)).trans hw139_0), ((HB.out.cell (qd w _ hw141_0)).trans hw141_0), ((HB.out.cell (qd w _ hw143_0)).trans hw143_0)⟩ (fun hHeld => ?_); clear hK K; refine norm_ (a' := ?_) ?_ ?_; rotate_left
         ·show Act.put _ (some 14) _ = _
          simp only [Act.put, qs, qt, qu, i64_w, i32_w]; rfl
         refine one_ (i := 7) (N := some 18) (bm 15 3839) rfl rfl (one_of HT_.out (by kernel_rfl)) (by decide) (fun K hK => ?_); refine goes_ Tryz.func102 (by kernel_rfl) rfl #[.int .u32 (rd l0 4), .int .u32 11] (by rfl) rfl rfl (by (try simp only [List.map_toArray, List.map_cons, List.map_nil]); first | done | rfl | (simp only [List.length_drop, qw]; rfl)) ?_
         with_reducible refine (saltusref03_ror.calls (rd l0 4) 11 t142 _ A6.out).mono ?_
         rintro e w' ⟨rfl, ⟨nd, rfl⟩⟩
         refine ⟨_, rfl, ?_⟩; refine hK.out _ _ ⟨((HB.out.cell (qd w _ hw139_0)).trans hw139_0), ((HB.out.cell (qd w _ hw141_0)).trans hw141_0), ((HB.out.cell (qd w _ hw143_0)).trans hw143_0)⟩ (fun hHeld => ?_); clear hK K; refine norm_ (a' := ?_) ?_ ?_; rotate_left
         ·show Act.put _ (some 18) _ = _
          simp only [Act.put, qs, qt, qu, i64_w, i32_w]; rfl
         refine qz 8 19 ?_ (bm 15 4095) rfl rfl HT_ (by kernel_rfl) (fun _ _ _ h => h) (by rfl) ?_ ?_ ?_ ?_; rotate_left; (intro w'; go_simp; with_reducible rfl); rotate_left; (simp only [Act.put, qs, qt, qu, i64_w, i32_w]; rfl); refine one_ (i := 12) (N := some 23) (bm 15 8191) rfl rfl (one_of HT_.out (by kernel_rfl)) (by decide) (fun K hK => ?_); refine goes_ Tryz.func102 (by kernel_rfl) rfl #[.int .u32 (rd l0 4), .int .u32 25] (by rfl) rfl rfl (by (try simp only [List.map_toArray, List.map_cons, List.map_nil]); first | done | rfl | (simp only [List.length_drop, qw]; rfl)) ?_
         with_reducible refine (saltusref03_ror.calls (rd l0 4) 25 t144 _ A7.out).mono ?_
         rintro e w' ⟨rfl, ⟨nd, rfl⟩⟩
         refine ⟨_, rfl, ?_⟩; refine hK.out _ _ ⟨((HB.out.cell (qd w _ hw139_0)).trans hw139_0), ((HB.out.cell (qd w _ hw141_0)).trans hw141_0), ((HB.out.cell (qd w _ hw143_0)).trans hw143_0)⟩ (fun hHeld => ?_); clear hK K; refine norm_ (a' := ?_) ?_ ?_; rotate_left
         ·show Act.put _ (some 23) _ = _
          simp only [Act.put, qs, qt, qu, i64_w, i32_w]; rfl
         refine qz 13 24 ?_ (bm 15 16383) rfl rfl HT_ (by kernel_rfl) (fun _ _ _ h => h) (by rfl) ?_ ?_ ?_ ?_; rotate_left; (intro w'; go_simp; with_reducible rfl); rotate_left; (simp only [Act.put, qs, qt, qu, i64_w, i32_w]; rfl); refine qz 14 7 ?_ (bm 15 32767) rfl rfl HT_ (by kernel_rfl) (fun _ _ _ h => h) (by rfl) ?_ ?_ ?_ ?_; rotate_left; (intro w'; go_simp; with_reducible rfl); rotate_left; (simp only [Act.put, qs, qt, qu, i64_w, i32_w]; rfl); refine done_ (done_of HT_.out (by kernel_rfl)) ?_
         try go_wp2
         (try (rw [drewN_self w18]; generalize hq_ : World.drewN w18 _ = w18; have n0_ : Aside0 (Below w.heap.size w w18) := ⟨by rw [← hq_]; exact (by repeat (first | (with_reducible first | exact HB.out | apply qa | apply qb | apply qc) | exact HB.out))⟩; clear HB hq_; have HB := n0_; clear n0_))
         have n0_ := qf (qc HB.out); clear HB; have HB := n0_; clear n0_; have p145 : 0 ≤ (4 : Int) := (by omega); have q145 : 4 < (l0.length : Int) := qe (by with_reducible assumption); obtain ⟨ad145, e145, hx145_0⟩ := Kd.at_int HR0.out 4 p145 q145; have hw145_0 := hx145_0
         (try rw [show ((4 : Int)).toNat = 4 from rfl] at hw145_0)
         (try rw [show 4 * 1 = 4 from rfl] at hw145_0)
         (try simp only [Nat.reduceMul, Nat.reduceEqDiff, Go.Addr.add, ↓reduceIte] at hw145_0)
         obtain rfl : ad139 = ad145 := (by injection e145)
         (try simp only [show (4 : Int).toNat = 4 from rfl, Nat.reduceMul, Nat.reduceEqDiff, Go.Addr.add, ↓reduceIte] at hx145_0)
         have qi145 : (4 < l0.length) = True := eq_true (by omega)
         (try rw [show ((4 : Int)).toNat = 4 from rfl] at hx145_0)
         replace hx145_0 := (HB.out.cell (qd w _ hx145_0)).trans hx145_0; replace p145 := eq_true p145; replace q145 := eq_true q145; have p146 : 0 ≤ (5 : Int) := (by omega); have q146 : 5 < (l0.length : Int) := qe (by with_reducible assumption); obtain ⟨ad146, e146, hx146_0⟩ := Kd.at_int HR0.out 5 p146 q146; have hw146_0 := hx146_0
         (try rw [show ((5 : Int)).toNat = 5 from rfl] at hw146_0)
         (try rw [show 5 * 1 = 5 from rfl] at hw146_0)
         (try simp only [Nat.reduceMul, Nat.reduceEqDiff, Go.Addr.add, ↓reduceIte] at hw146_0)
         obtain rfl : ad139 = ad146 := (by injection e146)
         (try simp only [show (5 : Int).toNat = 5 from rfl, Nat.reduceMul, Nat.reduceEqDiff, Go.Addr.add, ↓reduceIte] at hx146_0)
         have qi146 : (5 < l0.length) = True := eq_true (by omega)
         (try rw [show ((5 : Int)).toNat = 5 from rfl] at hx146_0)
         replace hx146_0 := (HB.out.cell (qd w _ hx146_0)).trans hx146_0; replace p146 := eq_true p146; replace q146 := eq_true q146; have p147 : 0 ≤ (4 : Int) := (by omega); have q147 : 4 < (l0.length : Int) := qe (by with_reducible assumption); obtain ⟨ad147, e147, hx147_0⟩ := Kd.at_int HR0.out 4 p147 q147; have hw147_0 := hx147_0
         (try rw [show ((4 : Int)).toNat = 4 from rfl] at hw147_0)
         (try rw [show 4 * 1 = 4 from rfl] at hw147_0)
         (try simp only [Nat.reduceMul, Nat.reduceEqDiff, Go.Addr.add, ↓reduceIte] at hw147_0)
         obtain rfl : ad139 = ad147 := (by injection e147)
         (try simp only [show (4 : Int).toNat = 4 from rfl, Nat.reduceMul, Nat.reduceEqDiff, Go.Addr.add, ↓reduceIte] at hx147_0)
         have qi147 : (4 < l0.length) = True := eq_true (by omega)
         (try rw [show ((4 : Int)).toNat = 4 from rfl] at hx147_0)
         replace hx147_0 := (HB.out.cell (qd w _ hx147_0)).trans hx147_0; replace p147 := eq_true p147; replace q147 := eq_true q147; have p148 : 0 ≤ (6 : Int) := (by omega); have q148 : 6 < (l0.length : Int) := qe (by with_reducible assumption); obtain ⟨ad148, e148, hx148_0⟩ := Kd.at_int HR0.out 6 p148 q148; have hw148_0 := hx148_0
         (try rw [show ((6 : Int)).toNat = 6 from rfl] at hw148_0)
         (try rw [show 6 * 1 = 6 from rfl] at hw148_0)
         (try simp only [Nat.reduceMul, Nat.reduceEqDiff, Go.Addr.add, ↓reduceIte] at hw148_0)
         obtain rfl : ad139 = ad148 := (by injection e148)
         (try simp only [show (6 : Int).toNat = 6 from rfl, Nat.reduceMul, Nat.reduceEqDiff, Go.Addr.add, ↓reduceIte] at hx148_0)
         have qi148 : (6 < l0.length) = True := eq_true (by omega)
         (try rw [show ((6 : Int)).toNat = 6 from rfl] at hx148_0)
         replace hx148_0 := (HB.out.cell (qd w _ hx148_0)).trans hx148_0; replace p148 := eq_true p148; replace q148 := eq_true q148; refine start_ (n := 17) (S := fun w' => w'.cell? ⟨ad139.block, ad139.off + 4, none⟩ = some (.int .u32 (rd l0 4)) ∧ w'.cell? ⟨ad139.block, ad139.off + 5, none⟩ = some (.int .u32 (rd l0 5)) ∧ w'.cell? ⟨ad139.block, ad139.off + 4, none⟩ = some (.int .u32 (rd l0 4)) ∧ w'.cell? ⟨ad139.block, ad139.off + 6, none⟩ = some (.int .u32 (rd l0 6))) (ds := []) (bm 17 0) (by kernel_rfl) rfl rfl ⟨((HB.out.cell (qd w _ hw145_0)).trans hw145_0), ((HB.out.cell (qd w _ hw146_0)).trans hw146_0), ((HB.out.cell (qd w _ hw147_0)).trans hw147_0), ((HB.out.cell (qd w _ hw148_0)).trans hw148_0)⟩ (fun hHeld => ?_); refine with_tabW saltusref03_round.tab2 saltusref03_round.bits2 (fun HT_ HW_ => ?_); generalize w18.drew = w19 at HB hx145_0 hx146_0 hx147_0 hx148_0 hHeld ⊢; refine qz 0 25 ?_ (bm 17 1) rfl rfl HT_ (by kernel_rfl) (fun _ _ _ h => h) (by rfl) ?_ ?_ ?_ ?_; rotate_left; (intro w'; go_simp; with_reducible rfl); rotate_left; (simp only [Act.put, qs, qt, qu, i64_w, i32_w]; rfl); refine qz 1 26 ?_ (bm 17 3) rfl rfl HT_ (by kernel_rfl) (fun _ _ _ h => h) (by rfl) ?_ ?_ ?_ ?_; rotate_left; (intro w'; go_simp; with_reducible rfl); rotate_left; (simp only [Act.put, qs, qt, qu, i64_w, i32_w]; rfl); refine qz 3 28 ?_ (bm 17 11) rfl rfl HT_ (by kernel_rfl) (fun _ _ _ h => h) (by rfl) ?_ ?_ ?_ ?_; rotate_left; (intro w'; go_simp; with_reducible rfl); rotate_left; (simp only [Act.put, qs, qt, qu, i64_w, i32_w]; rfl); refine qz 4 29 ?_ (bm 17 27) rfl rfl HT_ (by kernel_rfl) (fun _ _ _ h => h) (by rfl) ?_ ?_ ?_ ?_; rotate_left; (intro w'; go_simp; with_reducible rfl); rotate_left; (simp only [Act.put, qs, qt, qu, i64_w, i32_w]; rfl); refine qz 7 32 ?_ (bm 17 155) rfl rfl HT_ (by kernel_rfl) (fun _ _ _ h => h) (by rfl) ?_ ?_ ?_ ?_; rotate_left; (intro w'; go_simp; with_reducible rfl); rotate_left; (simp only [Act.put, qs, qt, qu, i64_w, i32_w]; rfl); refine qz 8 33 ?_ (bm 17 411) rfl rfl HT_ (by kernel_rfl) (fun _ _ _ h => h) (by rfl) ?_ ?_ ?_ ?_; rotate_left; (intro w'; go_simp; with_reducible rfl); rotate_left; (simp only [Act.put, qs, qt, qu, i64_w, i32_w]; rfl); refine qz 11 36 ?_ (bm 17 2459) rfl rfl HT_ (by kernel_rfl) (fun _ _ _ h => h) (by rfl) ?_ ?_ ?_ ?_; rotate_left; (intro w'; go_simp; with_reducible rfl); rotate_left; (simp only [Act.put, qs, qt, qu, i64_w, i32_w]; rfl); refine qz 12 37 ?_ (bm 17 6555) rfl rfl HT_ (by kernel_rfl) (fun _ _ _ h => h) (by rfl) ?_ ?_ ?_ ?_; rotate_left; (intro w'; go_simp; with_reducible rfl); rotate_left; (simp only [Act.put, qs, qt, qu, i64_w, i32_w]; rfl); refine take_ (i := 2) (N := some 27) (v := ?_) (a' := ?_) (bm 17 6559) rfl rfl (take_ofW HT_.out HW_.out (by kernel_rfl)) (fun _ _ _ h => h) (Or.inl ⟨by rfl, ?_⟩) hHeld ?_ ?_; rotate_left
         ·rintro w' ⟨s0, s1, s2, s3⟩
          go_simp; with_reducible rfl
         rotate_left; (simp only [Act.put, qs, qt, qu, i64_w, i32_w]; rfl); refine take_ (i := 5) (N := some 30) (v := ?_) (a' := ?_) (bm 17 6591) rfl rfl (take_ofW HT_.out HW_.out (by kernel_rfl)) (fun _ _ _ h => h) (Or.inl ⟨by rfl, ?_⟩) hHeld ?_ ?_; rotate_left
         ·rintro w' ⟨s0, s1, s2, s3⟩
          go_simp; with_reducible rfl
         rotate_left; (simp only [Act.put, qs, qt, qu, i64_w, i32_w]; rfl); refine qz 6 31 ?_ (bm 17 6655) rfl rfl HT_ (by kernel_rfl) (fun _ _ _ h => h) (by rfl) ?_ ?_ ?_ ?_; rotate_left; (intro w'; go_simp; with_reducible rfl); rotate_left; (simp only [Act.put, qs, qt, qu, i64_w, i32_w]; rfl); refine take_ (i := 9) (N := some 34) (v := ?_) (a' := ?_) (bm 17 7167) rfl rfl (take_ofW HT_.out HW_.out (by kernel_rfl)) (fun _ _ _ h => h) (Or.inl ⟨by rfl, ?_⟩) hHeld ?_ ?_; rotate_left
         ·rintro w' ⟨s0, s1, s2, s3⟩
          go_simp; with_reducible rfl
         rotate_left; (simp only [Act.put, qs, qt, qu, i64_w, i32_w]; rfl); refine qz 10 35 ?_ (bm 17 8191) rfl rfl HT_ (by kernel_rfl) (fun _ _ _ h => h) (by rfl) ?_ ?_ ?_ ?_; rotate_left; (intro w'; go_simp; with_reducible rfl); rotate_left; (simp only [Act.put, qs, qt, qu, i64_w, i32_w]; rfl); refine take_ (i := 13) (N := some 38) (v := ?_) (a' := ?_) (bm 17 16383) rfl rfl (take_ofW HT_.out HW_.out (by kernel_rfl)) (fun _ _ _ h => h) (Or.inl ⟨by rfl, ?_⟩) hHeld ?_ ?_; rotate_left
         ·rintro w' ⟨s0, s1, s2, s3⟩
          go_simp; with_reducible rfl
         rotate_left; (simp only [Act.put, qs, qt, qu, i64_w, i32_w]; rfl); refine qz 14 39 ?_ (bm 17 32767) rfl rfl HT_ (by kernel_rfl) (fun _ _ _ h => h) (by rfl) ?_ ?_ ?_ ?_; rotate_left; (intro w'; go_simp; with_reducible rfl); rotate_left; (simp only [Act.put, qs, qt, qu, i64_w, i32_w]; rfl); refine qz 15 40 ?_ (bm 17 65535) rfl rfl HT_ (by kernel_rfl) (fun _ _ _ h => h) (by rfl) ?_ ?_ ?_ ?_; rotate_left; (intro w'; go_simp; with_reducible rfl); rotate_left; (simp only [Act.put, qs, qt, qu, i64_w, i32_w]; rfl); refine qz 16 8 ?_ (bm 17 131071) rfl rfl HT_ (by kernel_rfl) (fun _ _ _ h => h) (by rfl) ?_ ?_ ?_ ?_; rotate_left; (intro w'; go_simp; with_reducible rfl); rotate_left; (simp only [Act.put, qs, qt, qu, i64_w, i32_w]; rfl); refine done_ (done_of HT_.out (by kernel_rfl)) ?_; have p149 : 0 ≤ (7 : Int) := (by omega); have q149 : 7 < (l0.length : Int) := qe (by with_reducible assumption); obtain ⟨ad149, e149, hx149_0⟩ := Kd.at_int HR0.out 7 p149 q149; obtain rfl : ad139 = ad149 := (by injection e149)
         (try simp only [show (7 : Int).toNat = 7 from rfl, Nat.reduceMul, Nat.reduceEqDiff, Go.Addr.add, ↓reduceIte] at hx149_0)
         have qi149 : (7 < l0.length) = True := eq_true (by omega)
         (try rw [show ((7 : Int)).toNat = 7 from rfl] at hx149_0)
         replace hx149_0 := (HB.out.cell (qd w _ hx149_0)).trans hx149_0; replace p149 := eq_true p149; replace q149 := eq_true q149
         try go_wp2
         have n0_ := qf (qc HB.out); clear HB; have HB := n0_; clear n0_; have p150 : 0 ≤ (0 : Int) := (by omega); have q150 : 0 < (l0.length : Int) := qe (by with_reducible assumption); obtain ⟨ad150, e150, hx150_0⟩ := Kd.at_int HR0.out 0 p150 q150; have hw150_0 := hx150_0
         (try rw [show ((0 : Int)).toNat = 0 from rfl] at hw150_0)
         (try rw [show 0 * 1 = 0 from rfl] at hw150_0)
         (try rw [Addr.add_zero'] at hw150_0)
         obtain rfl : ad139 = ad150 := (by injection e150); have qi150 : (0 < l0.length) = True := eq_true (by omega)
         (try rw [show ((0 : Int)).toNat = 0 from rfl] at hx150_0)
         (try rw [Addr.add_zero'] at hx150_0)
         replace hx150_0 := (HB.out.cell (qd w _ hx150_0)).trans hx150_0; replace p150 := eq_true p150; replace q150 := eq_true q150; have p152 : 0 ≤ (0 : Int) := (by omega); have q152 : 0 < (l0.length : Int) := qe (by with_reducible assumption); obtain ⟨ad152, e152, hx152_0⟩ := Kd.at_int HR0.out 0 p152 q152; have hw152_0 := hx152_0
         (try rw [show ((0 : Int)).toNat = 0 from rfl] at hw152_0)
         (try rw [show 0 * 1 = 0 from rfl] at hw152_0)
         (try rw [Addr.add_zero'] at hw152_0)
         obtain rfl : ad139 = ad152 := (by injection e152); have qi152 : (0 < l0.length) = True := eq_true (by omega)
         (try rw [show ((0 : Int)).toNat = 0 from rfl] at hx152_0)
         (try rw [Addr.add_zero'] at hx152_0)
         replace hx152_0 := (HB.out.cell (qd w _ hx152_0)).trans hx152_0; replace p152 := eq_true p152; replace q152 := eq_true q152; have p154 : 0 ≤ (0 : Int) := (by omega); have q154 : 0 < (l0.length : Int) := qe (by with_reducible assumption); obtain ⟨ad154, e154, hx154_0⟩ := Kd.at_int HR0.out 0 p154 q154; have hw154_0 := hx154_0
         (try rw [show ((0 : Int)).toNat = 0 from rfl] at hw154_0)
         (try rw [show 0 * 1 = 0 from rfl] at hw154_0)
         (try rw [Addr.add_zero'] at hw154_0)
         obtain rfl : ad139 = ad154 := (by injection e154); have qi154 : (0 < l0.length) = True := eq_true (by omega)
         (try rw [show ((0 : Int)).toNat = 0 from rfl] at hx154_0)
         (try rw [Addr.add_zero'] at hx154_0)
         replace hx154_0 := (HB.out.cell (qd w _ hx154_0)).trans hx154_0; replace p154 := eq_true p154; replace q154 := eq_true q154; have p156 : 0 ≤ (0 : Int) := (by omega); have q156 : 0 < (l0.length : Int) := qe (by with_reducible assumption); obtain ⟨ad156, e156, hx156_0⟩ := Kd.at_int HR0.out 0 p156 q156; have hw156_0 := hx156_0
         (try rw [show ((0 : Int)).toNat = 0 from rfl] at hw156_0)
         (try rw [show 0 * 1 = 0 from rfl] at hw156_0)
         (try rw [Addr.add_zero'] at hw156_0)
         obtain rfl : ad139 = ad156 := (by injection e156); have qi156 : (0 < l0.length) = True := eq_true (by omega)
         (try rw [show ((0 : Int)).toNat = 0 from rfl] at hx156_0)
         (try rw [Addr.add_zero'] at hx156_0)
         replace hx156_0 := (HB.out.cell (qd w _ hx156_0)).trans hx156_0; replace p156 := eq_true p156; replace q156 := eq_true q156; have p157 : 0 ≤ (1 : Int) := (by omega); have q157 : 1 < (l0.length : Int) := qe (by with_reducible assumption); obtain ⟨ad157, e157, hx157_0⟩ := Kd.at_int HR0.out 1 p157 q157; have hw157_0 := hx157_0
         (try rw [show ((1 : Int)).toNat = 1 from rfl] at hw157_0)
         (try rw [show 1 * 1 = 1 from rfl] at hw157_0)
         (try simp only [Nat.reduceMul, Nat.reduceEqDiff, Go.Addr.add, ↓reduceIte] at hw157_0)
         obtain rfl : ad139 = ad157 := (by injection e157)
         (try simp only [show (1 : Int).toNat = 1 from rfl, Nat.reduceMul, Nat.reduceEqDiff, Go.Addr.add, ↓reduceIte] at hx157_0)
         have qi157 : (1 < l0.length) = True := eq_true (by omega)
         (try rw [show ((1 : Int)).toNat = 1 from rfl] at hx157_0)
         replace hx157_0 := (HB.out.cell (qd w _ hx157_0)).trans hx157_0; replace p157 := eq_true p157; replace q157 := eq_true q157; have p158 : 0 ≤ (0 : Int) := (by omega); have q158 : 0 < (l0.length : Int) := qe (by with_reducible assumption); obtain ⟨ad158, e158, hx158_0⟩ := Kd.at_int HR0.out 0 p158 q158; have hw158_0 := hx158_0
         (try rw [show ((0 : Int)).toNat = 0 from rfl] at hw158_0)
         (try rw [show 0 * 1 = 0 from rfl] at hw158_0)
         (try rw [Addr.add_zero'] at hw158_0)
         obtain rfl : ad139 = ad158 := (by injection e158); have qi158 : (0 < l0.length) = True := eq_true (by omega)
         (try rw [show ((0 : Int)).toNat = 0 from rfl] at hx158_0)
         (try rw [Addr.add_zero'] at hx158_0)
         replace hx158_0 := (HB.out.cell (qd w _ hx158_0)).trans hx158_0; replace p158 := eq_true p158; replace q158 := eq_true q158; have p159 : 0 ≤ (2 : Int) := (by omega); have q159 : 2 < (l0.length : Int) := qe (by with_reducible assumption); obtain ⟨ad159, e159, hx159_0⟩ := Kd.at_int HR0.out 2 p159 q159; have hw159_0 := hx159_0
         (try rw [show ((2 : Int)).toNat = 2 from rfl] at hw159_0)
         (try rw [show 2 * 1 = 2 from rfl] at hw159_0)
         (try simp only [Nat.reduceMul, Nat.reduceEqDiff, Go.Addr.add, ↓reduceIte] at hw159_0)
         obtain rfl : ad139 = ad159 := (by injection e159)
         (try simp only [show (2 : Int).toNat = 2 from rfl, Nat.reduceMul, Nat.reduceEqDiff, Go.Addr.add, ↓reduceIte] at hx159_0)
         have qi159 : (2 < l0.length) = True := eq_true (by omega)
         (try rw [show ((2 : Int)).toNat = 2 from rfl] at hx159_0)
         replace hx159_0 := (HB.out.cell (qd w _ hx159_0)).trans hx159_0; replace p159 := eq_true p159; replace q159 := eq_true q159; have p160 : 0 ≤ (1 : Int) := (by omega); have q160 : 1 < (l0.length : Int) := qe (by with_reducible assumption); obtain ⟨ad160, e160, hx160_0⟩ := Kd.at_int HR0.out 1 p160 q160; have hw160_0 := hx160_0
         (try rw [show ((1 : Int)).toNat = 1 from rfl] at hw160_0)
         (try rw [show 1 * 1 = 1 from rfl] at hw160_0)
         (try simp only [Nat.reduceMul, Nat.reduceEqDiff, Go.Addr.add, ↓reduceIte] at hw160_0)
         obtain rfl : ad139 = ad160 := (by injection e160)
         (try simp only [show (1 : Int).toNat = 1 from rfl, Nat.reduceMul, Nat.reduceEqDiff, Go.Addr.add, ↓reduceIte] at hx160_0)
         have qi160 : (1 < l0.length) = True := eq_true (by omega)
         (try rw [show ((1 : Int)).toNat = 1 from rfl] at hx160_0)
         replace hx160_0 := (HB.out.cell (qd w _ hx160_0)).trans hx160_0; replace p160 := eq_true p160; replace q160 := eq_true q160; have p161 : 0 ≤ (2 : Int) := (by omega); have q161 : 2 < (l0.length : Int) := qe (by with_reducible assumption); obtain ⟨ad161, e161, hx161_0⟩ := Kd.at_int HR0.out 2 p161 q161; have hw161_0 := hx161_0
         (try rw [show ((2 : Int)).toNat = 2 from rfl] at hw161_0)
         (try rw [show 2 * 1 = 2 from rfl] at hw161_0)
         (try simp only [Nat.reduceMul, Nat.reduceEqDiff, Go.Addr.add, ↓reduceIte] at hw161_0)
         obtain rfl : ad139 = ad161 := (by injection e161)
         (try simp only [show (2 : Int).toNat = 2 from rfl, Nat.reduceMul, Nat.reduceEqDiff, Go.Addr.add, ↓reduceIte] at hx161_0)
         have qi161 : (2 < l0.length) = True := eq_true (by omega)
         (try rw [show ((2 : Int)).toNat = 2 from rfl] at hx161_0)
         replace hx161_0 := (HB.out.cell (qd w _ hx161_0)).trans hx161_0; replace p161 := eq_true p161; replace q161 := eq_true q161; refine start_ (n := 39) (S := fun w' => w'.cell? ad139 = some (.int .u32 (rd l0 0)) ∧ w'.cell? ad139 = some (.int .u32 (rd l0 0)) ∧ w'.cell? ad139 = some (.int .u32 (rd l0 0)) ∧ w'.cell? ad139 = some (.int .u32 (rd l0 0)) ∧ w'.cell? ⟨ad139.block, ad139.off + 1, none⟩ = some (.int .u32 (rd l0 1)) ∧ w'.cell? ad139 = some (.int .u32 (rd l0 0)) ∧ w'.cell? ⟨ad139.block, ad139.off + 2, none⟩ = some (.int .u32 (rd l0 2)) ∧ w'.cell? ⟨ad139.block, ad139.off + 1, none⟩ = some (.int .u32 (rd l0 1)) ∧ w'.cell? ⟨ad139.block, ad139.off + 2, none⟩ = some (.int .u32 (rd l0 2))) (ds := []) (bm 39 0) (by kernel_rfl) rfl rfl ⟨((HB.out.cell (qd w _ hw150_0)).trans hw150_0), ((HB.out.cell (qd w _ hw152_0)).trans hw152_0), ((HB.out.cell (qd w _ hw154_0)).trans hw154_0), ((HB.out.cell (qd w _ hw156_0)).trans hw156_0), ((HB.out.cell (qd w _ hw157_0)).trans hw157_0), ((HB.out.cell (qd w _ hw158_0)).trans hw158_0), ((HB.out.cell (qd w _ hw159_0)).trans hw159_0), ((HB.out.cell (qd w _ hw160_0)).trans hw160_0), ((HB.out.cell (qd w _ hw161_0)).trans hw161_0)⟩ (fun hHeld => ?_); refine with_tabW saltusref03_round.tab4 saltusref03_round.bits4 (fun HT_ HW_ => ?_); generalize w19.drew = w20 at HB hx150_0 hx152_0 hx154_0 hx156_0 hx157_0 hx158_0 hx159_0 hx160_0 hx161_0 hHeld ⊢; refine qz 0 52 ?_ (bm 39 1) rfl rfl HT_ (by kernel_rfl) (fun _ _ _ h => h) (by rfl) ?_ ?_ ?_ ?_; rotate_left; (intro w'; go_simp; with_reducible rfl); rotate_left; (simp only [Act.put, qs, qt, qu, i64_w, i32_w]; rfl); refine qz 1 53 ?_ (bm 39 3) rfl rfl HT_ (by kernel_rfl) (fun _ _ _ h => h) (by rfl) ?_ ?_ ?_ ?_; rotate_left; (intro w'; go_simp; with_reducible rfl); rotate_left; (simp only [Act.put, qs, qt, qu, i64_w, i32_w]; rfl); refine qz 4 56 ?_ (bm 39 19) rfl rfl HT_ (by kernel_rfl) (fun _ _ _ h => h) (by rfl) ?_ ?_ ?_ ?_; rotate_left; (intro w'; go_simp; with_reducible rfl); rotate_left; (simp only [Act.put, qs, qt, qu, i64_w, i32_w]; rfl); refine qz 5 57 ?_ (bm 39 51) rfl rfl HT_ (by kernel_rfl) (fun _ _ _ h => h) (by rfl) ?_ ?_ ?_ ?_; rotate_left; (intro w'; go_simp; with_reducible rfl); rotate_left; (simp only [Act.put, qs, qt, qu, i64_w, i32_w]; rfl); refine qz 9 61 ?_ (bm 39 563) rfl rfl HT_ (by kernel_rfl) (fun _ _ _ h => h) (by rfl) ?_ ?_ ?_ ?_; rotate_left; (intro w'; go_simp; with_reducible rfl); rotate_left; (simp only [Act.put, qs, qt, qu, i64_w, i32_w]; rfl); refine qz 10 62 ?_ (bm 39 1587) rfl rfl HT_ (by kernel_rfl) (fun _ _ _ h => h) (by rfl) ?_ ?_ ?_ ?_; rotate_left; (intro w'; go_simp; with_reducible rfl); rotate_left; (simp only [Act.put, qs, qt, qu, i64_w, i32_w]; rfl); refine qz 14 66 ?_ (bm 39 17971) rfl rfl HT_ (by kernel_rfl) (fun _ _ _ h => h) (by rfl) ?_ ?_ ?_ ?_; rotate_left; (intro w'; go_simp; with_reducible rfl); rotate_left; (simp only [Act.put, qs, qt, qu, i64_w, i32_w]; rfl)
         refine qz 15 67 ?_ (bm 39 50739) rfl rfl HT_ (by kernel_rfl) (fun _ _ _ h => h) (by rfl) ?_ ?_ ?_ ?_; rotate_left; (intro w'; go_simp; with_reducible rfl); rotate_left; (simp only [Act.put, qs, qt, qu, i64_w, i32_w]; rfl); refine qz 17 69 ?_ (bm 39 181811) rfl rfl HT_ (by kernel_rfl) (fun _ _ _ h => h) (by rfl) ?_ ?_ ?_ ?_; rotate_left; (intro w'; go_simp; with_reducible rfl); rotate_left; (simp only [Act.put, qs, qt, qu, i64_w, i32_w]; rfl); refine qz 18 70 ?_ (bm 39 443955) rfl rfl HT_ (by kernel_rfl) (fun _ _ _ h => h) (by rfl) ?_ ?_ ?_ ?_; rotate_left; (intro w'; go_simp; with_reducible rfl); rotate_left; (simp only [Act.put, qs, qt, qu, i64_w, i32_w]; rfl); refine qz 21 73 ?_ (bm 39 2541107) rfl rfl HT_ (by kernel_rfl) (fun _ _ _ h => h) (by rfl) ?_ ?_ ?_ ?_; rotate_left; (intro w'; go_simp; with_reducible rfl); rotate_left; (simp only [Act.put, qs, qt, qu, i64_w, i32_w]; rfl); refine qz 22 74 ?_ (bm 39 6735411) rfl rfl HT_ (by kernel_rfl) (fun _ _ _ h => h) (by rfl) ?_ ?_ ?_ ?_; rotate_left; (intro w'; go_simp; with_reducible rfl); rotate_left; (simp only [Act.put, qs, qt, qu, i64_w, i32_w]; rfl); refine qz 24 76 ?_ (bm 39 23512627) rfl rfl HT_ (by kernel_rfl) (fun _ _ _ h => h) (by rfl) ?_ ?_ ?_ ?_; rotate_left; (intro w'; go_simp; with_reducible rfl); rotate_left; (simp only [Act.put, qs, qt, qu, i64_w, i32_w]; rfl); refine qz 25 77 ?_ (bm 39 57067059) rfl rfl HT_ (by kernel_rfl) (fun _ _ _ h => h) (by rfl) ?_ ?_ ?_ ?_; rotate_left; (intro w'; go_simp; with_reducible rfl); rotate_left; (simp only [Act.put, qs, qt, qu, i64_w, i32_w]; rfl); refine qz 29 81 ?_ (bm 39 593937971) rfl rfl HT_ (by kernel_rfl) (fun _ _ _ h => h) (by rfl) ?_ ?_ ?_ ?_; rotate_left; (intro w'; go_simp; with_reducible rfl); rotate_left; (simp only [Act.put, qs, qt, qu, i64_w, i32_w]; rfl); refine qz 30 82 ?_ (bm 39 1667679795) rfl rfl HT_ (by kernel_rfl) (fun _ _ _ h => h) (by rfl) ?_ ?_ ?_ ?_; rotate_left; (intro w'; go_simp; with_reducible rfl); rotate_left; (simp only [Act.put, qs, qt, qu, i64_w, i32_w]; rfl); refine qz 32 84 ?_ (bm 39 5962647091) rfl rfl HT_ (by kernel_rfl) (fun _ _ _ h => h) (by rfl) ?_ ?_ ?_ ?_; rotate_left; (intro w'; go_simp; with_reducible rfl); rotate_left; (simp only [Act.put, qs, qt, qu, i64_w, i32_w]; rfl); refine qz 33 85 ?_ (bm 39 14552581683) rfl rfl HT_ (by kernel_rfl) (fun _ _ _ h => h) (by rfl) ?_ ?_ ?_ ?_; rotate_left; (intro w'; go_simp; with_reducible rfl); rotate_left; (simp only [Act.put, qs, qt, qu, i64_w, i32_w]; rfl); refine take_ (i := 2) (N := some 54) (v := ?_) (a' := ?_) (bm 39 14552581687) rfl rfl (take_ofW HT_.out HW_.out (by kernel_rfl)) (fun _ _ _ h => h) (Or.inl ⟨by rfl, ?_⟩) hHeld ?_ ?_; rotate_left
         ·rintro w' ⟨s0, s1, s2, s3, s4, s5, s6, s7, s8⟩
          go_simp; with_reducible rfl
         rotate_left; (simp only [Act.put, qs, qt, qu, i64_w, i32_w]; rfl); refine take_ (i := 6) (N := some 58) (v := ?_) (a' := ?_) (bm 39 14552581751) rfl rfl (take_ofW HT_.out HW_.out (by kernel_rfl)) (fun _ _ _ h => h) (Or.inl ⟨by rfl, ?_⟩) hHeld ?_ ?_; rotate_left
         ·rintro w' ⟨s0, s1, s2, s3, s4, s5, s6, s7, s8⟩
          go_simp; with_reducible rfl
         rotate_left; (simp only [Act.put, qs, qt, qu, i64_w, i32_w]; rfl); refine take_ (i := 11) (N := some 63) (v := ?_) (a' := ?_) (bm 39 14552583799) rfl rfl (take_ofW HT_.out HW_.out (by kernel_rfl)) (fun _ _ _ h => h) (Or.inl ⟨by rfl, ?_⟩) hHeld ?_ ?_; rotate_left
         ·rintro w' ⟨s0, s1, s2, s3, s4, s5, s6, s7, s8⟩
          go_simp; with_reducible rfl
         rotate_left; (simp only [Act.put, qs, qt, qu, i64_w, i32_w]; rfl); refine take_ (i := 16) (N := some 68) (v := ?_) (a' := ?_) (bm 39 14552649335) rfl rfl (take_ofW HT_.out HW_.out (by kernel_rfl)) (fun _ _ _ h => h) (Or.inl ⟨by rfl, ?_⟩) hHeld ?_ ?_; rotate_left
         ·rintro w' ⟨s0, s1, s2, s3, s4, s5, s6, s7, s8⟩
          go_simp; with_reducible rfl
         rotate_left; (simp only [Act.put, qs, qt, qu, i64_w, i32_w]; rfl); refine take_ (i := 19) (N := some 71) (v := ?_) (a' := ?_) (bm 39 14553173623) rfl rfl (take_ofW HT_.out HW_.out (by kernel_rfl)) (fun _ _ _ h => h) (Or.inl ⟨by rfl, ?_⟩) hHeld ?_ ?_; rotate_left
         ·rintro w' ⟨s0, s1, s2, s3, s4, s5, s6, s7, s8⟩
          go_simp; with_reducible rfl
         rotate_left; (simp only [Act.put, qs, qt, qu, i64_w, i32_w]; rfl); refine qz 20 72 ?_ (bm 39 14554222199) rfl rfl HT_ (by kernel_rfl) (fun _ _ _ h => h) (by rfl) ?_ ?_ ?_ ?_; rotate_left; (intro w'; go_simp; with_reducible rfl); rotate_left; (simp only [Act.put, qs, qt, qu, i64_w, i32_w]; rfl); refine take_ (i := 23) (N := some 75) (v := ?_) (a' := ?_) (bm 39 14562610807) rfl rfl (take_ofW HT_.out HW_.out (by kernel_rfl)) (fun _ _ _ h => h) (Or.inl ⟨by rfl, ?_⟩) hHeld ?_ ?_; rotate_left
         ·rintro w' ⟨s0, s1, s2, s3, s4, s5, s6, s7, s8⟩
          go_simp; with_reducible rfl
         rotate_left; (simp only [Act.put, qs, qt, qu, i64_w, i32_w]; rfl); refine take_ (i := 26) (N := some 78) (v := ?_) (a' := ?_) (bm 39 14629719671) rfl rfl (take_ofW HT_.out HW_.out (by kernel_rfl)) (fun _ _ _ h => h) (Or.inl ⟨by rfl, ?_⟩) hHeld ?_ ?_; rotate_left
         ·rintro w' ⟨s0, s1, s2, s3, s4, s5, s6, s7, s8⟩
          go_simp; with_reducible rfl
         rotate_left; (simp only [Act.put, qs, qt, qu, i64_w, i32_w]; rfl); refine qz 27 79 ?_ (bm 39 14763937399) rfl rfl HT_ (by kernel_rfl) (fun _ _ _ h => h) (by rfl) ?_ ?_ ?_ ?_; rotate_left; (intro w'; go_simp; with_reducible rfl); rotate_left; (simp only [Act.put, qs, qt, qu, i64_w, i32_w]; rfl); refine qz 28 80 ?_ (bm 39 15032372855) rfl rfl HT_ (by kernel_rfl) (fun _ _ _ h => h) (by rfl) ?_ ?_ ?_ ?_; rotate_left; (intro w'; go_simp; with_reducible rfl); rotate_left; (simp only [Act.put, qs, qt, qu, i64_w, i32_w]; rfl); refine take_ (i := 31) (N := some 83) (v := ?_) (a' := ?_) (bm 39 17179856503) rfl rfl (take_ofW HT_.out HW_.out (by kernel_rfl)) (fun _ _ _ h => h) (Or.inl ⟨by rfl, ?_⟩) hHeld ?_ ?_; rotate_left
         ·rintro w' ⟨s0, s1, s2, s3, s4, s5, s6, s7, s8⟩
          go_simp; with_reducible rfl
         rotate_left; (simp only [Act.put, qs, qt, qu, i64_w, i32_w]; rfl); refine take_ (i := 34) (N := some 86) (v := ?_) (a' := ?_) (bm 39 34359725687) rfl rfl (take_ofW HT_.out HW_.out (by kernel_rfl)) (fun _ _ _ h => h) (Or.inl ⟨by rfl, ?_⟩) hHeld ?_ ?_; rotate_left
         ·rintro w' ⟨s0, s1, s2, s3, s4, s5, s6, s7, s8⟩
          go_simp; with_reducible rfl
         rotate_left; (simp only [Act.put, qs, qt, qu, i64_w, i32_w]; rfl); refine qz 35 87 ?_ (bm 39 68719464055) rfl rfl HT_ (by kernel_rfl) (fun _ _ _ h => h) (by rfl) ?_ ?_ ?_ ?_; rotate_left; (intro w'; go_simp; with_reducible rfl); rotate_left; (simp only [Act.put, qs, qt, qu, i64_w, i32_w]; rfl); refine qz 36 88 ?_ (bm 39 137438940791) rfl rfl HT_ (by kernel_rfl) (fun _ _ _ h => h) (by rfl) ?_ ?_ ?_ ?_; rotate_left; (intro w'; go_simp; with_reducible rfl); rotate_left; (simp only [Act.put, qs, qt, qu, i64_w, i32_w]; rfl); refine one_ (i := 3) (N := some 55) (bm 39 137438940799) rfl rfl (one_of HT_.out (by kernel_rfl)) (by decide) (fun K hK => ?_); refine goes_ Tryz.func102 (by kernel_rfl) rfl #[.int .u32 (rd l0 0), .int .u32 2] (by rfl) rfl rfl (by (try simp only [List.map_toArray, List.map_cons, List.map_nil]); first | done | rfl | (simp only [List.length_drop, qw]; rfl)) ?_
         with_reducible refine (saltusref03_ror.calls (rd l0 0) 2 t151 _ A12.out).mono ?_
         rintro e w' ⟨rfl, ⟨nd, rfl⟩⟩
         refine ⟨_, rfl, ?_⟩; refine hK.out _ _ ⟨((HB.out.cell (qd w _ hw150_0)).trans hw150_0), ((HB.out.cell (qd w _ hw152_0)).trans hw152_0), ((HB.out.cell (qd w _ hw154_0)).trans hw154_0), ((HB.out.cell (qd w _ hw156_0)).trans hw156_0), ((HB.out.cell (qd w _ hw157_0)).trans hw157_0), ((HB.out.cell (qd w _ hw158_0)).trans hw158_0), ((HB.out.cell (qd w _ hw159_0)).trans hw159_0), ((HB.out.cell (qd w _ hw160_0)).trans hw160_0), ((HB.out.cell (qd w _ hw161_0)).trans hw161_0)⟩ (fun hHeld => ?_); clear hK K; refine norm_ (a' := ?_) ?_ ?_; rotate_left
         ·show Act.put _ (some 55) _ = _
          simp only [Act.put, qs, qt, qu, i64_w, i32_w]; rfl
         refine one_ (i := 7) (N := some 59) (bm 39 137438940927) rfl rfl (one_of HT_.out (by kernel_rfl)) (by decide) (fun K hK => ?_); refine goes_ Tryz.func102 (by kernel_rfl) rfl #[.int .u32 (rd l0 0), .int .u32 13] (by rfl) rfl rfl (by (try simp only [List.map_toArray, List.map_cons, List.map_nil]); first | done | rfl | (simp only [List.length_drop, qw]; rfl)) ?_
         with_reducible refine (saltusref03_ror.calls (rd l0 0) 13 t153 _ A13.out).mono ?_
         rintro e w' ⟨rfl, ⟨nd, rfl⟩⟩
         refine ⟨_, rfl, ?_⟩; refine hK.out _ _ ⟨((HB.out.cell (qd w _ hw150_0)).trans hw150_0), ((HB.out.cell (qd w _ hw152_0)).trans hw152_0), ((HB.out.cell (qd w _ hw154_0)).trans hw154_0), ((HB.out.cell (qd w _ hw156_0)).trans hw156_0), ((HB.out.cell (qd w _ hw157_0)).trans hw157_0), ((HB.out.cell (qd w _ hw158_0)).trans hw158_0), ((HB.out.cell (qd w _ hw159_0)).trans hw159_0), ((HB.out.cell (qd w _ hw160_0)).trans hw160_0), ((HB.out.cell (qd w _ hw161_0)).trans hw161_0)⟩ (fun hHeld => ?_); clear hK K; refine norm_ (a' := ?_) ?_ ?_; rotate_left
         ·show Act.put _ (some 59) _ = _
          simp only [Act.put, qs, qt, qu, i64_w, i32_w]; rfl
         refine qz 8 60 ?_ (bm 39 137438941183) rfl rfl HT_ (by kernel_rfl) (fun _ _ _ h => h) (by rfl) ?_ ?_ ?_ ?_; rotate_left; (intro w'; go_simp; with_reducible rfl); rotate_left; (simp only [Act.put, qs, qt, qu, i64_w, i32_w]; rfl); refine one_ (i := 12) (N := some 64) (bm 39 137438945279) rfl rfl (one_of HT_.out (by kernel_rfl)) (by decide) (fun K hK => ?_); refine goes_ Tryz.func102 (by kernel_rfl) rfl #[.int .u32 (rd l0 0), .int .u32 22] (by rfl) rfl rfl (by (try simp only [List.map_toArray, List.map_cons, List.map_nil]); first | done | rfl | (simp only [List.length_drop, qw]; rfl)) ?_
         with_reducible refine (saltusref03_ror.calls (rd l0 0) 22 t155 _ A14.out).mono ?_
         rintro e w' ⟨rfl, ⟨nd, rfl⟩⟩
         refine ⟨_, rfl, ?_⟩; refine hK.out _ _ ⟨((HB.out.cell (qd w _ hw150_0)).trans hw150_0), ((HB.out.cell (qd w _ hw152_0)).trans hw152_0), ((HB.out.cell (qd w _ hw154_0)).trans hw154_0), ((HB.out.cell (qd w _ hw156_0)).trans hw156_0), ((HB.out.cell (qd w _ hw157_0)).trans hw157_0), ((HB.out.cell (qd w _ hw158_0)).trans hw158_0), ((HB.out.cell (qd w _ hw159_0)).trans hw159_0), ((HB.out.cell (qd w _ hw160_0)).trans hw160_0), ((HB.out.cell (qd w _ hw161_0)).trans hw161_0)⟩ (fun hHeld => ?_); clear hK K; refine norm_ (a' := ?_) ?_ ?_; rotate_left
         ·show Act.put _ (some 64) _ = _
          simp only [Act.put, qs, qt, qu, i64_w, i32_w]; rfl
         refine qz 13 65 ?_ (bm 39 137438953471) rfl rfl HT_ (by kernel_rfl) (fun _ _ _ h => h) (by rfl) ?_ ?_ ?_ ?_; rotate_left; (intro w'; go_simp; with_reducible rfl); rotate_left; (simp only [Act.put, qs, qt, qu, i64_w, i32_w]; rfl); refine qz 37 89 ?_ (bm 39 274877906943) rfl rfl HT_ (by kernel_rfl) (fun _ _ _ h => h) (by rfl) ?_ ?_ ?_ ?_; rotate_left; (intro w'; go_simp; with_reducible rfl); rotate_left; (simp only [Act.put, qs, qt, qu, i64_w, i32_w]; rfl); refine qz 38 10 ?_ (bm 39 549755813887) rfl rfl HT_ (by kernel_rfl) (fun _ _ _ h => h) (by rfl) ?_ ?_ ?_ ?_; rotate_left; (intro w'; go_simp; with_reducible rfl); rotate_left; (simp only [Act.put, qs, qt, qu, i64_w, i32_w]; rfl); refine done_ (done_of HT_.out (by kernel_rfl)) ?_
         try go_wp2
         (try (rw [drewN_self w20]; generalize hq_ : World.drewN w20 _ = w20; have n0_ : Aside0 (Below w.heap.size w w20) := ⟨by rw [← hq_]; exact (by repeat (first | (with_reducible first | exact HB.out | apply qa | apply qb | apply qc) | exact HB.out))⟩; clear HB hq_; have HB := n0_; clear n0_))
         have n0_ := qf (qc HB.out); clear HB; have HB := n0_; clear n0_; have p162 : 0 ≤ (0 : Int) := (by omega); have q162 : 0 < (l0.length : Int) := qe (by with_reducible assumption); obtain ⟨ad162, e162, hx162_0⟩ := Kd.at_int HR0.out 0 p162 q162; have hw162_0 := hx162_0
         (try rw [show ((0 : Int)).toNat = 0 from rfl] at hw162_0)
         (try rw [show 0 * 1 = 0 from rfl] at hw162_0)
         (try rw [Addr.add_zero'] at hw162_0)
         obtain rfl : ad139 = ad162 := (by injection e162); have qi162 : (0 < l0.length) = True := eq_true (by omega)
         (try rw [show ((0 : Int)).toNat = 0 from rfl] at hx162_0)
         (try rw [Addr.add_zero'] at hx162_0)
         replace hx162_0 := (HB.out.cell (qd w _ hx162_0)).trans hx162_0; replace p162 := eq_true p162; replace q162 := eq_true q162; have p163 : 0 ≤ (1 : Int) := (by omega); have q163 : 1 < (l0.length : Int) := qe (by with_reducible assumption); obtain ⟨ad163, e163, hx163_0⟩ := Kd.at_int HR0.out 1 p163 q163; have hw163_0 := hx163_0
         (try rw [show ((1 : Int)).toNat = 1 from rfl] at hw163_0)
         (try rw [show 1 * 1 = 1 from rfl] at hw163_0)
         (try simp only [Nat.reduceMul, Nat.reduceEqDiff, Go.Addr.add, ↓reduceIte] at hw163_0)
         obtain rfl : ad139 = ad163 := (by injection e163)
         (try simp only [show (1 : Int).toNat = 1 from rfl, Nat.reduceMul, Nat.reduceEqDiff, Go.Addr.add, ↓reduceIte] at hx163_0)
         have qi163 : (1 < l0.length) = True := eq_true (by omega)
         (try rw [show ((1 : Int)).toNat = 1 from rfl] at hx163_0)
         replace hx163_0 := (HB.out.cell (qd w _ hx163_0)).trans hx163_0; replace p163 := eq_true p163; replace q163 := eq_true q163; have p164 : 0 ≤ (2 : Int) := (by omega); have q164 : 2 < (l0.length : Int) := qe (by with_reducible assumption); obtain ⟨ad164, e164, hx164_0⟩ := Kd.at_int HR0.out 2 p164 q164; have hw164_0 := hx164_0
         (try rw [show ((2 : Int)).toNat = 2 from rfl] at hw164_0)
         (try rw [show 2 * 1 = 2 from rfl] at hw164_0)
         (try simp only [Nat.reduceMul, Nat.reduceEqDiff, Go.Addr.add, ↓reduceIte] at hw164_0)
         obtain rfl : ad139 = ad164 := (by injection e164)
         (try simp only [show (2 : Int).toNat = 2 from rfl, Nat.reduceMul, Nat.reduceEqDiff, Go.Addr.add, ↓reduceIte] at hx164_0)
         have qi164 : (2 < l0.length) = True := eq_true (by omega)
         (try rw [show ((2 : Int)).toNat = 2 from rfl] at hx164_0)
         replace hx164_0 := (HB.out.cell (qd w _ hx164_0)).trans hx164_0; replace p164 := eq_true p164; replace q164 := eq_true q164; have p165 : 0 ≤ (3 : Int) := (by omega); have q165 : 3 < (l0.length : Int) := qe (by with_reducible assumption); obtain ⟨ad165, e165, hx165_0⟩ := Kd.at_int HR0.out 3 p165 q165; have hw165_0 := hx165_0
         (try rw [show ((3 : Int)).toNat = 3 from rfl] at hw165_0)
         (try rw [show 3 * 1 = 3 from rfl] at hw165_0)
         (try simp only [Nat.reduceMul, Nat.reduceEqDiff, Go.Addr.add, ↓reduceIte] at hw165_0)
         obtain rfl : ad139 = ad165 := (by injection e165)
         (try simp only [show (3 : Int).toNat = 3 from rfl, Nat.reduceMul, Nat.reduceEqDiff, Go.Addr.add, ↓reduceIte] at hx165_0)
         have qi165 : (3 < l0.length) = True := eq_true (by omega)
         (try rw [show ((3 : Int)).toNat = 3 from rfl] at hx165_0)
         replace hx165_0 := (HB.out.cell (qd w _ hx165_0)).trans hx165_0; replace p165 := eq_true p165; replace q165 := eq_true q165; have p166 : 0 ≤ (4 : Int) := (by omega); have q166 : 4 < (l0.length : Int) := qe (by with_reducible assumption); obtain ⟨ad166, e166, hx166_0⟩ := Kd.at_int HR0.out 4 p166 q166; have hw166_0 := hx166_0
         (try rw [show ((4 : Int)).toNat = 4 from rfl] at hw166_0)
         (try rw [show 4 * 1 = 4 from rfl] at hw166_0)
         (try simp only [Nat.reduceMul, Nat.reduceEqDiff, Go.Addr.add, ↓reduceIte] at hw166_0)
         obtain rfl : ad139 = ad166 := (by injection e166)
         (try simp only [show (4 : Int).toNat = 4 from rfl, Nat.reduceMul, Nat.reduceEqDiff, Go.Addr.add, ↓reduceIte] at hx166_0)
         have qi166 : (4 < l0.length) = True := eq_true (by omega)
         (try rw [show ((4 : Int)).toNat = 4 from rfl] at hx166_0)
         replace hx166_0 := (HB.out.cell (qd w _ hx166_0)).trans hx166_0; replace p166 := eq_true p166; replace q166 := eq_true q166; have p167 : 0 ≤ (5 : Int) := (by omega); have q167 : 5 < (l0.length : Int) := qe (by with_reducible assumption); obtain ⟨ad167, e167, hx167_0⟩ := Kd.at_int HR0.out 5 p167 q167; have hw167_0 := hx167_0
         (try rw [show ((5 : Int)).toNat = 5 from rfl] at hw167_0)
         (try rw [show 5 * 1 = 5 from rfl] at hw167_0)
         (try simp only [Nat.reduceMul, Nat.reduceEqDiff, Go.Addr.add, ↓reduceIte] at hw167_0)
         obtain rfl : ad139 = ad167 := (by injection e167)
         (try simp only [show (5 : Int).toNat = 5 from rfl, Nat.reduceMul, Nat.reduceEqDiff, Go.Addr.add, ↓reduceIte] at hx167_0)
         have qi167 : (5 < l0.length) = True := eq_true (by omega)
         (try rw [show ((5 : Int)).toNat = 5 from rfl] at hx167_0)
         replace hx167_0 := (HB.out.cell (qd w _ hx167_0)).trans hx167_0; replace p167 := eq_true p167; replace q167 := eq_true q167; have p168 : 0 ≤ (6 : Int) := (by omega); have q168 : 6 < (l0.length : Int) := qe (by with_reducible assumption); obtain ⟨ad168, e168, hx168_0⟩ := Kd.at_int HR0.out 6 p168 q168; have hw168_0 := hx168_0
         (try rw [show ((6 : Int)).toNat = 6 from rfl] at hw168_0)
         (try rw [show 6 * 1 = 6 from rfl] at hw168_0)
         (try simp only [Nat.reduceMul, Nat.reduceEqDiff, Go.Addr.add, ↓reduceIte] at hw168_0)
         obtain rfl : ad139 = ad168 := (by injection e168)
         (try simp only [show (6 : Int).toNat = 6 from rfl, Nat.reduceMul, Nat.reduceEqDiff, Go.Addr.add, ↓reduceIte] at hx168_0)
         have qi168 : (6 < l0.length) = True := eq_true (by omega)
         (try rw [show ((6 : Int)).toNat = 6 from rfl] at hx168_0)
         replace hx168_0 := (HB.out.cell (qd w _ hx168_0)).trans hx168_0; replace p168 := eq_true p168; replace q168 := eq_true q168; refine start_ (n := 28) (S := fun w' => w'.cell? ad139 = some (.int .u32 (rd l0 0)) ∧ w'.cell? ⟨ad139.block, ad139.off + 1, none⟩ = some (.int .u32 (rd l0 1)) ∧ w'.cell? ⟨ad139.block, ad139.off + 2, none⟩ = some (.int .u32 (rd l0 2)) ∧ w'.cell? ⟨ad139.block, ad139.off + 3, none⟩ = some (.int .u32 (rd l0 3)) ∧ w'.cell? ⟨ad139.block, ad139.off + 4, none⟩ = some (.int .u32 (rd l0 4)) ∧ w'.cell? ⟨ad139.block, ad139.off + 5, none⟩ = some (.int .u32 (rd l0 5)) ∧ w'.cell? ⟨ad139.block, ad139.off + 6, none⟩ = some (.int .u32 (rd l0 6))) (ds := []) (bm 28 0) (by kernel_rfl) rfl rfl ⟨((HB.out.cell (qd w _ hw162_0)).trans hw162_0), ((HB.out.cell (qd w _ hw163_0)).trans hw163_0), ((HB.out.cell (qd w _ hw164_0)).trans hw164_0), ((HB.out.cell (qd w _ hw165_0)).trans hw165_0), ((HB.out.cell (qd w _ hw166_0)).trans hw166_0), ((HB.out.cell (qd w _ hw167_0)).trans hw167_0), ((HB.out.cell (qd w _ hw168_0)).trans hw168_0)⟩ (fun hHeld => ?_); refine with_tabW saltusref03_round.tab5 saltusref03_round.bits5 (fun HT_ HW_ => ?_); generalize w20.drew = w21 at HB hx162_0 hx163_0 hx164_0 hx165_0 hx166_0 hx167_0 hx168_0 hHeld ⊢; refine qz 0 90 ?_ (bm 28 1) rfl rfl HT_ (by kernel_rfl) (fun _ _ _ h => h) (by rfl) ?_ ?_ ?_ ?_; rotate_left; (intro w'; go_simp; with_reducible rfl); rotate_left; (simp only [Act.put, qs, qt, qu, i64_w, i32_w]; rfl); refine qz 1 91 ?_ (bm 28 3) rfl rfl HT_ (by kernel_rfl) (fun _ _ _ h => h) (by rfl) ?_ ?_ ?_ ?_; rotate_left; (intro w'; go_simp; with_reducible rfl); rotate_left; (simp only [Act.put, qs, qt, qu, i64_w, i32_w]; rfl); refine qz 2 92 ?_ (bm 28 7) rfl rfl HT_ (by kernel_rfl) (fun _ _ _ h => h) (by rfl) ?_ ?_ ?_ ?_; rotate_left; (intro w'; go_simp; with_reducible rfl); rotate_left; (simp only [Act.put, qs, qt, qu, i64_w, i32_w]; rfl); refine qz 3 93 ?_ (bm 28 15) rfl rfl HT_ (by kernel_rfl) (fun _ _ _ h => h) (by rfl) ?_ ?_ ?_ ?_; rotate_left; (intro w'; go_simp; with_reducible rfl); rotate_left; (simp only [Act.put, qs, qt, qu, i64_w, i32_w]; rfl); refine qz 4 94 ?_ (bm 28 31) rfl rfl HT_ (by kernel_rfl) (fun _ _ _ h => h) (by rfl) ?_ ?_ ?_ ?_; rotate_left; (intro w'; go_simp; with_reducible rfl); rotate_left; (simp only [Act.put, qs, qt, qu, i64_w, i32_w]; rfl); refine qz 6 96 ?_ (bm 28 95) rfl rfl HT_ (by kernel_rfl) (fun _ _ _ h => h) (by rfl) ?_ ?_ ?_ ?_; rotate_left; (intro w'; go_simp; with_reducible rfl); rotate_left; (simp only [Act.put, qs, qt, qu, i64_w, i32_w]; rfl); refine qz 7 97 ?_ (bm 28 223) rfl rfl HT_ (by kernel_rfl) (fun _ _ _ h => h) (by rfl) ?_ ?_ ?_ ?_; rotate_left; (intro w'; go_simp; with_reducible rfl); rotate_left; (simp only [Act.put, qs, qt, qu, i64_w, i32_w]; rfl); refine qz 9 99 ?_ (bm 28 735) rfl rfl HT_ (by kernel_rfl) (fun _ _ _ h => h) (by rfl) ?_ ?_ ?_ ?_; rotate_left; (intro w'; go_simp; with_reducible rfl); rotate_left; (simp only [Act.put, qs, qt, qu, i64_w, i32_w]; rfl)
         refine qz 10 100 ?_ (bm 28 1759) rfl rfl HT_ (by kernel_rfl) (fun _ _ _ h => h) (by rfl) ?_ ?_ ?_ ?_; rotate_left; (intro w'; go_simp; with_reducible rfl); rotate_left; (simp only [Act.put, qs, qt, qu, i64_w, i32_w]; rfl); refine qz 12 102 ?_ (bm 28 5855) rfl rfl HT_ (by kernel_rfl) (fun _ _ _ h => h) (by rfl) ?_ ?_ ?_ ?_; rotate_left; (intro w'; go_simp; with_reducible rfl); rotate_left; (simp only [Act.put, qs, qt, qu, i64_w, i32_w]; rfl); refine qz 13 103 ?_ (bm 28 14047) rfl rfl HT_ (by kernel_rfl) (fun _ _ _ h => h) (by rfl) ?_ ?_ ?_ ?_; rotate_left; (intro w'; go_simp; with_reducible rfl); rotate_left; (simp only [Act.put, qs, qt, qu, i64_w, i32_w]; rfl); refine qz 15 105 ?_ (bm 28 46815) rfl rfl HT_ (by kernel_rfl) (fun _ _ _ h => h) (by rfl) ?_ ?_ ?_ ?_; rotate_left; (intro w'; go_simp; with_reducible rfl); rotate_left; (simp only [Act.put, qs, qt, qu, i64_w, i32_w]; rfl); refine qz 17 107 ?_ (bm 28 177887) rfl rfl HT_ (by kernel_rfl) (fun _ _ _ h => h) (by rfl) ?_ ?_ ?_ ?_; rotate_left; (intro w'; go_simp; with_reducible rfl); rotate_left; (simp only [Act.put, qs, qt, qu, i64_w, i32_w]; rfl); refine qz 18 108 ?_ (bm 28 440031) rfl rfl HT_ (by kernel_rfl) (fun _ _ _ h => h) (by rfl) ?_ ?_ ?_ ?_; rotate_left; (intro w'; go_simp; with_reducible rfl); rotate_left; (simp only [Act.put, qs, qt, qu, i64_w, i32_w]; rfl); refine qz 20 110 ?_ (bm 28 1488607) rfl rfl HT_ (by kernel_rfl) (fun _ _ _ h => h) (by rfl) ?_ ?_ ?_ ?_; rotate_left; (intro w'; go_simp; with_reducible rfl); rotate_left; (simp only [Act.put, qs, qt, qu, i64_w, i32_w]; rfl); refine qz 21 111 ?_ (bm 28 3585759) rfl rfl HT_ (by kernel_rfl) (fun _ _ _ h => h) (by rfl) ?_ ?_ ?_ ?_; rotate_left; (intro w'; go_simp; with_reducible rfl); rotate_left; (simp only [Act.put, qs, qt, qu, i64_w, i32_w]; rfl); refine qz 23 113 ?_ (bm 28 11974367) rfl rfl HT_ (by kernel_rfl) (fun _ _ _ h => h) (by rfl) ?_ ?_ ?_ ?_; rotate_left; (intro w'; go_simp; with_reducible rfl); rotate_left; (simp only [Act.put, qs, qt, qu, i64_w, i32_w]; rfl); refine qz 24 114 ?_ (bm 28 28751583) rfl rfl HT_ (by kernel_rfl) (fun _ _ _ h => h) (by rfl) ?_ ?_ ?_ ?_; rotate_left; (intro w'; go_simp; with_reducible rfl); rotate_left; (simp only [Act.put, qs, qt, qu, i64_w, i32_w]; rfl); refine take_ (i := 5) (N := some 95) (v := ?_) (a' := ?_) (bm 28 28751615) rfl rfl (take_ofW HT_.out HW_.out (by kernel_rfl)) (fun _ _ _ h => h) (Or.inl ⟨by rfl, ?_⟩) hHeld ?_ ?_; rotate_left
         ·rintro w' ⟨s0, s1, s2, s3, s4, s5, s6⟩
          go_simp; with_reducible rfl
         rotate_left; (simp only [Act.put, qs, qt, qu, i64_w, i32_w]; rfl); refine take_ (i := 8) (N := some 98) (v := ?_) (a' := ?_) (bm 28 28751871) rfl rfl (take_ofW HT_.out HW_.out (by kernel_rfl)) (fun _ _ _ h => h) (Or.inl ⟨by rfl, ?_⟩) hHeld ?_ ?_; rotate_left
         ·rintro w' ⟨s0, s1, s2, s3, s4, s5, s6⟩
          go_simp; with_reducible rfl
         rotate_left; (simp only [Act.put, qs, qt, qu, i64_w, i32_w]; rfl); refine take_ (i := 11) (N := some 101) (v := ?_) (a' := ?_) (bm 28 28753919) rfl rfl (take_ofW HT_.out HW_.out (by kernel_rfl)) (fun _ _ _ h => h) (Or.inl ⟨by rfl, ?_⟩) hHeld ?_ ?_; rotate_left
         ·rintro w' ⟨s0, s1, s2, s3, s4, s5, s6⟩
          go_simp; with_reducible rfl
         rotate_left; (simp only [Act.put, qs, qt, qu, i64_w, i32_w]; rfl); refine take_ (i := 14) (N := some 104) (v := ?_) (a' := ?_) (bm 28 28770303) rfl rfl (take_ofW HT_.out HW_.out (by kernel_rfl)) (fun _ _ _ h => h) (Or.inl ⟨by rfl, ?_⟩) hHeld ?_ ?_; rotate_left
         ·rintro w' ⟨s0, s1, s2, s3, s4, s5, s6⟩
          go_simp; with_reducible rfl
         rotate_left; (simp only [Act.put, qs, qt, qu, i64_w, i32_w]; rfl); refine qz 16 106 ?_ (bm 28 28835839) rfl rfl HT_ (by kernel_rfl) (fun _ _ _ h => h) (by rfl) ?_ ?_ ?_ ?_; rotate_left; (intro w'; go_simp; with_reducible rfl); rotate_left; (simp only [Act.put, qs, qt, qu, i64_w, i32_w]; rfl); refine take_ (i := 19) (N := some 109) (v := ?_) (a' := ?_) (bm 28 29360127) rfl rfl (take_ofW HT_.out HW_.out (by kernel_rfl)) (fun _ _ _ h => h) (Or.inl ⟨by rfl, ?_⟩) hHeld ?_ ?_; rotate_left
         ·rintro w' ⟨s0, s1, s2, s3, s4, s5, s6⟩
          go_simp; with_reducible rfl
         rotate_left; (simp only [Act.put, qs, qt, qu, i64_w, i32_w]; rfl); refine take_ (i := 22) (N := some 112) (v := ?_) (a' := ?_) (bm 28 33554431) rfl rfl (take_ofW HT_.out HW_.out (by kernel_rfl)) (fun _ _ _ h => h) (Or.inl ⟨by rfl, ?_⟩) hHeld ?_ ?_; rotate_left
         ·rintro w' ⟨s0, s1, s2, s3, s4, s5, s6⟩
          go_simp; with_reducible rfl
         rotate_left; (simp only [Act.put, qs, qt, qu, i64_w, i32_w]; rfl); refine take_ (i := 25) (N := some 115) (v := ?_) (a' := ?_) (bm 28 67108863) rfl rfl (take_ofW HT_.out HW_.out (by kernel_rfl)) (fun _ _ _ h => h) (Or.inl ⟨by rfl, ?_⟩) hHeld ?_ ?_; rotate_left
         ·rintro w' ⟨s0, s1, s2, s3, s4, s5, s6⟩
          go_simp; with_reducible rfl
         rotate_left; (simp only [Act.put, qs, qt, qu, i64_w, i32_w]; rfl); refine one_ (i := 26) (N := some 116) (bm 28 134217727) rfl rfl (one_of HT_.out (by kernel_rfl)) (by decide) (fun K hK => ?_)
         refine Kd.R_lit_step (Kd.int .u32) _ 89 ?hg (N := 116) ?hd (xs := ([((((((((((rd l0 7) + (Go.bits .xor .u32 (Go.bits .xor .u32 t140 t142) t144)) % 4294967296) + (Go.bits .xor .u32 (Go.bits .and .u32 (rd l0 4) (rd l0 5)) (Go.bits .and .u32 ((4294967295 - (rd l0 4)) % 4294967296) (rd l0 6)))) % 4294967296) + a1) % 4294967296) + a2) % 4294967296) + (((Go.bits .xor .u32 (Go.bits .xor .u32 t151 t153) t155) + (Go.bits .xor .u32 (Go.bits .xor .u32 (Go.bits .and .u32 (rd l0 0) (rd l0 1)) (Go.bits .and .u32 (rd l0 0) (rd l0 2))) (Go.bits .and .u32 (rd l0 1) (rd l0 2)))) % 4294967296)) % 4294967296, rd l0 0, rd l0 1, rd l0 2, ((rd l0 3) + (((((((((rd l0 7) + (Go.bits .xor .u32 (Go.bits .xor .u32 t140 t142) t144)) % 4294967296) + (Go.bits .xor .u32 (Go.bits .and .u32 (rd l0 4) (rd l0 5)) (Go.bits .and .u32 ((4294967295 - (rd l0 4)) % 4294967296) (rd l0 6)))) % 4294967296) + a1) % 4294967296) + a2) % 4294967296)) % 4294967296, rd l0 4, rd l0 5, rd l0 6] : List Int)) (inner := [.int .u32 (((((((((((rd l0 7) + (Go.bits .xor .u32 (Go.bits .xor .u32 t140 t142) t144)) % 4294967296) + (Go.bits .xor .u32 (Go.bits .and .u32 (rd l0 4) (rd l0 5)) (Go.bits .and .u32 ((4294967295 - (rd l0 4)) % 4294967296) (rd l0 6)))) % 4294967296) + a1) % 4294967296) + a2) % 4294967296) + (((Go.bits .xor .u32 (Go.bits .xor .u32 t151 t153) t155) + (Go.bits .xor .u32 (Go.bits .xor .u32 (Go.bits .and .u32 (rd l0 0) (rd l0 1)) (Go.bits .and .u32 (rd l0 0) (rd l0 2))) (Go.bits .and .u32 (rd l0 1) (rd l0 2)))) % 4294967296)) % 4294967296), .int .u32 (rd l0 0), .int .u32 (rd l0 1), .int .u32 (rd l0 2), .int .u32 (((rd l0 3) + (((((((((rd l0 7) + (Go.bits .xor .u32 (Go.bits .xor .u32 t140 t142) t144)) % 4294967296) + (Go.bits .xor .u32 (Go.bits .and .u32 (rd l0 4) (rd l0 5)) (Go.bits .and .u32 ((4294967295 - (rd l0 4)) % 4294967296) (rd l0 6)))) % 4294967296) + a1) % 4294967296) + a2) % 4294967296)) % 4294967296), .int .u32 (rd l0 4), .int .u32 (rd l0 5), .int .u32 (rd l0 6)]) (ok := fun _ => True) (okp := fun _ => True) ?hr ?hp (fun _ hk => hk) trivial (Below.refl _ _) (Nat.le_refl _) (by simp) ?_; (case hd => rfl); (case hg => rfl); (case hr => first | (go_simp; done) | (go_simp; rfl) | (go_simp; simp [IntKind.wrap_u32]; done)); (case hp => exact (Reps.one (show Kd.M (Kd.int .u32) _ _ _ (((((((((((rd l0 7) + (Go.bits .xor .u32 (Go.bits .xor .u32 t140 t142) t144)) % 4294967296) + (Go.bits .xor .u32 (Go.bits .and .u32 (rd l0 4) (rd l0 5)) (Go.bits .and .u32 ((4294967295 - (rd l0 4)) % 4294967296) (rd l0 6)))) % 4294967296) + a1) % 4294967296) + a2) % 4294967296) + (((Go.bits .xor .u32 (Go.bits .xor .u32 t151 t153) t155) + (Go.bits .xor .u32 (Go.bits .xor .u32 (Go.bits .and .u32 (rd l0 0) (rd l0 1)) (Go.bits .and .u32 (rd l0 0) (rd l0 2))) (Go.bits .and .u32 (rd l0 1) (rd l0 2)))) % 4294967296)) % 4294967296) [.int .u32 (((((((((((rd l0 7) + (Go.bits .xor .u32 (Go.bits .xor .u32 t140 t142) t144)) % 4294967296) + (Go.bits .xor .u32 (Go.bits .and .u32 (rd l0 4) (rd l0 5)) (Go.bits .and .u32 ((4294967295 - (rd l0 4)) % 4294967296) (rd l0 6)))) % 4294967296) + a1) % 4294967296) + a2) % 4294967296) + (((Go.bits .xor .u32 (Go.bits .xor .u32 t151 t153) t155) + (Go.bits .xor .u32 (Go.bits .xor .u32 (Go.bits .and .u32 (rd l0 0) (rd l0 1)) (Go.bits .and .u32 (rd l0 0) (rd l0 2))) (Go.bits .and .u32 (rd l0 1) (rd l0 2)))) % 4294967296)) % 4294967296)] from rfl) (Reps.one (show Kd.M (Kd.int .u32) _ _ _ (rd l0 0) [.int .u32 (rd l0 0)] from rfl) (Reps.one (show Kd.M (Kd.int .u32) _ _ _ (rd l0 1) [.int .u32 (rd l0 1)] from rfl) (Reps.one (show Kd.M (Kd.int .u32) _ _ _ (rd l0 2) [.int .u32 (rd l0 2)] from rfl) (Reps.one (show Kd.M (Kd.int .u32) _ _ _ (((rd l0 3) + (((((((((rd l0 7) + (Go.bits .xor .u32 (Go.bits .xor .u32 t140 t142) t144)) % 4294967296) + (Go.bits .xor .u32 (Go.bits .and .u32 (rd l0 4) (rd l0 5)) (Go.bits .and .u32 ((4294967295 - (rd l0 4)) % 4294967296) (rd l0 6)))) % 4294967296) + a1) % 4294967296) + a2) % 4294967296)) % 4294967296) [.int .u32 (((rd l0 3) + (((((((((rd l0 7) + (Go.bits .xor .u32 (Go.bits .xor .u32 t140 t142) t144)) % 4294967296) + (Go.bits .xor .u32 (Go.bits .and .u32 (rd l0 4) (rd l0 5)) (Go.bits .and .u32 ((4294967295 - (rd l0 4)) % 4294967296) (rd l0 6)))) % 4294967296) + a1) % 4294967296) + a2) % 4294967296)) % 4294967296)] from rfl) (Reps.one (show Kd.M (Kd.int .u32) _ _ _ (rd l0 4) [.int .u32 (rd l0 4)] from rfl) (Reps.one (show Kd.M (Kd.int .u32) _ _ _ (rd l0 5) [.int .u32 (rd l0 5)] from rfl) (Reps.one (show Kd.M (Kd.int .u32) _ _ _ (rd l0 6) [.int .u32 (rd l0 6)] from rfl) (Reps.none _ _))))))))))
         intro v170 w22 ho23 hb hg_ hnew_; clear hg_ hnew_
         (first | rw [← Ny169.out] at ho23 | (simp only [Int.reduceToNat] at ho23; rw [← Ny169.out] at ho23))
         have n0_ := qf (Kd.R_lower ho23 (below_size (by repeat (first | (with_reducible first | exact HB.out | apply qa | apply qb | apply qc) | exact HB.out)))); have n1_ := qf (below_step (by repeat (first | (with_reducible first | exact HB.out | apply qa | apply qb | apply qc) | exact HB.out)) hb); clear HB; have HO171 := n0_; have HB := n1_; clear n0_ n1_ hb ho23; refine hK.out _ _ ⟨((HB.out.cell (qd w _ hw162_0)).trans hw162_0), ((HB.out.cell (qd w _ hw163_0)).trans hw163_0), ((HB.out.cell (qd w _ hw164_0)).trans hw164_0), ((HB.out.cell (qd w _ hw165_0)).trans hw165_0), ((HB.out.cell (qd w _ hw166_0)).trans hw166_0), ((HB.out.cell (qd w _ hw167_0)).trans hw167_0), ((HB.out.cell (qd w _ hw168_0)).trans hw168_0)⟩ (fun hHeld => ?_); clear hK K; refine norm_ (a' := ?_) ?_ ?_; rotate_left
         ·show Act.put _ (some 116) _ = _
          simp only [Act.put, qs, qt, qu, i64_w, i32_w]; rfl
         refine qz 27 6 ?_ (bm 28 268435455) rfl rfl HT_ (by kernel_rfl) (fun _ _ _ h => h) (by rfl) ?_ ?_ ?_ ?_; rotate_left; (intro w'; go_simp; with_reducible rfl); rotate_left; (simp only [Act.put, qs, qt, qu, i64_w, i32_w]; rfl); refine done_ (done_of HT_.out (by kernel_rfl)) ?_
         try go_wp2
         go_ret; exact ⟨_, by first | rfl | (simp [errW_none, errW_some] <;> rfl) | (simp [*, errW_none, errW_some] <;> rfl), by (with_reducible repeat (first | apply Kd.R_alloc | apply Kd.R_drewN | apply Kd.R_drew)); exact HO171.out, by repeat (first | (with_reducible first | exact HB.out | apply qa | apply qb | apply qc) | exact HB.out)⟩
        ·rw [if_neg c17] at H; exact absurd H (by simp)
       ·rw [if_neg c16] at H; exact absurd H (by simp)
      ·rw [if_neg c15] at H; exact absurd H (by simp)
     ·rw [if_neg c11] at H; exact absurd H (by simp)
    ·rw [if_neg c10] at H; exact absurd H (by simp)
   ·rw [if_neg c9] at H; exact absurd H (by simp)
  ·rw [if_neg c8] at H; exact absurd H (by simp)
 ·rw [if_neg c4] at H; exact absurd H (by simp)
end Go.Proofs.YtolbhliepkcihaaGreatDoor.QR
end
section
namespace Go.Proofs.YtolbhliepkcihaaGreatDoor.QR
open Go.RowKit YtolbhliepkcihaaGreatDoorW.PrintWords YtolbhliepkcihaaGreatDoorW.PrintLast YtolbhliepkcihaaGreatDoorW.PrintMore
attribute [local go_sem] max2_int min2_int max_two min_two max_three min_three max_four min_four   -- for this text's walks alone
set_option linter.unusedVariables false
set_option linter.unusedSimpArgs false
/-! ### saltusref03_Mix: function 62 -/
mutual
def saltusref03_Mix.l0 : Nat → List Int → List Int → List Int → List Int → Int → Int → Option (List Int)
 | 0, _, _, _, _, _, _ => none
 | k + 1, x0, x5, x6, x15, x16, x17 => if x17 < x16 then (if 0 ≤ x17 then (if x17 < (x15.length : Int) then (if x17 < (x6.length : Int) then ((saltusref03_round.f x5 (rd x6 x17) (rd x15 x17)).bind fun t180 => (saltusref03_Mix.l0 k x0 t180 x6 x15 x16 (wrap64 (x17 + 1)))) else (none)) else (none)) else (none)) else (saltusref03_Mix.l1 k x0 (([] : List Int)) x5 (x5.length : Int) 0)
def saltusref03_Mix.l1 : Nat → List Int → List Int → List Int → Int → Int → Option (List Int)
 | 0, _, _, _, _, _ => none
 | k + 1, x0, x9, x31, x32, x33 => if x33 < x32 then (if 0 ≤ x33 then (if x33 < (x31.length : Int) then (if x33 < (x0.length : Int) then (if x9.length < 35184372088832 then (saltusref03_Mix.l1 k x0 (x9 ++ [((rd x31 x33) + (rd x0 x33)) % 4294967296]) x31 x32 (wrap64 (x33 + 1))) else (none)) else (none)) else (none)) else (none)) else (some x9)
end
def saltusref03_Mix.f (k : Nat) (l0 : List Int) (a1 : ByteArray) : Option (List Int) := (saltusref03_Keys.f).bind fun t172 => ((saltusref03_words.f k a1).bind fun t175 => (saltusref03_Mix.l0 k l0 l0 t172 t175 (t175.length : Int) 0))
set_option maxHeartbeats 8000000 in
set_option maxRecDepth 100000 in
theorem saltusref03_Mix.calls (k : Nat) (P0_ : Nat → Prop) (A0 : Option Addr) (c0 : Nat) (l0 : List Int) (a1 : ByteArray) (r : List Int) (w : World) (hs0 : Kd.V (Kd.int .u32) 89 w w.heap.size (fun k_ => P0_ k_) (.slice A0 l0.length c0) l0) (h : saltusref03_Mix.f k l0 a1 = some r) :
  Calls Tryz.prog 62 #[.slice A0 l0.length c0, .string a1] w fun e w' => ∃ v0_ : Value, e = .returned (v0_) ∧ Kd.R (Kd.int .u32) 89 w' w.heap.size (fun k_ => (w.heap.size ≤ k_)) v0_ r ∧ Below w.heap.size w w' := by
 have HO0 := qf (show Kd.V (Kd.int .u32) 89 w w.heap.size (fun k_ => (P0_ k_ ∨ w.heap.size ≤ k_)) (.slice A0 l0.length c0) l0 from Kd.V_mono hs0 (fun k_ hk => .inl hk)); have HB := qf (Below.refl w.heap.size w); have H : ((saltusref03_Keys.f).bind fun t172 => ((saltusref03_words.f k a1).bind fun t175 => (saltusref03_Mix.l0 k l0 l0 t172 t175 (t175.length : Int) 0))) = some r := h; clear h; replace H := qi H; obtain ⟨t172, A30, H⟩ := H
 (try dsimp only at H)
 have A3 := qf A30; clear A30; replace H := qi H; obtain ⟨t175, A40, H⟩ := H
 (try dsimp only at H)
 have A4 := qf A40; clear A40; have H' := qf H; clear H
 go_enter Tryz.func62, Tryz.ntmps62
 go_wp2_with (first | ((with_reducible refine gate_callee (f := 83) rfl ?_); refine goesL_ (some 13) rfl rfl Tryz.func83 (by kernel_rfl) rfl #[] rfl (by (try simp only [List.map_toArray, List.map_cons, List.map_nil]); first | done | rfl | (simp only [List.length_drop, qw]; rfl)) ?_; (with_reducible refine (saltusref03_Keys.calls  t172 _ A3.out).mono ?_); rintro e w5 ⟨v173, rfl, ho0, hb⟩; refine ⟨_, rfl, ?_⟩; have n0_ := qf (Kd.V_elder' (by (with_reducible repeat (first | apply Kd.V_alloc | apply Kd.V_drewN | apply Kd.V_drew)); exact HO0.out) (Kd.R_base ho0) hb); have n1_ := qf (Kd.R_lower (Kd.R_newM (M := fun k_ => (w.heap.size ≤ k_)) ho0 (below_size (by repeat (first | (with_reducible first | exact HB.out | apply qa | apply qb | apply qc) | exact HB.out))) (fun k_ h_ => h_)) (below_size (by repeat (first | (with_reducible first | exact HB.out | apply qa | apply qb | apply qc) | exact HB.out)))); have n2_ := qf (below_step (by repeat (first | (with_reducible first | exact HB.out | apply qa | apply qb | apply qc) | exact HB.out)) hb); clear HO0 HB; have HO0 := n0_; have HO174 := n1_; have HB := n2_; clear n0_ n1_ n2_; (try clear hb); (try clear ho0)) | ((with_reducible refine gate_callee (f := 84) rfl ?_); refine goesL_ (some 15) rfl rfl Tryz.func84 (by kernel_rfl) rfl #[.string a1] rfl (by (try simp only [List.map_toArray, List.map_cons, List.map_nil]); first | done | rfl | (simp only [List.length_drop, qw]; rfl)) ?_; (with_reducible refine (saltusref03_words.calls k a1 t175 _ A4.out).mono ?_); rintro e w6 ⟨v176, rfl, ho0, hb⟩; refine ⟨_, rfl, ?_⟩; have n0_ := qf (Kd.V_elder' (by (with_reducible repeat (first | apply Kd.V_alloc | apply Kd.V_drewN | apply Kd.V_drew)); exact HO0.out) (Kd.R_base ho0) hb); have n1_ := qf (Kd.R_elder' (by (with_reducible repeat (first | apply Kd.R_alloc | apply Kd.R_drewN | apply Kd.R_drew)); exact HO174.out) (Kd.R_base ho0) hb); have n2_ := qf (Kd.R_lower (Kd.R_new' (Kd.R_newM (M := fun k_ => (w.heap.size ≤ k_)) ho0 (below_size (by repeat (first | (with_reducible first | exact HB.out | apply qa | apply qb | apply qc) | exact HB.out))) (fun k_ h_ => h_)) (Kd.R_lt (by (with_reducible repeat (first | apply Kd.R_alloc | apply Kd.R_drewN | apply Kd.R_drew)); exact HO174.out))) (below_size (by repeat (first | (with_reducible first | exact HB.out | apply qa | apply qb | apply qc) | exact HB.out)))); have n3_ := qf (below_step (by repeat (first | (with_reducible first | exact HB.out | apply qa | apply qb | apply qc) | exact HB.out)) hb); clear HO0 HO174 HB; have HO0 := n0_; have HO174 := n1_; have HO177 := n2_; have HB := n3_; clear n0_ n1_ n2_ n3_; (try clear hb); (try clear ho0); obtain ⟨Ao7, co7, eo7⟩ := Kd.R_slice HO177.out; subst eo7))
 go_loopg [5, 17] k (fun kq v5 v17 w' => ∃ (x5_1 : List Int) (x17_1 : Int), v17 = .int .i64 x17_1 ∧ Aside0 (saltusref03_Mix.l0 kq l0 x5_1 t172 t175 (t175.length : Int) x17_1 = some r) ∧ Aside0 (kq ≤ k) ∧ Aside0 (Kd.V (Kd.int .u32) 89 w' w.heap.size (fun k_ => (P0_ k_ ∨ w.heap.size ≤ k_) ∧ some k_ ≠ (v173 : Value).ownBlock ∧ some k_ ≠ ((.slice Ao7 t175.length co7) : Value).ownBlock) (.slice A0 l0.length c0) l0) ∧ Aside0 (Kd.V (Kd.int .u32) 89 w' w.heap.size (fun k_ => (P0_ k_ ∨ w.heap.size ≤ k_) ∧ some k_ ≠ (v173 : Value).ownBlock ∧ some k_ ≠ ((.slice Ao7 t175.length co7) : Value).ownBlock) v5 x5_1) ∧ Aside0 (Kd.R (Kd.int .u32) 89 w' w.heap.size (fun k_ => (w.heap.size ≤ k_) ∧ some k_ ≠ ((.slice Ao7 t175.length co7) : Value).ownBlock) v173 t172) ∧ Aside0 (Kd.R (Kd.int .u32) 89 w' w.heap.size (fun k_ => (w.heap.size ≤ k_) ∧ some k_ ≠ (v173 : Value).ownBlock) (.slice Ao7 t175.length co7) t175) ∧ Aside0 (Below w.heap.size w w'))
 case atStart => exact ⟨(l0), (0), (by first | rfl | (simp; done) | (simp [*]; done)), H', ⟨Nat.le_refl _⟩, ⟨by (with_reducible repeat (first | apply Kd.V_alloc | apply Kd.V_drewN | apply Kd.V_drew)); exact Kd.V_mono HO0.out (fun _ hk => ⟨hk.1.1, ⟨hk.1.2, hk.2⟩⟩)⟩, ⟨by (with_reducible repeat (first | apply Kd.V_alloc | apply Kd.V_drewN | apply Kd.V_drew)); exact Kd.V_mono HO0.out (fun _ hk => ⟨hk.1.1, ⟨hk.1.2, hk.2⟩⟩)⟩, ⟨by (with_reducible repeat (first | apply Kd.R_alloc | apply Kd.R_drewN | apply Kd.R_drew)); exact Kd.R_mono HO174.out (fun _ hk => ⟨hk.1.1, hk.2⟩)⟩, ⟨by (with_reducible repeat (first | apply Kd.R_alloc | apply Kd.R_drewN | apply Kd.R_drew)); exact Kd.R_mono HO177.out (fun _ hk => ⟨hk.1.1, hk.2⟩)⟩, ⟨by repeat (first | (with_reducible first | exact HB.out | apply qa | apply qb | apply qc) | exact HB.out)⟩⟩
 case round =>
  clear H'; (try clear p2); (try clear c6); obtain ⟨x5_1, x17_1, rfl, HA, HK1, HO_0, HO_5, HO_6, HO_15, HB⟩ := hrel
  cases gk with
  | zero => exact absurd HA.out (by simp [saltusref03_Mix.l0])
  | succ k1 =>
   have H := HA.out; clear HA; simp only [saltusref03_Mix.l0] at H
   by_cases c8 : x17_1 < (t175.length : Int)
   ·rw [if_pos c8] at H; have c8b0 := qj c8; clear c8
    by_cases c9 : 0 ≤ x17_1
    ·rw [if_pos c9] at H; have c9b0 := qj c9; clear c9
     by_cases c10 : x17_1 < (t175.length : Int)
     ·rw [if_pos c10] at H; have c10b0 := qj c10; clear c10
      by_cases c11 : x17_1 < (t172.length : Int)
      ·rw [if_pos c11] at H; have c11b0 := qj c11; clear c11; replace H := qi H; obtain ⟨t180, A120, H⟩ := H
       (try dsimp only at H)
       have A12 := qf A120; clear A120; have H' := qf H; clear H; have p178 : 0 ≤ (x17_1 : Int) := qe (by with_reducible assumption); have q178 : x17_1 < (t175.length : Int) := qe (by with_reducible assumption); obtain ⟨ad178, e178, hx178_0⟩ := Kd.at_int (Kd.R_reads' HO_15.out).2.2 x17_1 p178 q178; cases e178; replace p178 := eq_true p178; replace q178 := eq_true q178; obtain ⟨Ao13, co13, eo13⟩ := Kd.R_slice HO_6.out; subst eo13; have p179 : 0 ≤ (x17_1 : Int) := qe (by with_reducible assumption); have q179 : x17_1 < (t172.length : Int) := qe (by with_reducible assumption); obtain ⟨ad179, e179, hx179_0⟩ := Kd.at_int (Kd.R_reads' HO_6.out).2.2 x17_1 p179 q179; cases e179; replace p179 := eq_true p179; replace q179 := eq_true q179; obtain ⟨Ao14, co14, eo14⟩ := Kd.V_slice HO_5.out; subst eo14
       go_wp2_with (first | ((with_reducible refine gate_callee (f := 85) rfl ?_); refine goesL_ (some 28) rfl rfl Tryz.func85 (by kernel_rfl) rfl #[.slice Ao14 x5_1.length co14, .int .u32 (rd t172 x17_1), .int .u32 (rd t175 x17_1)] rfl (by (try simp only [List.map_toArray, List.map_cons, List.map_nil]); first | done | rfl | (simp only [List.length_drop, qw]; rfl)) ?_; (with_reducible refine (saltusref03_round.calls _ _ x5_1 (rd t172 x17_1) (rd t175 x17_1) t180 _ ?side1 ?side2 A12.out).mono ?_); (case side1 => repeat (first | exact (Kd.V_reads' HO_5.out).2.2 | with_reducible first | apply Kd.C_alloc | apply Kd.C_drewN | apply Kd.C_drew)); (case side2 => exact (Kd.V_reads' HO_5.out).2.1); rintro e w15 ⟨v181, rfl, ho0, hb⟩; refine ⟨_, rfl, ?_⟩; have n0_ := qf (Kd.V_elder' (by (with_reducible repeat (first | apply Kd.V_alloc | apply Kd.V_drewN | apply Kd.V_drew)); exact HO_0.out) (Kd.R_base ho0) hb); have n1_ := qf (Kd.V_elder' (by (with_reducible repeat (first | apply Kd.V_alloc | apply Kd.V_drewN | apply Kd.V_drew)); exact HO_5.out) (Kd.R_base ho0) hb); have n2_ := qf (Kd.R_elder' (by (with_reducible repeat (first | apply Kd.R_alloc | apply Kd.R_drewN | apply Kd.R_drew)); exact HO_6.out) (Kd.R_base ho0) hb); have n3_ := qf (Kd.R_elder' (by (with_reducible repeat (first | apply Kd.R_alloc | apply Kd.R_drewN | apply Kd.R_drew)); exact HO_15.out) (Kd.R_base ho0) hb); have n4_ := qf (Kd.R_lower (Kd.R_new' (Kd.R_new' (Kd.R_newM (M := fun k_ => (w.heap.size ≤ k_)) ho0 (below_size (by repeat (first | (with_reducible first | exact HB.out | apply qa | apply qb | apply qc) | exact HB.out))) (fun k_ h_ => h_)) (Kd.R_lt (by (with_reducible repeat (first | apply Kd.R_alloc | apply Kd.R_drewN | apply Kd.R_drew)); exact HO_6.out))) (Kd.R_lt (by (with_reducible repeat (first | apply Kd.R_alloc | apply Kd.R_drewN | apply Kd.R_drew)); exact HO_15.out))) (below_size (by repeat (first | (with_reducible first | exact HB.out | apply qa | apply qb | apply qc) | exact HB.out)))); have n5_ := qf (below_step (by repeat (first | (with_reducible first | exact HB.out | apply qa | apply qb | apply qc) | exact HB.out)) hb); clear HO_0 HO_5 HO_6 HO_15 HB; have HO_0 := n0_; have HO_5 := n1_; have HO_6 := n2_; have HO_15 := n3_; have HO182 := n4_; have HB := n5_; clear n0_ n1_ n2_ n3_ n4_ n5_; (try clear hb); (try clear ho0)))
       go_roundg k1
       case measure => have := HK1.out; omega
       case rel => exact ⟨(t180), (wrap64 (x17_1 + 1)), (by first | rfl | (simp; done) | (simp [*]; done)), H', ⟨by have := HK1.out; omega⟩, ⟨by (with_reducible repeat (first | apply Kd.V_alloc | apply Kd.V_drewN | apply Kd.V_drew)); exact Kd.V_mono HO_0.out (fun _ hk => ⟨hk.1.1, ⟨hk.1.2.1, hk.1.2.2⟩⟩)⟩, ⟨Kd.V_mono (Kd.R_V (by (with_reducible repeat (first | apply Kd.R_alloc | apply Kd.R_drewN | apply Kd.R_drew)); exact Kd.R_mono (ok' := fun k_ => w.heap.size ≤ k_ ∧ some k_ ≠ (_ : Value).ownBlock ∧ some k_ ≠ (_ : Value).ownBlock) HO182.out (fun _ hk => ⟨hk.1.1.1, ⟨hk.1.2, hk.2⟩⟩))) (fun k_ hk => by first | exact ⟨(.inr (hk.1)), hk.2⟩ | exact (.inr (hk)))⟩, ⟨by (with_reducible repeat (first | apply Kd.R_alloc | apply Kd.R_drewN | apply Kd.R_drew)); exact Kd.R_mono HO_6.out (fun _ hk => ⟨hk.1.1, hk.1.2⟩)⟩, ⟨by (with_reducible repeat (first | apply Kd.R_alloc | apply Kd.R_drewN | apply Kd.R_drew)); exact Kd.R_mono HO_15.out (fun _ hk => ⟨hk.1.1, hk.1.2⟩)⟩, ⟨by repeat (first | (with_reducible first | exact HB.out | apply qa | apply qb | apply qc) | exact HB.out)⟩⟩
      ·rw [if_neg c11] at H; exact absurd H (by simp)
     ·rw [if_neg c10] at H; exact absurd H (by simp)
    ·rw [if_neg c9] at H; exact absurd H (by simp)
   ·rw [if_neg c8] at H; have c8b0 := decide_eq_false c8; clear c8
    obtain ⟨y183, hy183⟩ : ∃ y_ : List Int, y_ = (([] : List Int)) := ⟨_, rfl⟩
    replace H : (saltusref03_Mix.l1 k1 l0 y183 x5_1 (x5_1.length : Int) 0) = some r := by first | (rw [hy183]; with_reducible exact H) | (have H2_ := (qv _ _).symm.trans H; rw [hy183]; with_reducible exact H2_) | (have H2_ := (qv _ _).symm.trans H; with_reducible exact H2_) | with_reducible exact H | (rw [hy183]; exact H) | exact H
    have Ny183 := qf hy183; clear hy183; have H' := qf H; clear H
    go_wp2_with (first | ((with_reducible refine gate_dst (N := 30) rfl ?_); refine Kd.R_lit (Kd.int .u32) _ 89 ?hg (N := 30) ?hd (xs := ([] : List Int)) (inner := []) (ok := fun _ => True) (okp := fun _ => True) ?hr ?hp (fun _ hk => hk) trivial (Below.refl _ _) (Nat.le_refl _) (by simp) ?_; (case hd => rfl); (case hg => rfl); (case hr => first | (go_simp; done) | (go_simp; rfl)); (case hp => exact (Reps.none _ _)); intro v184 w16 ho17 hb hg_ hnew_; clear hg_ hnew_; (first | rw [← Ny183.out] at ho17 | (simp only [Int.reduceToNat] at ho17; rw [← Ny183.out] at ho17)); have n0_ := qf (Kd.V_elder' (by (with_reducible repeat (first | apply Kd.V_alloc | apply Kd.V_drewN | apply Kd.V_drew)); exact HO_0.out) (Kd.R_base ho17) hb); have n1_ := qf (Kd.V_elder' (by (with_reducible repeat (first | apply Kd.V_alloc | apply Kd.V_drewN | apply Kd.V_drew)); exact HO_5.out) (Kd.R_base ho17) hb); have n2_ := qf (Kd.R_elder' (by (with_reducible repeat (first | apply Kd.R_alloc | apply Kd.R_drewN | apply Kd.R_drew)); exact HO_6.out) (Kd.R_base ho17) hb); have n3_ := qf (Kd.R_elder' (by (with_reducible repeat (first | apply Kd.R_alloc | apply Kd.R_drewN | apply Kd.R_drew)); exact HO_15.out) (Kd.R_base ho17) hb); have n4_ := qf (Kd.R_lower (Kd.R_new' (Kd.R_new' (Kd.R_newM (M := fun k_ => (w.heap.size ≤ k_)) ho17 (below_size (by repeat (first | (with_reducible first | exact HB.out | apply qa | apply qb | apply qc) | exact HB.out))) (fun k_ h_ => h_)) (Kd.R_lt (by (with_reducible repeat (first | apply Kd.R_alloc | apply Kd.R_drewN | apply Kd.R_drew)); exact HO_6.out))) (Kd.R_lt (by (with_reducible repeat (first | apply Kd.R_alloc | apply Kd.R_drewN | apply Kd.R_drew)); exact HO_15.out))) (below_size (by repeat (first | (with_reducible first | exact HB.out | apply qa | apply qb | apply qc) | exact HB.out)))); have n5_ := qf (below_step (by repeat (first | (with_reducible first | exact HB.out | apply qa | apply qb | apply qc) | exact HB.out)) hb); clear HO_0 HO_5 HO_6 HO_15 HB; have HO_0 := n0_; have HO_5 := n1_; have HO_6 := n2_; have HO_15 := n3_; have HO185 := n4_; have HB := n5_; clear n0_ n1_ n2_ n3_ n4_ n5_ hb ho17; obtain ⟨Ao18, co18, eo18⟩ := Kd.V_slice HO_5.out; subst eo18))
    go_loopg [9, 33] k1 (fun kq v9 v33 w' => ∃ (x9_2 : List Int) (x33_2 : Int), v33 = .int .i64 x33_2 ∧ Aside0 (saltusref03_Mix.l1 kq l0 x9_2 x5_1 (x5_1.length : Int) x33_2 = some r) ∧ Aside0 (kq ≤ k1) ∧ Aside0 (Kd.V (Kd.int .u32) 89 w' w.heap.size (fun k_ => (P0_ k_ ∨ w.heap.size ≤ k_) ∧ some k_ ≠ (v9 : Value).ownBlock) (.slice A0 l0.length c0) l0) ∧ Aside0 (Kd.R (Kd.int .u32) 89 w' w.heap.size (fun k_ => (w.heap.size ≤ k_)) v9 x9_2) ∧ Aside0 (Kd.V (Kd.int .u32) 89 w' w.heap.size (fun k_ => (P0_ k_ ∨ w.heap.size ≤ k_) ∧ some k_ ≠ (v9 : Value).ownBlock) (.slice Ao18 x5_1.length co18) x5_1) ∧ Aside0 (Below w.heap.size w w'))
    case atStart => exact ⟨(y183), (0), (by first | rfl | (simp; done) | (simp [*]; done)), H', ⟨Nat.le_refl _⟩, ⟨by (with_reducible repeat (first | apply Kd.V_alloc | apply Kd.V_drewN | apply Kd.V_drew)); exact Kd.V_mono HO_0.out (fun _ hk => ⟨hk.1.1, hk.2⟩)⟩, ⟨by (with_reducible repeat (first | apply Kd.R_alloc | apply Kd.R_drewN | apply Kd.R_drew)); exact Kd.R_mono HO185.out (fun _ hk => hk.1.1.1)⟩, ⟨by (with_reducible repeat (first | apply Kd.V_alloc | apply Kd.V_drewN | apply Kd.V_drew)); exact Kd.V_mono HO_5.out (fun _ hk => ⟨hk.1.1, hk.2⟩)⟩, ⟨by repeat (first | (with_reducible first | exact HB.out | apply qa | apply qb | apply qc) | exact HB.out)⟩⟩
    case round =>
     clear H'; (try clear c1); (try clear p1); (try clear q1); (try clear hx1); (try clear p2); (try clear c6); (try clear p6); (try clear c8); (try clear c8b0); (try clear c9); (try clear c9b0); (try clear c10); (try clear c10b0); (try clear c11); (try clear c11b0); (try clear p17); (try clear q17); (try clear hx17); (try clear hx178_0); (try clear hx179_0); (try clear p178); (try clear p179); (try clear p2); (try clear q178); (try clear q179); obtain ⟨x9_2, x33_2, rfl, HA, HK2, HO_0, HO_9, HO_31, HB⟩ := hrel
     cases gk with
     | zero => exact absurd HA.out (by simp [saltusref03_Mix.l1])
     | succ k2 =>
      have H := HA.out; clear HA; simp only [saltusref03_Mix.l1] at H
      by_cases c19 : x33_2 < (x5_1.length : Int)
      ·rw [if_pos c19] at H; have c19b0 := qj c19; clear c19
       by_cases c20 : 0 ≤ x33_2
       ·rw [if_pos c20] at H; have c20b0 := qj c20; clear c20
        by_cases c21 : x33_2 < (x5_1.length : Int)
        ·rw [if_pos c21] at H; have c21b0 := qj c21; clear c21
         by_cases c22 : x33_2 < (l0.length : Int)
         ·rw [if_pos c22] at H; have c22b0 := qj c22; clear c22
          by_cases c23 : x9_2.length < 35184372088832
          ·rw [if_pos c23] at H; have LMc23 := qf c23; clear c23
           obtain ⟨y188, hy188⟩ : ∃ y_ : List Int, y_ = (x9_2 ++ [((rd x5_1 x33_2) + (rd l0 x33_2)) % 4294967296]) := ⟨_, rfl⟩
           replace H : (saltusref03_Mix.l1 k2 l0 y188 x5_1 (x5_1.length : Int) (wrap64 (x33_2 + 1))) = some r := by first | (rw [hy188]; with_reducible exact H) | (have H2_ := (qv _ _).symm.trans H; rw [hy188]; with_reducible exact H2_) | (have H2_ := (qv _ _).symm.trans H; with_reducible exact H2_) | with_reducible exact H | (rw [hy188]; exact H) | exact H
           have Ny188 := qf hy188; clear hy188; have H' := qf H; clear H; have p186 : 0 ≤ (x33_2 : Int) := qe (by with_reducible assumption); have q186 : x33_2 < (x5_1.length : Int) := qe (by with_reducible assumption); obtain ⟨ad186, e186, hx186_0⟩ := Kd.at_int (Kd.V_reads' HO_31.out).2.2 x33_2 p186 q186; cases e186; replace p186 := eq_true p186; replace q186 := eq_true q186; have p187 : 0 ≤ (x33_2 : Int) := qe (by with_reducible assumption); have q187 : x33_2 < (l0.length : Int) := qe (by with_reducible assumption); obtain ⟨ad187, e187, hx187_0⟩ := Kd.at_int (Kd.V_reads' HO_0.out).2.2 x33_2 p187 q187; cases e187; replace p187 := eq_true p187; replace q187 := eq_true q187
           go_wp2_with (first | ((with_reducible refine gate_builtin (b := .append) (xs := #[.tmp 38, .tmp 45]) rfl ?_); at_builtin; refine Kd.R_append (Kd.int .u32) (w0 := w) w.heap.size rfl (.tmp 38) (.tmp 45) 87 89 (.int .u32 0) 4 rfl Tryz.underlying87 info89 rfl (by decide) (by omega) u9 x9_2 (((rd x5_1 x33_2) + (rd l0 x33_2)) % 4294967296) [.int .u32 (((rd x5_1 x33_2) + (rd l0 x33_2)) % 4294967296)] (fun k_ => (w.heap.size ≤ k_)) (fun _ => False) rfl rfl ?aP (fun _ hk => hk.elim) ?aF ?aO ?aB ?aS ?aL ?_; (case aP => exact rfl); (case aB => exact (by repeat (first | (with_reducible first | exact HB.out | apply qa | apply qb | apply qc) | exact HB.out))); (case aF => exact (fun k_ hk => (Nat.le_trans (below_size (by repeat (first | (with_reducible first | exact HB.out | apply qa | apply qb | apply qc) | exact HB.out))) hk))); (case aO => exact (by (with_reducible repeat (first | apply Kd.R_alloc | apply Kd.R_drewN | apply Kd.R_drew)); exact HO_9.out)); (case aS => exact (below_size (by repeat (first | (with_reducible first | exact HB.out | apply qa | apply qb | apply qc) | exact HB.out)))); (case aL => have := LMc23.out; omega); intro v189 w24 ho hb hg hat; rw [← Ny188.out] at ho; have n0_ := qf (Kd.V_afterv (ok := (fun k_ => (P0_ k_ ∨ w.heap.size ≤ k_))) (by (with_reducible repeat (first | apply Kd.V_alloc | apply Kd.V_drewN | apply Kd.V_drew)); exact HO_0.out) hg hat); have n1_ := qf (Kd.V_afterv (ok := (fun k_ => (P0_ k_ ∨ w.heap.size ≤ k_))) (by (with_reducible repeat (first | apply Kd.V_alloc | apply Kd.V_drewN | apply Kd.V_drew)); exact HO_31.out) hg hat); have n2_ := qf (hb); have n3_ := qf (ho); clear HO_0 HO_31 HB HO_9; have HO_0 := n0_; have HO_31 := n1_; have HB := n2_; have HO190 := n3_; clear n0_ n1_ n2_ n3_ ho hb hg hat))
           go_roundg k2
           case measure => have := HK1.out; have := HK2.out; omega
           case rel => exact ⟨(y188), (wrap64 (x33_2 + 1)), (by first | rfl | (simp; done) | (simp [*]; done)), H', ⟨by have := HK1.out; have := HK2.out; omega⟩, ⟨by (with_reducible repeat (first | apply Kd.V_alloc | apply Kd.V_drewN | apply Kd.V_drew)); exact HO_0.out⟩, ⟨by (with_reducible repeat (first | apply Kd.R_alloc | apply Kd.R_drewN | apply Kd.R_drew)); exact HO190.out⟩, ⟨by (with_reducible repeat (first | apply Kd.V_alloc | apply Kd.V_drewN | apply Kd.V_drew)); exact HO_31.out⟩, ⟨by repeat (first | (with_reducible first | exact HB.out | apply qa | apply qb | apply qc) | exact HB.out)⟩⟩
          ·rw [if_neg c23] at H; exact absurd H (by simp)
         ·rw [if_neg c22] at H; exact absurd H (by simp)
        ·rw [if_neg c21] at H; exact absurd H (by simp)
       ·rw [if_neg c20] at H; exact absurd H (by simp)
      ·rw [if_neg c19] at H; have c19b0 := decide_eq_false c19; clear c19; obtain rfl := Option.some.inj H; go_wp2; go_ret; exact ⟨_, by first | rfl | (simp [errW_none, errW_some] <;> rfl) | (simp [*, errW_none, errW_some] <;> rfl), by (with_reducible repeat (first | apply Kd.R_alloc | apply Kd.R_drewN | apply Kd.R_drew)); exact HO_9.out, by repeat (first | (with_reducible first | exact HB.out | apply qa | apply qb | apply qc) | exact HB.out)⟩
/-! ### saltusref03_Sum: function 41 -/
mutual
def saltusref03_Sum.l0 : Nat → List Int → ByteArray → Int → Option (ByteArray)
 | 0, _, _, _ => none
 | k + 1, x3, x4, x5 => if x5 < (x4.size : Int) then (if 0 ≤ x5 then (if x5 ≤ (wrap64 (x5 + 64)) then (if (wrap64 (x5 + 64)) ≤ (x4.size : Int) then ((saltusref03_Mix.f k x3 (x4.extract (x5 : Int).toNat ((wrap64 (x5 + 64)) : Int).toNat)).bind fun t195 => (saltusref03_Sum.l0 k t195 x4 (wrap64 (x5 + 64)))) else (none)) else (none)) else (none)) else (saltusref03_Sum.l1 k (⟨#[]⟩ : ByteArray) x3 (x3.length : Int) 0)
def saltusref03_Sum.l1 : Nat → ByteArray → List Int → Int → Int → Option (ByteArray)
 | 0, _, _, _, _ => none
 | k + 1, x6, x25, x26, x27 => if x27 < x26 then (if 0 ≤ x27 then (if x27 < (x25.length : Int) then ((saltusref03_high.f k (IntKind.u64.wrap (rd x25 x27)) 4).bind fun t199 => (if x6.size + t199.size ≤ 9223372036854775807 then (saltusref03_Sum.l1 k (x6 ++ t199) x25 x26 (wrap64 (x27 + 1))) else (none))) else (none)) else (none)) else (some x6)
end
def saltusref03_Sum.f (k : Nat) (a0 : ByteArray) : Option (ByteArray) := (saltusref03_Start.f).bind fun t191 => ((saltusref03_Pad.f k a0).bind fun t194 => (saltusref03_Sum.l0 k t191 t194 0))
set_option maxHeartbeats 8000000 in
set_option maxRecDepth 100000 in
theorem saltusref03_Sum.calls (k : Nat) (a0 : ByteArray) (r : ByteArray) (w : World) (h : saltusref03_Sum.f k a0 = some r) :
  Calls Tryz.prog 41 #[.string a0] w fun e w' => e = .returned (.string r) ∧ Below w.heap.size w w' := by
 have HB := qf (Below.refl w.heap.size w); have H : ((saltusref03_Start.f).bind fun t191 => ((saltusref03_Pad.f k a0).bind fun t194 => (saltusref03_Sum.l0 k t191 t194 0))) = some r := h; clear h; replace H := qi H; obtain ⟨t191, A20, H⟩ := H
 (try dsimp only at H)
 have A2 := qf A20; clear A20; replace H := qi H; obtain ⟨t194, A30, H⟩ := H
 (try dsimp only at H)
 have A3 := qf A30; clear A30; have H' := qf H; clear H
 go_enter Tryz.func41, Tryz.ntmps41
 go_wp2_with (first | ((with_reducible refine gate_callee (f := 60) rfl ?_); refine goesL_ (some 9) rfl rfl Tryz.func60 (by kernel_rfl) rfl #[] rfl (by (try simp only [List.map_toArray, List.map_cons, List.map_nil]); first | done | rfl | (simp only [List.length_drop, qw]; rfl)) ?_; (with_reducible refine (saltusref03_Start.calls  t191 _ A2.out).mono ?_); rintro e w4 ⟨v192, rfl, ho0, hb⟩; refine ⟨_, rfl, ?_⟩; have n0_ := qf (Kd.R_lower ho0 (below_size (by repeat (first | (with_reducible first | exact HB.out | apply qa | apply qb | apply qc) | exact HB.out)))); have n1_ := qf (below_step (by repeat (first | (with_reducible first | exact HB.out | apply qa | apply qb | apply qc) | exact HB.out)) hb); clear HB; have HO193 := n0_; have HB := n1_; clear n0_ n1_; (try clear hb); (try clear ho0)) | ((with_reducible refine gate_callee (f := 61) rfl ?_); refine goesL_ (some 11) rfl rfl Tryz.func61 (by kernel_rfl) rfl #[.string a0] rfl (by (try simp only [List.map_toArray, List.map_cons, List.map_nil]); first | done | rfl | (simp only [List.length_drop, qw]; rfl)) ?_; (with_reducible refine (saltusref03_Pad.calls k a0 t194 _ A3.out).mono ?_); rintro e w5 ⟨rfl, hb⟩; refine ⟨_, rfl, ?_⟩; have n0_ := qf (Kd.R_below (by (with_reducible repeat (first | apply Kd.R_alloc | apply Kd.R_drewN | apply Kd.R_drew)); exact HO193.out) hb); have n1_ := qf (below_step (by repeat (first | (with_reducible first | exact HB.out | apply qa | apply qb | apply qc) | exact HB.out)) hb); clear HO193 HB; have HO193 := n0_; have HB := n1_; clear n0_ n1_; (try clear hb); (try clear hi)))
 go_loopg [3, 5] k (fun kq v3 v5 w' => ∃ (x3_1 : List Int) (x5_1 : Int), v5 = .int .i64 x5_1 ∧ Aside0 (saltusref03_Sum.l0 kq x3_1 t194 x5_1 = some r) ∧ Aside0 (kq ≤ k) ∧ Aside0 (Kd.R (Kd.int .u32) 89 w' w.heap.size (fun _ => True) v3 x3_1) ∧ Aside0 (Below w.heap.size w w'))
 case atStart => exact ⟨(t191), (0), (by first | rfl | (simp; done) | (simp [*]; done)), H', ⟨Nat.le_refl _⟩, ⟨by (with_reducible repeat (first | apply Kd.R_alloc | apply Kd.R_drewN | apply Kd.R_drew)); exact HO193.out⟩, ⟨by repeat (first | (with_reducible first | exact HB.out | apply qa | apply qb | apply qc) | exact HB.out)⟩⟩
 case round =>
  clear H'; (try clear p2); (try clear c4); obtain ⟨x3_1, x5_1, rfl, HA, HK1, HO_3, HB⟩ := hrel
  cases gk with
  | zero => exact absurd HA.out (by simp [saltusref03_Sum.l0])
  | succ k1 =>
   have H := HA.out; clear HA; simp only [saltusref03_Sum.l0] at H
   by_cases c6 : x5_1 < (t194.size : Int)
   ·rw [if_pos c6] at H; have c6b0 := qj c6; clear c6
    by_cases c7 : 0 ≤ x5_1
    ·rw [if_pos c7] at H; have c7b0 := eq_true c7; have c7b1 := qj c7; clear c7
     by_cases c8 : x5_1 ≤ (wrap64 (x5_1 + 64))
     ·rw [if_pos c8] at H; have c8b0 := eq_true c8; have c8b1 := qj c8
      by_cases c9 : (wrap64 (x5_1 + 64)) ≤ (t194.size : Int)
      ·rw [if_pos c9] at H; have c9b0 := eq_true c9; have c9b1 := qj c9; replace H := qi H; obtain ⟨t195, A100, H⟩ := H
       (try dsimp only at H)
       have A10 := qf A100; clear A100; have H' := qf H; clear H; obtain ⟨Ao11, co11, eo11⟩ := Kd.R_slice HO_3.out; subst eo11
       go_wp2_with (first | ((with_reducible refine gate_callee (f := 62) rfl ?_); refine goesL_ (some 24) rfl rfl Tryz.func62 (by kernel_rfl) rfl #[.slice Ao11 x3_1.length co11, .string (t194.extract (x5_1 : Int).toNat ((wrap64 (x5_1 + 64)) : Int).toNat)] rfl (by (try simp only [List.map_toArray, List.map_cons, List.map_nil]); first | done | rfl | (simp only [List.length_drop, qw]; rfl)) ?_; (with_reducible refine (saltusref03_Mix.calls k1 (fun k_ => some k_ = (.slice Ao11 x3_1.length co11 : Value).ownBlock) _ _ x3_1 (t194.extract (x5_1 : Int).toNat ((wrap64 (x5_1 + 64)) : Int).toNat) t195 _ ?side1 A10.out).mono ?_); (case side1 => exact Kd.R_V (Kd.R_tight rfl (HO_3.out))); rintro e w12 ⟨v196, rfl, ho0, hb⟩; refine ⟨_, rfl, ?_⟩; have n0_ := qf (Kd.R_elder' (by (with_reducible repeat (first | apply Kd.R_alloc | apply Kd.R_drewN | apply Kd.R_drew)); exact HO_3.out) (Kd.R_base ho0) hb); have n1_ := qf (Kd.R_lower (Kd.R_new' (Kd.R_mono (ok' := fun k_ => True) ho0 (fun _ hk_ => trivial)) (Kd.R_lt (by (with_reducible repeat (first | apply Kd.R_alloc | apply Kd.R_drewN | apply Kd.R_drew)); exact HO_3.out))) (below_size (by repeat (first | (with_reducible first | exact HB.out | apply qa | apply qb | apply qc) | exact HB.out)))); have n2_ := qf (below_step (by repeat (first | (with_reducible first | exact HB.out | apply qa | apply qb | apply qc) | exact HB.out)) hb); clear HO_3 HB; have HO_3 := n0_; have HO197 := n1_; have HB := n2_; clear n0_ n1_ n2_; (try clear hb); (try clear ho0)))
       go_roundg k1
       case measure => have := HK1.out; omega
       case rel => exact ⟨(t195), (wrap64 (x5_1 + 64)), (by first | rfl | (simp; done) | (simp [*]; done)), H', ⟨by have := HK1.out; omega⟩, ⟨by (with_reducible repeat (first | apply Kd.R_alloc | apply Kd.R_drewN | apply Kd.R_drew)); exact Kd.R_mono HO197.out (fun _ hk => trivial)⟩, ⟨by repeat (first | (with_reducible first | exact HB.out | apply qa | apply qb | apply qc) | exact HB.out)⟩⟩
      ·rw [if_neg c9] at H; exact absurd H (by simp)
     ·rw [if_neg c8] at H; exact absurd H (by simp)
    ·rw [if_neg c7] at H; exact absurd H (by simp)
   ·rw [if_neg c6] at H; have c6b0 := decide_eq_false c6; clear c6; have H' := qf H; clear H; obtain ⟨Ao13, co13, eo13⟩ := Kd.R_slice HO_3.out; subst eo13; go_wp2
    go_loopg [6, 27] k1 (fun kq v6 v27 w' => ∃ (x6_2 : ByteArray) (x27_2 : Int), v6 = .string x6_2 ∧ v27 = .int .i64 x27_2 ∧ Aside0 (saltusref03_Sum.l1 kq x6_2 x3_1 (x3_1.length : Int) x27_2 = some r) ∧ Aside0 (kq ≤ k1) ∧ Aside0 (Kd.R (Kd.int .u32) 89 w' w.heap.size (fun _ => True) (.slice Ao13 x3_1.length co13) x3_1) ∧ Aside0 (Below w.heap.size w w'))
    case atStart => exact ⟨((⟨#[]⟩ : ByteArray)), (0), (by first | rfl | (simp; done) | (simp [*]; done)), (by first | rfl | (simp; done) | (simp [*]; done)), H', ⟨Nat.le_refl _⟩, ⟨by (with_reducible repeat (first | apply Kd.R_alloc | apply Kd.R_drewN | apply Kd.R_drew)); exact HO_3.out⟩, ⟨by repeat (first | (with_reducible first | exact HB.out | apply qa | apply qb | apply qc) | exact HB.out)⟩⟩
    case round =>
     clear H'; (try clear p2); (try clear c4); (try clear c6); (try clear c6b0); (try clear p6); (try clear c7); (try clear c7b0); (try clear c7b1); (try clear c8); (try clear c8b0); (try clear c8b1); (try clear c9); (try clear c9b0); (try clear c9b1); (try clear p2); obtain ⟨x6_2, x27_2, rfl, rfl, HA, HK2, HO_25, HB⟩ := hrel
     cases gk with
     | zero => exact absurd HA.out (by simp [saltusref03_Sum.l1])
     | succ k2 =>
      have H := HA.out; clear HA; simp only [saltusref03_Sum.l1] at H
      by_cases c14 : x27_2 < (x3_1.length : Int)
      ·rw [if_pos c14] at H; have c14b0 := qj c14; clear c14
       by_cases c15 : 0 ≤ x27_2
       ·rw [if_pos c15] at H; have c15b0 := qj c15; clear c15
        by_cases c16 : x27_2 < (x3_1.length : Int)
        ·rw [if_pos c16] at H; have c16b0 := qj c16; clear c16; replace H := qi H; obtain ⟨t199, A170, H⟩ := H
         (try dsimp only at H)
         have A17 := qf A170; clear A170
         by_cases c18 : x6_2.size + t199.size ≤ 9223372036854775807
         ·rw [if_pos c18] at H; have c18b0 := eq_true c18; have c18b1 := qj c18
          try have c18b2 : (9223372036854775807 < x6_2.size + t199.size) = False := eq_false (Nat.not_lt.2 c18)
          have H' := qf H; clear H; have p198 : 0 ≤ (x27_2 : Int) := qe (by with_reducible assumption); have q198 : x27_2 < (x3_1.length : Int) := qe (by with_reducible assumption); obtain ⟨ad198, e198, hx198_0⟩ := Kd.at_int (Kd.R_reads' HO_25.out).2.2 x27_2 p198 q198; cases e198; replace p198 := eq_true p198; replace q198 := eq_true q198
          go_wp2_with (first | ((with_reducible refine gate_callee (f := 63) rfl ?_); refine goesL_ (some 34) rfl rfl Tryz.func63 (by kernel_rfl) rfl #[.int .u64 (IntKind.u64.wrap (rd x3_1 x27_2)), .int .i64 4] rfl (by (try simp only [List.map_toArray, List.map_cons, List.map_nil]); first | done | rfl | (simp only [List.length_drop, qw]; rfl)) ?_; (with_reducible refine (saltusref03_high.calls k2 (IntKind.u64.wrap (rd x3_1 x27_2)) 4 t199 _ A17.out).mono ?_); rintro e w19 ⟨rfl, hb⟩; refine ⟨_, rfl, ?_⟩; have n0_ := qf (Kd.R_below (by (with_reducible repeat (first | apply Kd.R_alloc | apply Kd.R_drewN | apply Kd.R_drew)); exact HO_25.out) hb); have n1_ := qf (below_step (by repeat (first | (with_reducible first | exact HB.out | apply qa | apply qb | apply qc) | exact HB.out)) hb); clear HO_25 HB; have HO_25 := n0_; have HB := n1_; clear n0_ n1_; (try clear hb); (try clear hi)))
          go_roundg k2
          case measure => have := HK1.out; have := HK2.out; omega
          case rel => exact ⟨(x6_2 ++ t199), (wrap64 (x27_2 + 1)), (by first | rfl | (simp; done) | (simp [*]; done)), (by first | rfl | (simp; done) | (simp [*]; done)), H', ⟨by have := HK1.out; have := HK2.out; omega⟩, ⟨by (with_reducible repeat (first | apply Kd.R_alloc | apply Kd.R_drewN | apply Kd.R_drew)); exact HO_25.out⟩, ⟨by repeat (first | (with_reducible first | exact HB.out | apply qa | apply qb | apply qc) | exact HB.out)⟩⟩
         ·rw [if_neg c18] at H; exact absurd H (by simp)
        ·rw [if_neg c16] at H; exact absurd H (by simp)
       ·rw [if_neg c15] at H; exact absurd H (by simp)
      ·rw [if_neg c14] at H; have c14b0 := decide_eq_false c14; clear c14; obtain rfl := Option.some.inj H; go_wp2; go_ret; exact ⟨by first | rfl | (simp [errW_none, errW_some] <;> rfl) | (simp [*, errW_none, errW_some] <;> rfl), by repeat (first | (with_reducible first | exact HB.out | apply qa | apply qb | apply qc) | exact HB.out)⟩
end Go.Proofs.YtolbhliepkcihaaGreatDoor.QR
end
section
namespace Go.Proofs.YtolbhliepkcihaaGreatDoor.Sha
open Go.RowKit QR YtolbhliepkcihaaGreatDoorW.PrintWords YtolbhliepkcihaaGreatDoorW.PrintLast YtolbhliepkcihaaGreatDoorW.PrintMore
def ints (l : List Nat) : List Int := l.map fun (n : Nat) => (n : Int)
theorem ints_length (l : List Nat) : (ints l).length = l.length := by simp [ints]
theorem ints_snoc (l : List Nat) (n : Nat) : ints l ++ [(n : Int)] = ints (l ++ [n]) := by simp [ints]
theorem rd_ints (l : List Nat) (i : Nat) : rd (ints l) (i : Int) = ((l.getD i 0 : Nat) : Int) := by
 unfold rd ints; rw [Int.toNat_natCast, List.getD_eq_getElem?_getD, List.getElem?_map, List.getD_eq_getElem?_getD]
 cases l[i]? <;> rfl
theorem ofNats_eq (l : List Nat) : strOfNums (ints l) = ofNats l := by
 unfold strOfNums ofNats ints
 congr 2
 rw [List.map_map]
 exact List.map_congr_left fun n _ => by simp
theorem bt_bn (s : ByteArray) (i : Nat) : bt s (i : Int) = ((bn s i : Nat) : Int) := by
 unfold bt bn
 by_cases h : i < s.size
 ·rw [dif_pos (by simpa using h), dif_pos h]; rfl
 ·rw [dif_neg (by simpa using h), dif_neg h]; rfl
theorem bn_lt (s : ByteArray) (i : Nat) : bn s i < 256 := by
 unfold bn
 split
 ·exact UInt8.toNat_lt _
 ·decide
theorem wr1 (i : Nat) (h : i < 2 ^ 60) : wrap64 ((i : Int) + 1) = ((i + 1 : Nat) : Int) := by unfold wrap64; omega
theorem xor_lt {a b : Nat} (ha : a < 4294967296) (hb : b < 4294967296) : a ^^^ b < 4294967296 := Nat.xor_lt_two_pow (n := 32) ha hb
theorem or_lt {a b : Nat} (ha : a < 4294967296) (hb : b < 4294967296) : a ||| b < 4294967296 := Nat.or_lt_two_pow (n := 32) ha hb
theorem and_lt {a b : Nat} (ha : a < 4294967296) : a &&& b < 4294967296 := Nat.lt_of_le_of_lt Nat.and_le_left ha
theorem rr_lt {w n : Nat} (hw : w < 4294967296) : rr w n < 4294967296 := or_lt (Nat.lt_of_le_of_lt (Nat.div_le_self _ _) hw) (Nat.mod_lt _ (by decide))
theorem shr32 (n r : Nat) (hr : r ≤ 32) : shr .u32 (n : Int) (r : Int) = ((n / 2 ^ r : Nat) : Int) := by
 unfold shr
 have hm : min (r : Int).toNat IntKind.u32.bits = r := by rw [Int.toNat_natCast]; show min r 32 = r; omega
 rw [hm]; norm_cast
theorem shl32 (n r : Nat) (hr : r ≤ 32) : shl .u32 (n : Int) (r : Int) = ((n * 2 ^ r % M : Nat) : Int) := by
 unfold shl
 have hm : min (r : Int).toNat IntKind.u32.bits = r := by rw [Int.toNat_natCast]; show min r 32 = r; omega
 rw [hm, IntKind.wrap_u32]; have e : (4294967296 : Int) = ((M : Nat) : Int) := rfl; rw [e]
 norm_cast
theorem refror (n r : Nat) (hn : n < 4294967296) (hr : r ≤ 32) : saltusref03_ror.f (n : Int) (r : Int) = some ((rr n r : Nat) : Int) := by
 unfold saltusref03_ror.f
 have e : ((32 : Int) - (r : Int)) % 4294967296 = ((32 - r : Nat) : Int) := by omega
 rw [if_pos (by omega), e, shr32 n r hr, shl32 n (32 - r) (by omega)]; have h1 : n / 2 ^ r < 4294967296 := Nat.lt_of_le_of_lt (Nat.div_le_self _ _) hn; have h2 : n * 2 ^ (32 - r) % M < 4294967296 := Nat.mod_lt _ (by decide); rw [u32_or_nat _ _ h1 h2]; rfl
theorem div_lt {w n : Nat} (h : w < 4294967296) : w / n < 4294967296 := Nat.lt_of_le_of_lt (Nat.div_le_self _ _) h
/-! words -/
theorem moreW_succ : ∀ (n : Nat) (w : List Nat), moreW (n + 1) w = moreW n w ++ [nextW (moreW n w) (moreW n w).length]
 | 0, w => rfl
 | n + 1, w => by
  show moreW (n + 1) (w ++ [nextW w w.length]) = _
  rw [moreW_succ n]; rfl
theorem moreW_length : ∀ (n : Nat) (w : List Nat), (moreW n w).length = w.length + n
 | 0, _ => rfl
 | n + 1, w => by rw [moreW, moreW_length n]; simp; omega
def wordsTo (s : ByteArray) (t : Nat) : List Nat := if t ≤ 16 then (List.range t).map (word s) else moreW (t - 16) ((List.range 16).map (word s))
theorem wordsTo_length (s : ByteArray) (t : Nat) : (wordsTo s t).length = t := by
 unfold wordsTo
 split
 ·simp
 ·rw [moreW_length]; simp; omega
theorem wordsTo_low (s : ByteArray) (t : Nat) (h : t < 16) : wordsTo s (t + 1) = wordsTo s t ++ [word s t] := by
 unfold wordsTo; rw [if_pos (by omega), if_pos (by omega), List.range_succ, List.map_append]; rfl
theorem wordsTo_high (s : ByteArray) (t : Nat) (h : 16 ≤ t) : wordsTo s (t + 1) = wordsTo s t ++ [nextW (wordsTo s t) t] := by
 have e : wordsTo s t = moreW (t - 16) ((List.range 16).map (word s)) := by
  unfold wordsTo
  by_cases h2 : t ≤ 16
  ·obtain rfl : t = 16 := by omega
   rfl
  ·rw [if_neg h2]
 have hl := wordsTo_length s t
 have e2 : wordsTo s (t + 1) = moreW (t - 16 + 1) ((List.range 16).map (word s)) := by
  unfold wordsTo; rw [if_neg (by omega), show t + 1 - 16 = t - 16 + 1 by omega]
 rw [e2, moreW_succ, ← e, hl]
theorem wordsTo_all (s : ByteArray) : wordsTo s 64 = words s := rfl
theorem word_lt (s : ByteArray) (t : Nat) : word s t < 4294967296 := by
 unfold word; have h0 := bn_lt s (4 * t); have h1 := bn_lt s (4 * t + 1); have h2 := bn_lt s (4 * t + 2); have h3 := bn_lt s (4 * t + 3)
 omega
theorem getD_left (l : List Nat) (x i : Nat) (h : i < l.length) : (l ++ [x]).getD i 0 = l.getD i 0 := by
 rw [List.getD_eq_getElem?_getD, List.getElem?_append_left h, List.getD_eq_getElem?_getD]
theorem getD_last (l : List Nat) (x i : Nat) (h : l.length = i) : (l ++ [x]).getD i 0 = x := by
 subst h; rw [List.getD_eq_getElem?_getD, List.getElem?_append_right (Nat.le_refl _), Nat.sub_self]; rfl
theorem getD_all {P : Nat → Prop} (h0 : P 0) : ∀ (l : List Nat), (∀ x ∈ l, P x) → ∀ i, P (l.getD i 0) := fun l hl i => by
 rw [List.getD_eq_getElem?_getD]
 cases h : l[i]? with
 | none => exact h0
 | some x => exact hl x (List.mem_of_getElem? h)
theorem wordsTo_lt (s : ByteArray) : ∀ t, ∀ x ∈ wordsTo s t, x < 4294967296
 | 0 => by simp [wordsTo]
 | t + 1 => by
  intro x hx
  by_cases h : t < 16
  ·rw [wordsTo_low s t h] at hx
   rcases List.mem_append.1 hx with h1 | h1
   ·exact wordsTo_lt s t x h1
   ·rw [List.mem_singleton.1 h1]; exact word_lt s t
  ·rw [wordsTo_high s t (by omega)] at hx
   rcases List.mem_append.1 hx with h1 | h1
   ·exact wordsTo_lt s t x h1
   ·rw [List.mem_singleton.1 h1]; exact Nat.mod_lt _ (by decide)
theorem at_lt (s : ByteArray) (t i : Nat) : (wordsTo s t).getD i 0 < 4294967296 := getD_all (P := (· < 4294967296)) (by decide) _ (wordsTo_lt s t) i
theorem wordN_lt (s : ByteArray) (i : Nat) : wordN s i < 4294967296 := at_lt s 64 i
theorem wordsTo_get (s : ByteArray) (i : Nat) : ∀ t, i < t → t ≤ 64 → (wordsTo s t).getD i 0 = wordN s i := by
 intro t hi ht
 have key : ∀ d, t + d ≤ 64 → (wordsTo s (t + d)).getD i 0 = (wordsTo s t).getD i 0 := by
  intro d
  induction d with
  | zero => intro _; rfl
  | succ d ih =>
   intro hd; have hl := wordsTo_length s (t + d)
   have e : ∃ x, wordsTo s (t + d + 1) = wordsTo s (t + d) ++ [x] := by
    by_cases h : t + d < 16
    ·exact ⟨_, wordsTo_low s _ h⟩
    ·exact ⟨_, wordsTo_high s _ (by omega)⟩
   obtain ⟨x, e⟩ := e; rw [← Nat.add_assoc, e, getD_left _ _ _ (by omega)]; exact ih (by omega)
 have := key (64 - t) (by omega); rw [show t + (64 - t) = 64 by omega] at this; rw [← this]; rfl
theorem wordN_low (s : ByteArray) (t : Nat) (h : t < 16) : wordN s t = word s t := by
 rw [← wordsTo_get s t (t + 1) (by omega) (by omega), wordsTo_low s t h, getD_last _ _ _ (wordsTo_length s t)]
theorem wordN_high (s : ByteArray) (t : Nat) (h : 16 ≤ t) (h2 : t < 64) : wordN s t = (sig1 (wordN s (t - 2)) + wordN s (t - 7) + sig0 (wordN s (t - 15)) + wordN s (t - 16)) % M := by
 rw [← wordsTo_get s t (t + 1) (by omega) (by omega), wordsTo_high s t h, getD_last _ _ _ (wordsTo_length s t)]
 show nextW (wordsTo s t) t = _
 unfold nextW; rw [wordsTo_get s (t - 2) t (by omega) (by omega), wordsTo_get s (t - 7) t (by omega) (by omega), wordsTo_get s (t - 15) t (by omega) (by omega), wordsTo_get s (t - 16) t (by omega) (by omega)]
theorem sub64 (t k : Nat) (h : k ≤ t) (ht : t < 2 ^ 60) : wrap64 ((t : Int) - (k : Int)) = ((t - k : Nat) : Int) := by unfold wrap64; omega
set_option maxHeartbeats 2000000 in
theorem refwords_l0 (s : ByteArray) (hs : s.size = 64) (d : Nat) : ∀ (k t : Nat), d + t = 64 → d < k → saltusref03_words.l0 k s (ints (wordsTo s t)) (t : Int) = some (ints (words s)) := by
 induction d with
 | zero =>
  intro k t ht hk
  obtain ⟨k, rfl⟩ : ∃ m, k = m + 1 := ⟨k - 1, by omega⟩
  obtain rfl : t = 64 := by omega
  simp only [saltusref03_words.l0]; rw [if_neg (by omega)]; rfl
 | succ d ih =>
  intro k t ht hk
  obtain ⟨k, rfl⟩ : ∃ m, k = m + 1 := ⟨k - 1, by omega⟩
  have hl : (ints (wordsTo s t)).length = t := by rw [ints_length, wordsTo_length]
  simp only [saltusref03_words.l0]; rw [if_pos (by omega), hl]
  by_cases h : t < 16
  ·have e0 : wrap64 (4 * (t : Int)) = ((4 * t : Nat) : Int) := by unfold wrap64; omega
   have e1 : wrap64 (((4 * t : Nat) : Int) + 1) = ((4 * t + 1 : Nat) : Int) := by unfold wrap64; omega
   have e2 : wrap64 (((4 * t : Nat) : Int) + 2) = ((4 * t + 2 : Nat) : Int) := by unfold wrap64; omega
   have e3 : wrap64 (((4 * t : Nat) : Int) + 3) = ((4 * t + 3 : Nat) : Int) := by unfold wrap64; omega
   rw [if_pos (by omega), e0, e1, e2, e3, if_pos (by omega), if_pos (by omega), if_pos (by omega), if_pos (by omega), if_pos (by omega), if_pos (by omega), if_pos (by omega), if_pos (by omega), if_pos (by omega), wr1 t (by omega)]; rw [bt_bn, bt_bn, bt_bn, bt_bn]; have b0 := bn_lt s (4 * t); have b1 := bn_lt s (4 * t + 1); have b2 := bn_lt s (4 * t + 2); have b3 := bn_lt s (4 * t + 3)
   have e : ((((((((((bn s (4 * t) : Nat) : Int)) % 4294967296) * 16777216) % 4294967296) + (((((bn s (4 * t + 1) : Nat) : Int)) % 4294967296) * 65536) % 4294967296) % 4294967296) + (((((bn s (4 * t + 2) : Nat) : Int)) % 4294967296) * 256) % 4294967296) % 4294967296 + (((bn s (4 * t + 3) : Nat) : Int)) % 4294967296) % 4294967296 = ((word s t : Nat) : Int) := by
    unfold word
    omega
   rw [e, ints_snoc, ← wordsTo_low s t h]; exact ih k (t + 1) (by omega) (by omega)
  ·have e15 := sub64 t 15 (by omega) (by omega); have e2 := sub64 t 2 (by omega) (by omega); have e7 := sub64 t 7 (by omega) (by omega); have e16 := sub64 t 16 (by omega) (by omega); rw [show ((15 : Nat) : Int) = 15 from rfl] at e15; rw [show ((2 : Nat) : Int) = 2 from rfl] at e2; rw [show ((7 : Nat) : Int) = 7 from rfl] at e7; rw [show ((16 : Nat) : Int) = 16 from rfl] at e16; rw [if_neg (by omega), e15, e2, e7, e16, wr1 t (by omega), rd_ints, rd_ints, rd_ints, rd_ints]; have l15 := at_lt s t (t - 15); have l2 := at_lt s t (t - 2); have l7 := at_lt s t (t - 7); have l16 := at_lt s t (t - 16); have hn : nextW (wordsTo s t) t = (sig1 ((wordsTo s t).getD (t - 2) 0) + (wordsTo s t).getD (t - 7) 0 + sig0 ((wordsTo s t).getD (t - 15) 0) + (wordsTo s t).getD (t - 16) 0) % M := rfl; have hw := wordsTo_high s t (by omega); rw [hn] at hw; have hih := ih k (t + 1) (by omega) (by omega); rw [hw] at hih; clear hw hn ih; generalize (wordsTo s t).getD (t - 15) 0 = a at *; generalize (wordsTo s t).getD (t - 2) 0 = b at *; generalize (wordsTo s t).getD (t - 7) 0 = c at *; generalize (wordsTo s t).getD (t - 16) 0 = e at *; have r7 := refror a 7 l15 (by decide); have r18 := refror a 18 l15 (by decide); have r17 := refror b 17 l2 (by decide); have r19 := refror b 19 l2 (by decide); rw [show ((7 : Nat) : Int) = 7 from rfl] at r7; rw [show ((18 : Nat) : Int) = 18 from rfl] at r18; rw [show ((17 : Nat) : Int) = 17 from rfl] at r17; rw [show ((19 : Nat) : Int) = 19 from rfl] at r19; rw [r7, r18, r17, r19]; simp only [qv]; rw [if_pos (by omega), if_pos (by omega), if_pos (by omega), if_pos (by omega), if_pos (by omega), if_pos (by omega), if_pos (by omega), if_pos (by omega), if_pos (by omega)]
   have q1 : ((b : Int) / 1024) = ((b / 1024 : Nat) : Int) := by omega
   have q2 : ((a : Int) / 8) = ((a / 8 : Nat) : Int) := by omega
   rw [q1, q2, u32_xor_nat _ _ (rr_lt l2) (rr_lt l2), u32_xor_nat _ _ (xor_lt (rr_lt l2) (rr_lt l2)) (div_lt l2), u32_xor_nat _ _ (rr_lt l15) (rr_lt l15), u32_xor_nat _ _ (xor_lt (rr_lt l15) (rr_lt l15)) (div_lt l15)]; have hx : ((rr b 17 ^^^ rr b 19) ^^^ b / 1024) = sig1 b := rfl; have hy : ((rr a 7 ^^^ rr a 18) ^^^ a / 8) = sig0 a := rfl; rw [hx, hy]
   have hz : (((((sig1 b : Nat) : Int) + (c : Int)) % 4294967296 + ((sig0 a : Nat) : Int)) % 4294967296 + (e : Int)) % 4294967296 = (((sig1 b + c + sig0 a + e) % M : Nat) : Int) := by
    unfold M
    omega
   rw [hz, ints_snoc]; exact hih
theorem refwords_eq (k : Nat) (s : ByteArray) (hs : s.size = 64) (hk : 64 < k) : saltusref03_words.f k s = some (ints (words s)) := by
 have := refwords_l0 s hs 64 k 0 rfl hk; exact this
/-! a round -/
structure St.Ok (s : St) : Prop where
 a : s.a < 4294967296
 b : s.b < 4294967296
 c : s.c < 4294967296
 d : s.d < 4294967296
 e : s.e < 4294967296
 f : s.f < 4294967296
 g : s.g < 4294967296
 h : s.h < 4294967296
theorem Ok.round {s : St} (h : s.Ok) (k w : Nat) : (roundS s k w).Ok :=
 ⟨Nat.mod_lt _ (by decide), h.a, h.b, h.c, Nat.mod_lt _ (by decide), h.e, h.f, h.g⟩
theorem Ok.rounds {s : St} (h : s.Ok) (W : Nat → Nat) : ∀ t, (rounds W s t).Ok
 | 0 => h
 | t + 1 => Ok.round (Ok.rounds h W t) _ _
theorem Ok.add (s t : St) : (addS s t).Ok := ⟨Nat.mod_lt _ (by decide), Nat.mod_lt _ (by decide), Nat.mod_lt _ (by decide), Nat.mod_lt _ (by decide), Nat.mod_lt _ (by decide), Nat.mod_lt _ (by decide), Nat.mod_lt _ (by decide), Nat.mod_lt _ (by decide)⟩
theorem Ok.start : start.Ok := ⟨by decide, by decide, by decide, by decide, by decide, by decide, by decide, by decide⟩
theorem Ok.go (p : ByteArray) : ∀ i, (goS p i).Ok
 | 0 => Ok.start
 | _ + 1 => Ok.add _ _
set_option maxHeartbeats 2000000 in
theorem refround_eq (s : St) (h : s.Ok) (k w : Nat) : saltusref03_round.f (ints s.list) (k : Int) (w : Int) = some (ints (roundS s k w).list) := by
 obtain ⟨a, b, c, d, e, f, g, i⟩ := s; obtain ⟨ha, hb, hc, hd, he, hf, hg, hi⟩ := h; simp only at ha hb hc hd he hf hg hi; unfold saltusref03_round.f; have hl : ((ints (St.list ⟨a, b, c, d, e, f, g, i⟩)).length : Int) = 8 := rfl; have r6 := refror e 6 he (by decide); have r11 := refror e 11 he (by decide); have r25 := refror e 25 he (by decide); have r2 := refror a 2 ha (by decide); have r13 := refror a 13 ha (by decide); have r22 := refror a 22 ha (by decide); rw [show ((6 : Nat) : Int) = 6 from rfl] at r6; rw [show ((11 : Nat) : Int) = 11 from rfl] at r11; rw [show ((25 : Nat) : Int) = 25 from rfl] at r25; rw [show ((2 : Nat) : Int) = 2 from rfl] at r2; rw [show ((13 : Nat) : Int) = 13 from rfl] at r13; rw [show ((22 : Nat) : Int) = 22 from rfl] at r22; have d0 : rd (ints (St.list ⟨a, b, c, d, e, f, g, i⟩)) 0 = (a : Int) := rfl; have d1 : rd (ints (St.list ⟨a, b, c, d, e, f, g, i⟩)) 1 = (b : Int) := rfl; have d2 : rd (ints (St.list ⟨a, b, c, d, e, f, g, i⟩)) 2 = (c : Int) := rfl; have d3 : rd (ints (St.list ⟨a, b, c, d, e, f, g, i⟩)) 3 = (d : Int) := rfl; have d4 : rd (ints (St.list ⟨a, b, c, d, e, f, g, i⟩)) 4 = (e : Int) := rfl; have d5 : rd (ints (St.list ⟨a, b, c, d, e, f, g, i⟩)) 5 = (f : Int) := rfl; have d6 : rd (ints (St.list ⟨a, b, c, d, e, f, g, i⟩)) 6 = (g : Int) := rfl; have d7 : rd (ints (St.list ⟨a, b, c, d, e, f, g, i⟩)) 7 = (i : Int) := rfl; rw [hl, d0, d1, d2, d3, d4, d5, d6, d7]; clear hl d0 d1 d2 d3 d4 d5 d6 d7; rw [r6, r11, r25, r2, r13, r22]; simp only [qv]; rw [if_pos (by decide), if_pos (by decide), if_pos (by decide), if_pos (by decide), if_pos (by decide), if_pos (by decide), if_pos (by decide), if_pos (by decide)]
 have en : ((4294967295 : Int) - (e : Int)) % 4294967296 = ((4294967295 - e : Nat) : Int) := by omega
 rw [en, u32_xor_nat _ _ (rr_lt he) (rr_lt he), u32_xor_nat _ _ (xor_lt (rr_lt he) (rr_lt he)) (rr_lt he), u32_xor_nat _ _ (rr_lt ha) (rr_lt ha), u32_xor_nat _ _ (xor_lt (rr_lt ha) (rr_lt ha)) (rr_lt ha), u32_and_nat e f he hf, u32_and_nat (4294967295 - e) g (by omega) hg, u32_xor_nat _ _ (and_lt he) (and_lt (by omega)), u32_and_nat a b ha hb, u32_and_nat a c ha hc, u32_and_nat b c hb hc, u32_xor_nat _ _ (and_lt ha) (and_lt ha), u32_xor_nat _ _ (xor_lt (and_lt ha) (and_lt ha)) (and_lt hb)]; have q1 : (rr e 6 ^^^ rr e 11) ^^^ rr e 25 = big1 e := rfl; have q2 : (rr a 2 ^^^ rr a 13) ^^^ rr a 22 = big0 a := rfl; have q3 : (e &&& f) ^^^ ((4294967295 - e) &&& g) = ch e f g := rfl; have q4 : ((a &&& b) ^^^ (a &&& c)) ^^^ (b &&& c) = maj a b c := rfl; rw [q1, q2, q3, q4]; have hr : ints (roundS ⟨a, b, c, d, e, f, g, i⟩ k w).list = [((((i + big1 e + ch e f g + k + w) % M + (big0 a + maj a b c) % M) % M : Nat) : Int), (a : Int), (b : Int), (c : Int), (((d + (i + big1 e + ch e f g + k + w) % M) % M : Nat) : Int), (e : Int), (f : Int), (g : Int)] := rfl; rw [hr]; unfold M; generalize big1 e = x1; generalize ch e f g = x2; generalize big0 a = x3; generalize maj a b c = x4
 have z1 : ((((((i : Int) + (x1 : Int)) % 4294967296 + (x2 : Int)) % 4294967296 + (k : Int)) % 4294967296 + (w : Int)) % 4294967296 + ((x3 : Int) + (x4 : Int)) % 4294967296) % 4294967296 = (((i + x1 + x2 + k + w) % 4294967296 + (x3 + x4) % 4294967296) % 4294967296 : Nat) := by omega
 have z2 : ((d : Int) + (((((i : Int) + (x1 : Int)) % 4294967296 + (x2 : Int)) % 4294967296 + (k : Int)) % 4294967296 + (w : Int)) % 4294967296) % 4294967296 = ((d + (i + x1 + x2 + k + w) % 4294967296) % 4294967296 : Nat) := by omega
 rw [z1, z2]
end Go.Proofs.YtolbhliepkcihaaGreatDoor.Sha
end
section
namespace Go.Proofs.YtolbhliepkcihaaGreatDoor.Sha
open Go.RowKit QR Mem YtolbhliepkcihaaGreatDoorW.PrintWords YtolbhliepkcihaaGreatDoorW.PrintLast YtolbhliepkcihaaGreatDoorW.PrintMore
theorem sharor (n r : Nat) (hn : n < 4294967296) (h0 : r ≤ 32) (c1 : Go.bits .and .u64 (IntKind.u64.wrap (wrap64 (-(r : Int)))) 31 = ((32 - r : Nat) : Int)) (c2 : IntKind.u64.wrap (32 - ((32 - r : Nat) : Int)) = (r : Int)) : sha_ror.f (n : Int) (r : Int) = some ((rr n r : Nat) : Int) := by
 unfold sha_ror.f bits_RotateLeft32.f; rw [c1, c2, if_pos (by omega), if_pos (by omega), shl32 n (32 - r) (by omega), shr32 n r h0]; have h1 : n / 2 ^ r < 4294967296 := Nat.lt_of_le_of_lt (Nat.div_le_self _ _) hn; have h2 : n * 2 ^ (32 - r) % M < 4294967296 := Nat.mod_lt _ (by decide); rw [u32_or_nat _ _ h2 h1, Nat.or_comm]; rfl
theorem ror_any (n : Nat) (hn : n < 4294967296) (r : Int) (hr : r ∈ ([2, 6, 7, 11, 13, 17, 18, 19, 22, 25] : List Int)) (w : World) :
  Calls Tryz.prog 101 #[.int .u32 (n : Int), .int .i64 r] w fun e w' => e = .returned (.int .u32 ((rr n r.toNat : Nat) : Int)) ∧ w' = w := by
 refine sha_ror.still (n : Int) r _ w ?_; simp only [List.mem_cons, List.not_mem_nil, or_false] at hr
 rcases hr with rfl | rfl | rfl | rfl | rfl | rfl | rfl | rfl | rfl | rfl
 ·exact sharor n 2 hn (by decide) (by decide +kernel) (by decide +kernel)
 ·exact sharor n 6 hn (by decide) (by decide +kernel) (by decide +kernel)
 ·exact sharor n 7 hn (by decide) (by decide +kernel) (by decide +kernel)
 ·exact sharor n 11 hn (by decide) (by decide +kernel) (by decide +kernel)
 ·exact sharor n 13 hn (by decide) (by decide +kernel) (by decide +kernel)
 ·exact sharor n 17 hn (by decide) (by decide +kernel) (by decide +kernel)
 ·exact sharor n 18 hn (by decide) (by decide +kernel) (by decide +kernel)
 ·exact sharor n 19 hn (by decide) (by decide +kernel) (by decide +kernel)
 ·exact sharor n 22 hn (by decide) (by decide +kernel) (by decide +kernel)
 ·exact sharor n 25 hn (by decide) (by decide +kernel) (by decide +kernel)
theorem quiet_add_same {P : Program} {f : FuncId} {args : Array Value} {w : World} {a n : Nat} {v : Value}
  (h : Calls P f args (w.drewN (a + n)) fun e w' => e = .returned v ∧ w' = w.drewN (a + n)) :
  Calls P f args (w.drewN (a + n)) fun e w'' => e = .returned v ∧ ∃ m, w'' = w.drewN (a + m) :=
 h.mono fun _ _ ⟨he, hm⟩ => ⟨he, n, hm⟩
theorem max_xor (e : Nat) (he : e < 4294967296) : bits .xor .u32 IntKind.u32.max (e : Int) = ((4294967295 - e : Nat) : Int) := by
 have h := u32_xor_nat 4294967295 e (by decide) he
 have hm : IntKind.u32.max = ((4294967295 : Nat) : Int) := by decide
 rw [hm, h]
 congr 1
 apply Nat.eq_of_testBit_eq; intro j
 have e1 : 4294967295 - e = 2 ^ 32 - (e + 1) := by omega
 rw [e1, Nat.testBit_two_pow_sub_succ (by omega), Nat.testBit_xor, show (4294967295 : Nat) = 2 ^ 32 - 1 from rfl, Nat.testBit_two_pow_sub_one]
 by_cases hj : j < 32
 ·simp [hj]
 ·have : e.testBit j = false := Nat.testBit_lt_two_pow (Nat.lt_of_lt_of_le he (Nat.pow_le_pow_right (n := 2) (by decide) (by omega : 32 ≤ j))); simp [hj, this]
def St.arr (s : St) : Array Value := #[.int .u32 (s.a : Int), .int .u32 (s.b : Int), .int .u32 (s.c : Int), .int .u32 (s.d : Int), .int .u32 (s.e : Int), .int .u32 (s.f : Int), .int .u32 (s.g : Int), .int .u32 (s.h : Int)]
set_option maxRecDepth 100000 in
set_option maxHeartbeats 2000000 in
theorem round_any (s : St) (hs : s.Ok) (k x : Nat) (w : World) :
  Calls Tryz.prog 82 #[.agg s.arr, .int .u32 (k : Int), .int .u32 (x : Int)] w fun e w' => e = .returned (.agg (roundS s k x).arr) ∧ Below w.heap.size w w' := by
 obtain ⟨a, b, c, d, e, f, g, i⟩ := s; obtain ⟨ha, hb, hc, hd, he, hf, hg, hi⟩ := hs; simp only at ha hb hc hd he hf hg hi; unfold St.arr
 dsimp only
 go_enter Tryz.func82, Tryz.ntmps82
 go_wp2
 go_quiet (fail)
 go_wp2
 go_quiet ((go_at_call 101; exact quiet_add_same (ror_any _ (by assumption) _ (by decide) _)))
 go_wp2_with (first | (go_at_call 101; refine (ror_any _ (by assumption) _ (by decide) _).mono ?_; rintro e w' ⟨rfl, rfl⟩))
 have H2 := Blk.new (w.alloc (.cells #[.int .u32 (a : Int), .int .u32 (b : Int), .int .u32 (c : Int), .int .u32 (d : Int), .int .u32 (e : Int), .int .u32 (f : Int), .int .u32 (g : Int), .int .u32 (i : Int)] 91)) 91 #[.int .u32 0, .int .u32 0, .int .u32 0, .int .u32 0, .int .u32 0, .int .u32 0, .int .u32 0, .int .u32 0]; rw [World.size_alloc] at H2
 have hsz : (Tryz.prog.info? 91).map (·.size) = some 8 := by kernel_rfl
 refine bodyPost_ret (results_cell_row rfl _ _ (w.heap.size + 1) 91 _ (0, 0) _ rfl (((((((((H2.drewN _).set_ 0 _).set_ 1 _).set_ 2 _).set_ 3 _).set_ 4 _).set_ 5 _).set_ 6 _).set_ 7 _) Tryz.underlying91 rfl (by rw [hsz]; rfl)) rfl ⟨?_, ?_⟩
 ·show Ending.returned (.agg #[.int .u32 _, .int .u32 _, .int .u32 _, .int .u32 _, .int .u32 _, .int .u32 _, .int .u32 _, .int .u32 _]) = _
  rw [max_xor e he, u32_xor_nat _ _ (rr_lt he) (rr_lt he), u32_xor_nat _ _ (xor_lt (rr_lt he) (rr_lt he)) (rr_lt he), u32_xor_nat _ _ (rr_lt ha) (rr_lt ha), u32_xor_nat _ _ (xor_lt (rr_lt ha) (rr_lt ha)) (rr_lt ha), u32_and_nat e f he hf, u32_and_nat (4294967295 - e) g (by omega) hg, u32_xor_nat _ _ (and_lt he) (and_lt (by omega)), u32_and_nat a b ha hb, u32_and_nat a c ha hc, u32_and_nat b c hb hc, u32_xor_nat _ _ (and_lt ha) (and_lt ha), u32_xor_nat _ _ (xor_lt (and_lt ha) (and_lt ha)) (and_lt hb)]; have hr : (roundS ⟨a, b, c, d, e, f, g, i⟩ k x).arr = #[.int .u32 ((((i + big1 e + ch e f g + k + x) % 4294967296 + (big0 a + maj a b c) % 4294967296) % 4294967296 : Nat) : Int), .int .u32 (a : Int), .int .u32 (b : Int), .int .u32 (c : Int), .int .u32 (((d + (i + big1 e + ch e f g + k + x) % 4294967296) % 4294967296 : Nat) : Int), .int .u32 (e : Int), .int .u32 (f : Int), .int .u32 (g : Int)] := rfl; have q1 : (rr e 6 ^^^ rr e 11) ^^^ rr e 25 = big1 e := rfl; have q2 : (rr a 2 ^^^ rr a 13) ^^^ rr a 22 = big0 a := rfl; have q3 : (e &&& f) ^^^ ((4294967295 - e) &&& g) = ch e f g := rfl; have q4 : ((a &&& b) ^^^ (a &&& c)) ^^^ (b &&& c) = maj a b c := rfl; unfold St.arr at hr; rw [q1, q2, q3, q4, hr]; generalize big1 e = x1; generalize ch e f g = x2; generalize big0 a = x3; generalize maj a b c = x4
  have z1 : (((i : Int) + (x1 : Int) + (x2 : Int) + (k : Int) + (x : Int)) + ((x3 : Int) + (x4 : Int))) % 4294967296 = (((i + x1 + x2 + k + x) % 4294967296 + (x3 + x4) % 4294967296) % 4294967296 : Nat) := by omega
  have z2 : ((d : Int) + ((i : Int) + (x1 : Int) + (x2 : Int) + (k : Int) + (x : Int))) % 4294967296 = ((d + (i + x1 + x2 + k + x) % 4294967296) % 4294967296 : Nat) := by omega
  rw [z1, z2]
 ·exact (((((((((below_drewN (((Below.refl _ _).alloc (Nat.le_refl _) _).alloc (by simp) _) _).setCell (by simp) _).setCell (by simp) _).setCell (by simp) _).setCell (by simp) _).setCell (by simp) _).setCell (by simp) _).setCell (by simp) _).setCell (by simp) _)
end Go.Proofs.YtolbhliepkcihaaGreatDoor.Sha
end
section
namespace Go.Proofs.YtolbhliepkcihaaGreatDoor.Sha
open Go.RowKit QR Mem YtolbhliepkcihaaGreatDoorW.PrintWords YtolbhliepkcihaaGreatDoorW.PrintLast YtolbhliepkcihaaGreatDoorW.PrintMore
theorem size64w (f : Nat → Int) : (Tryz.prog.info? 115).map (·.size) = some (ka .u32 64 f).size := by rw [ka_size]; kernel_rfl
theorem orW (x0 x1 x2 x3 : Nat) (h0 : x0 < 256) (h1 : x1 < 256) (h2 : x2 < 256) (h3 : x3 < 256) :
  bits .or .u32 (bits .or .u32 (bits .or .u32 ((x0 : Int) % 4294967296 * 16777216 % 4294967296) ((x1 : Int) % 4294967296 * 65536 % 4294967296)) ((x2 : Int) % 4294967296 * 256 % 4294967296)) ((x3 : Int) % 4294967296) = ((x0 * 16777216 + x1 * 65536 + x2 * 256 + x3 : Nat) : Int) := by
 have e0 : (x0 : Int) % 4294967296 * 16777216 % 4294967296 = ((x0 * 16777216 : Nat) : Int) := by omega
 have e1 : (x1 : Int) % 4294967296 * 65536 % 4294967296 = ((x1 * 65536 : Nat) : Int) := by omega
 have e2 : (x2 : Int) % 4294967296 * 256 % 4294967296 = ((x2 * 256 : Nat) : Int) := by omega
 have e3 : (x3 : Int) % 4294967296 = ((x3 : Nat) : Int) := by omega
 rw [e0, e1, e2, e3, u32_or_nat _ _ (by omega) (by omega), nat_join24 _ _ (by omega) (by omega), u32_or_nat _ _ (by omega) (by omega), nat_join16 _ _ (by omega) (by omega), u32_or_nat _ _ (by omega) (by omega), nat_join8 _ _ (by omega) (by omega)]
theorem bn_at (b : ByteArray) (i : Nat) (h : i < b.size) : (b[i]'h).toNat = bn b i := by unfold bn; rw [dif_pos h]
theorem nextV (a b c e : Nat) (ha : a < 4294967296) (hb : b < 4294967296) :
  (bits .xor .u32 (bits .xor .u32 ((rr b 17 : Nat) : Int) ((rr b 19 : Nat) : Int)) ((b : Int) / 1024) + (c : Int) + bits .xor .u32 (bits .xor .u32 ((rr a 7 : Nat) : Int) ((rr a 18 : Nat) : Int)) ((a : Int) / 8) + (e : Int)) % 4294967296 = (((sig1 b + c + sig0 a + e) % M : Nat) : Int) := by
 have q1 : ((b : Int) / 1024) = ((b / 1024 : Nat) : Int) := by omega
 have q2 : ((a : Int) / 8) = ((a / 8 : Nat) : Int) := by omega
 rw [q1, q2, u32_xor_nat _ _ (rr_lt hb) (rr_lt hb), u32_xor_nat _ _ (xor_lt (rr_lt hb) (rr_lt hb)) (div_lt hb), u32_xor_nat _ _ (rr_lt ha) (rr_lt ha), u32_xor_nat _ _ (xor_lt (rr_lt ha) (rr_lt ha)) (div_lt ha)]; have hx : ((rr b 17 ^^^ rr b 19) ^^^ b / 1024) = sig1 b := rfl; have hy : ((rr a 7 ^^^ rr a 18) ^^^ a / 8) = sig0 a := rfl; rw [hx, hy]; unfold M
 omega
def wcut (s : ByteArray) (t : Nat) (i : Nat) : Int := if i < t then ((wordN s i : Nat) : Int) else 0
theorem wcut_set (s : ByteArray) (t : Nat) (ht : t < 64) : (ka .u32 64 (wcut s t)).setIfInBounds t (.int .u32 ((wordN s t : Nat) : Int)) = ka .u32 64 (wcut s (t + 1)) := by
 rw [ka_set _ _ ht]
 refine ka_ext fun i _ => ?_
 unfold wcut
 by_cases h : i = t
 ·subst h; rw [if_pos rfl, if_pos (by omega)]
 ·rw [if_neg h]
  by_cases h2 : i < t
  ·rw [if_pos h2, if_pos (by omega)]
  ·rw [if_neg h2, if_neg (by omega)]
theorem zero64 : #[Value.int .u32 0, .int .u32 0, .int .u32 0, .int .u32 0, .int .u32 0, .int .u32 0, .int .u32 0, .int .u32 0, .int .u32 0, .int .u32 0, .int .u32 0, .int .u32 0, .int .u32 0, .int .u32 0, .int .u32 0, .int .u32 0, .int .u32 0, .int .u32 0, .int .u32 0, .int .u32 0, .int .u32 0, .int .u32 0, .int .u32 0, .int .u32 0, .int .u32 0, .int .u32 0, .int .u32 0, .int .u32 0, .int .u32 0, .int .u32 0, .int .u32 0, .int .u32 0, .int .u32 0, .int .u32 0, .int .u32 0, .int .u32 0, .int .u32 0, .int .u32 0, .int .u32 0, .int .u32 0, .int .u32 0, .int .u32 0, .int .u32 0, .int .u32 0, .int .u32 0, .int .u32 0, .int .u32 0, .int .u32 0, .int .u32 0, .int .u32 0, .int .u32 0, .int .u32 0, .int .u32 0, .int .u32 0, .int .u32 0, .int .u32 0, .int .u32 0, .int .u32 0, .int .u32 0, .int .u32 0, .int .u32 0, .int .u32 0, .int .u32 0, .int .u32 0] = ka .u32 64 fun _ => 0 := rfl
set_option maxRecDepth 100000 in
set_option maxHeartbeats 4000000 in
theorem words_any (s : ByteArray) (hs : s.size = 64) (w : World) :
  Calls Tryz.prog 81 #[.string s] w fun e w' => e = .returned (.agg (ka .u32 64 fun t => ((wordN s t : Nat) : Int))) ∧ Below w.heap.size w w' := by
 go_enter Tryz.func81, Tryz.ntmps81
 go_wp2; rw [zero64]; have H2 := (Blk.new w 115 (ka .u32 64 fun _ => 0)).alloc (.cells (ka .u32 64 fun _ => 0) 115); have H1 := Blk.new (w.alloc (.cells (ka .u32 64 fun _ => 0) 115)) 115 (ka .u32 64 fun _ => 0); have B0 : Below w.heap.size w ((w.alloc (.cells (ka .u32 64 fun _ => 0) 115)).alloc (.cells (ka .u32 64 fun _ => 0) 115)) := ((Below.refl _ _).alloc (Nat.le_refl _) _).alloc (by simp) _; rw [World.size_alloc] at H1; generalize hw2 : (w.alloc (.cells (ka .u32 64 fun _ => 0) 115)).alloc (.cells (ka .u32 64 fun _ => 0) 115) = w2 at *; clear hw2; generalize hg : w.heap.size = g at *; have HG := Lib.hid hg; clear hg
 go_loopw [8] (fun i wr => ∃ t : Nat, t ≤ 64 ∧ i = .int .i64 t ∧ Blk wr (g + 1) 115 (ka .u32 64 (wcut s t)) ∧ Blk wr g 115 (ka .u32 64 fun _ => 0) ∧ Below g w wr) (fun i _ => 64 - (intOf i).toNat)
 case atStart => exact ⟨0, by omega, rfl, H1, H2, B0⟩
 case round =>
  clear H1 H2 B0; obtain ⟨t, ht, rfl, H1, H2, b1⟩ := hrel; have hgl := H2.lt; have hgl1 := H1.lt
  by_cases hlt : t < 64
  ·by_cases h16 : t < 16
   ·go_wp2
    obtain ⟨b, hb⟩ : ∃ b, s.extract (4 * t) 64 = b := ⟨_, rfl⟩
    have hbs : b.size = 64 - 4 * t := by rw [← hb, ByteArray.size_extract, hs, Nat.min_self]
    rw [hb]
    have l0 : 0 < b.size := by omega
    have l1 : 1 < b.size := by omega
    have l2 : 2 < b.size := by omega
    have l3 : 3 < b.size := by omega
    have k0 : (0 : Int) < (b.size : Int) := by omega
    have k1 : (1 : Int) < (b.size : Int) := by omega
    have k2 : (2 : Int) < (b.size : Int) := by omega
    have k3 : (3 : Int) < (b.size : Int) := by omega
    have hbt : ∀ j, j < 4 → bn b j = bn s (4 * t + j) := fun j hj => by
     unfold bn; rw [dif_pos (by omega), dif_pos (by omega)]; simp [← hb, ByteArray.getElem_extract]
    have HB := Lib.hid hb; have HS := Lib.hid hbs; have HT := Lib.hid hbt; clear hb hbs hbt
    have i0 : (0 : Int) ≤ (t : Int) := by omega
    have i1 : (t : Int) < 64 := by omega
    have ct := H1.cell t; rw [ka_at _ hlt] at ct; have ft := H1.frozen t
    go_region
    go_wp2
    go_roundw
    case rel =>
     refine ⟨t + 1, by omega, by go_num, ?_, H2.far (p := ⟨g + 1, t, none⟩) (by simp) _, (Mem.below_drew b1).setCell (p := ⟨g + 1, t, none⟩) (by simp) _⟩; have H3 := H1.drew.set_ t (.int .u32 ((wordN s t : Nat) : Int)); rw [wcut_set s t hlt] at H3; have hw : wordN s t = word s t := wordN_low s t h16; rw [orW _ _ _ _ (UInt8.toNat_lt _) (UInt8.toNat_lt _) (UInt8.toNat_lt _) (UInt8.toNat_lt _), bn_at b 0 l0, bn_at b 1 l1, bn_at b 2 l2, bn_at b 3 l3, HT.out 0 (by decide), HT.out 1 (by decide), HT.out 2 (by decide), HT.out 3 (by decide)]; rw [hw] at H3; exact H3
    case measure => simp [intOf]; omega
   ·go_wp2
    obtain ⟨p1, hp1⟩ : ∃ p1, t = p1 + 15 := ⟨t - 15, by omega⟩
    obtain ⟨p2, hp2⟩ : ∃ p2, t = p2 + 2 := ⟨t - 2, by omega⟩
    obtain ⟨p7, hp7⟩ : ∃ p7, t = p7 + 7 := ⟨t - 7, by omega⟩
    obtain ⟨p16, hp16⟩ : ∃ p16, t = p16 + 16 := ⟨t - 16, by omega⟩
    have e1 : (t : Int) - 15 = (p1 : Int) := by omega
    have e2 : (t : Int) - 2 = (p2 : Int) := by omega
    have e7 : (t : Int) - 7 = (p7 : Int) := by omega
    have e16 : (t : Int) - 16 = (p16 : Int) := by omega
    have c1 : wr.cell? ⟨g + 1, p1, none⟩ = some (.int .u32 ((wordN s p1 : Nat) : Int)) := by rw [H1.cell, ka_at _ (by omega)]; unfold wcut; rw [if_pos (by omega)]
    have c2 : wr.cell? ⟨g + 1, p2, none⟩ = some (.int .u32 ((wordN s p2 : Nat) : Int)) := by rw [H1.cell, ka_at _ (by omega)]; unfold wcut; rw [if_pos (by omega)]
    have c7 : wr.cell? ⟨g + 1, p7, none⟩ = some (.int .u32 ((wordN s p7 : Nat) : Int)) := by rw [H1.cell, ka_at _ (by omega)]; unfold wcut; rw [if_pos (by omega)]
    have c16 : wr.cell? ⟨g + 1, p16, none⟩ = some (.int .u32 ((wordN s p16 : Nat) : Int)) := by rw [H1.cell, ka_at _ (by omega)]; unfold wcut; rw [if_pos (by omega)]
    have HP1 := Lib.hid hp1; have HP2 := Lib.hid hp2; have HP7 := Lib.hid hp7; have HP16 := Lib.hid hp16; clear hp1 hp2 hp7 hp16
    have j1 : (p1 : Int) < 64 := by omega
    have j2 : (p2 : Int) < 64 := by omega
    have j7 : (p7 : Int) < 64 := by omega
    have j16 : (p16 : Int) < 64 := by omega
    have w1 : wordN s p1 < 4294967296 := wordN_lt s p1; have w2 : wordN s p2 < 4294967296 := wordN_lt s p2
    go_quiet (fail)
    go_wp2; have q7 : IntKind.i64.wrap (p7 : Int) = (p7 : Int) := IntWalk.i64_in _ (by omega); have q16 : IntKind.i64.wrap (p16 : Int) = (p16 : Int) := IntWalk.i64_in _ (by omega)
    have n7 : (0 : Int) ≤ (p7 : Int) := by omega
    have n16 : (0 : Int) ≤ (p16 : Int) := by omega
    have c7s : ({ heap := wr.heap, tape := wr.tape, drawn := (wr.drewN nq).drawn + 1, os := (wr.drewN nq).os, output := (wr.drewN nq).output } : World).cell? ⟨g + 1, p7, none⟩ = some (.int .u32 ((wordN s p7 : Nat) : Int)) := c7; have c16s : ({ heap := wr.heap, tape := wr.tape, drawn := (wr.drewN nq).drawn + 1, os := (wr.drewN nq).os, output := (wr.drewN nq).output } : World).cell? ⟨g + 1, p16, none⟩ = some (.int .u32 ((wordN s p16 : Nat) : Int)) := c16
    go_still_tail 29, (by kernel_rfl)
    still_call (ror_any _ w2 17 (by decide) _)
    repeat still_step
    still_call (ror_any _ w2 19 (by decide) _)
    repeat still_step
    still_call (ror_any _ w1 7 (by decide) _)
    repeat still_step
    still_call (ror_any _ w1 18 (by decide) _)
    repeat still_step
    refine wpStill_nil ?_
    change wpList _ _ _ _ _ (wr.drewN nq).drew
    clear c7s c16s; have ct := H1.cell t; rw [ka_at _ hlt] at ct; have ft := H1.frozen t
    have i0 : (0 : Int) ≤ (t : Int) := by omega
    have i1 : (t : Int) < 64 := by omega
    go_wp2
    go_roundw
    case rel =>
     refine ⟨t + 1, by omega, by go_num, ?_, (Blk.drew (H2.drewN nq)).far (p := ⟨g + 1, t, none⟩) (by simp) _, (Mem.below_drew (Mem.below_drewN b1 nq)).setCell (p := ⟨g + 1, t, none⟩) (by simp) _⟩; have H3 := (Blk.drew (H1.drewN nq)).set_ t (.int .u32 ((wordN s t : Nat) : Int)); rw [wcut_set s t hlt] at H3; have hw := wordN_high s t (by omega) hlt; have g1 := HP1.out; have g2 := HP2.out; have g7 := HP7.out; have g16 := HP16.out; rw [show t - 2 = p2 by omega, show t - 7 = p7 by omega, show t - 15 = p1 by omega, show t - 16 = p16 by omega] at hw; rw [hw, ← nextV _ _ _ _ w1 w2] at H3; exact H3
    case measure => simp [intOf]; omega
  ·obtain rfl : t = 64 := by omega
   rw [show ((64 : Nat) : Int) = 64 from rfl]
   go_wp2_with (first | (refine wpList_load_row rfl 115 _ rfl (g + 1) rfl 115 _ (0, 0) _ H1 Tryz.underlying115 rfl (size64w _) ?_) | (refine wpList_store_row rfl 115 _ _ rfl g _ rfl rfl 115 _ H2 (size64w _) (by rw [ka_size, ka_size]) (ka_one _ _ _) ?_))
   have e : ka .u32 64 (wcut s 64) = ka .u32 64 fun t => ((wordN s t : Nat) : Int) := ka_ext fun i hi => if_pos hi
   rw [e]; exact bodyPost_ret (results_cell_row rfl _ _ g 115 _ (0, 0) _ rfl (H2.row _) Tryz.underlying115 rfl (size64w _)) rfl ⟨rfl, by rw [HG.out]; exact below_row b1 (Nat.le_refl g) _⟩
end Go.Proofs.YtolbhliepkcihaaGreatDoor.Sha
end
section
namespace Go.Proofs.YtolbhliepkcihaaGreatDoor.Sha
open Go.RowKit QR Mem YtolbhliepkcihaaGreatDoorW.PrintWords YtolbhliepkcihaaGreatDoorW.PrintLast YtolbhliepkcihaaGreatDoorW.PrintMore
theorem wpStill_load_at {P : Program} {ops : Array Oper} {rest : List Oper} {o : Oper} {a : Act} {w : World} {Q : Act → Prop} (hgd : o.guard = none) (ty : TypeId) (x : Operand) (ho : o.op = .load ty x)
  (A : Addr) (hx : a.eval x = .pointer (some A)) (v : Value) (hv : (loadVar ty A).run P w = .ok v w)
  (h : wpStill P ops w Q rest (a.put o.dst v)) : wpStill P ops w Q (o :: rest) a := by
 refine wpStill_step (fun K hK => ?_)
 have hw : Region.wanted o (yielded ops a.tmps) = true := by simp [Region.wanted, hgd]
 rw [if_pos hw]; unfold Oper.still execOp; simp only [ho, hx, Instr.loadAt, Instr.sureAddr, Sem.run_bind, Sem.run_pure, Result.andThen_ok, hv]; rw [Oper.stillUpon_value]; exact hK _ h
theorem index64 (f : Nat → Int) (t : Nat) (ht : t < 64) (w : World) : (Instr.index 115 (.agg (ka .u32 64 f)) (.int .i64 (t : Int))).run Tryz.prog w = .ok (.int .u32 (f t)) w := by
 have hs : (sizeOf 89).run Tryz.prog w = .ok 1 w := by kernel_rfl
 have ha : (isAgg 89).run Tryz.prog w = .ok false w := by kernel_rfl
 simp [Instr.index, asIntOf, run_underlying Tryz.underlying115, ht, hs, part, ha, Sem.run_bind, Result.andThen, ka_at _ ht]
def St.at (s : St) (i : Nat) : Nat := s.list.getD i 0
theorem St.arr_eq (s : St) : s.arr = ka .u32 8 fun i => ((s.at i : Nat) : Int) := rfl
theorem size8 (f : Nat → Int) : (Tryz.prog.info? 91).map (·.size) = some (ka .u32 8 f).size := by rw [ka_size]; kernel_rfl
theorem size8s (s : St) : (Tryz.prog.info? 91).map (·.size) = some s.arr.size := by rw [St.arr_eq]; exact size8 _
theorem one8s (s : St) : s.arr.all (·.oneCell') = true := by rw [St.arr_eq]; exact ka_one _ _ _
theorem zero8 : #[Value.int .u32 0, .int .u32 0, .int .u32 0, .int .u32 0, .int .u32 0, .int .u32 0, .int .u32 0, .int .u32 0] = ka .u32 8 fun _ => 0 := rfl
theorem addS_at (s t : St) (i : Nat) (hi : i < 8) : (addS s t).at i = (s.at i + t.at i) % M := by
 have : i = 0 ∨ i = 1 ∨ i = 2 ∨ i = 3 ∨ i = 4 ∨ i = 5 ∨ i = 6 ∨ i = 7 := by omega
 rcases this with rfl | rfl | rfl | rfl | rfl | rfl | rfl | rfl <;> rfl
def acut (x s : St) (t i : Nat) : Int := if i < t then (((x.at i + s.at i) % M : Nat) : Int) else ((x.at i : Nat) : Int)
theorem acut_ge (x s : St) (t i : Nat) (h : t ≤ i) : acut x s t i = ((x.at i : Nat) : Int) := if_neg (by omega)
theorem acut_set (x s : St) (t : Nat) (ht : t < 8) : (ka .u32 8 (acut x s t)).setIfInBounds t (.int .u32 ((((x.at t : Nat) : Int) + ((s.at t : Nat) : Int)) % 4294967296)) = ka .u32 8 (acut x s (t + 1)) := by
 rw [ka_set _ _ ht]
 refine ka_ext fun i _ => ?_
 unfold acut
 by_cases h : i = t
 ·subst h; rw [if_pos rfl, if_pos (by omega)]; unfold M; omega
 ·rw [if_neg h]
  by_cases h2 : i < t
  ·rw [if_pos h2, if_pos (by omega)]
  ·rw [if_neg h2, if_neg (by omega)]
set_option maxRecDepth 100000 in
set_option maxHeartbeats 4000000 in
theorem mix_any (s : St) (hs : s.Ok) (b : ByteArray) (hb : b.size = 64) (kb cap : Nat) (_hcap : 64 ≤ cap) (w : World) (hk : ∀ i, i < 64 → w.cell? ⟨kb, i, none⟩ = some (.int .u32 ((keyN i : Nat) : Int))) :
  Calls Tryz.prog 59 #[.agg s.arr, .slice (some ⟨kb, 0, none⟩) 64 cap, .string b] w fun e w' => e = .returned (.agg (mixS s b).arr) ∧ Below w.heap.size w w' := by
 have lk := qd w _ (hk 0 (by decide)); have HK := Lib.hid hk; clear hk
 go_enter Tryz.func59, Tryz.ntmps59
 obtain ⟨g, hg⟩ : ∃ g, w.heap.size = g := ⟨_, rfl⟩
 have L0 := Blk.new w 91 s.arr; have L1 := Blk.new (w.alloc (.cells s.arr 91)) 91 (ka .u32 8 fun _ => 0); have L2 := Blk.new ((w.alloc (.cells s.arr 91)).alloc (.cells (ka .u32 8 fun _ => 0) 91)) 91 (ka .u32 8 fun _ => 0); have B0 : Below w.heap.size w (((w.alloc (.cells s.arr 91)).alloc (.cells (ka .u32 8 fun _ => 0) 91)).alloc (.cells (ka .u32 8 fun _ => 0) 91)) := (((Below.refl _ _).alloc (Nat.le_refl _) _).alloc (by simp) _).alloc (by simp; omega) _; simp only [World.size_alloc] at L1 L2; rw [hg] at L0 L1 L2 B0 lk; have HG := Lib.hid hg
 go_wp2_with (first | (rw [zero8]; refine wpList_load_row rfl 91 _ rfl g rfl 91 _ (0, 0) _ (L0.alloc _) Tryz.underlying91 rfl (size8s s) ?_) | (rw [zero8]; refine wpList_store_row rfl 91 _ _ rfl (g + 1 + 1) _ rfl rfl 91 _ L2 (size8s s) (by rw [St.arr_eq, ka_size, ka_size]) (one8s s) ?_; have A0 := ((L0.alloc (.cells (ka .u32 8 fun _ => 0) 91)).alloc (.cells (ka .u32 8 fun _ => 0) 91)).row_far (g' := g + 1 + 1) (by omega) s.arr; have A1 := (L1.alloc (.cells (ka .u32 8 fun _ => 0) 91)).row_far (g' := g + 1 + 1) (by omega) s.arr; have A2 := L2.row s.arr; have b0 := below_row B0 (g := g + 1 + 1) (by omega) s.arr; generalize World.setRow _ _ _ = w3 at *) | (go_at_call 81; clear L0 L1 L2 B0; refine (words_any b hb _).mono ?_; rintro e w1 ⟨rfl, hb1⟩))
 have z3 := A2.lt; have A0 := A0.below hb1 A0.lt; have A1 := A1.below hb1 A1.lt; have A2 := A2.below hb1 A2.lt; have b1 : Below g w w1 := b0.trans (hb1.mono (by omega)); clear hb1 b0 z3
 go_loopw [14] (fun i wr => ∃ t : Nat, t ≤ 64 ∧ i = .int .i64 t ∧ Blk wr (g + 1 + 1) 91 (rounds (wordN b) s t).arr ∧ Blk wr g 91 s.arr ∧ Blk wr (g + 1) 91 (ka .u32 8 fun _ => 0) ∧ Below g w wr) (fun i _ => 64 - (intOf i).toNat)
 case atStart => exact ⟨0, by omega, rfl, A2, A0, A1, b1⟩
 case round =>
  clear A0 A1 A2 b1; obtain ⟨t, ht, rfl, A2, A0, A1, b1⟩ := hrel
  by_cases hlt : t < 64
  ·have hix := index64 (fun t => ((wordN b t : Nat) : Int)) t hlt
   have i0 : (0 : Int) ≤ (t : Int) := by omega
   have i1 : (t : Int) < 64 := by omega
   go_wp2; have hck : wr.cell? ⟨kb, t, none⟩ = some (.int .u32 ((keyN t : Nat) : Int)) := (World.cell?_of_block (a := ⟨kb, t, none⟩) (b1.block kb lk)).trans (HK.out t hlt); have cks : ({ heap := wr.heap, tape := wr.tape, drawn := wr.drawn + 1, os := wr.os, output := wr.output } : World).cell? ⟨kb, t, none⟩ = some (.int .u32 ((keyN t : Nat) : Int)) := hck; have hld := run_loadVar_row (P := Tryz.prog) wr.drew (g + 1 + 1) 91 91 _ (0, 0) _ A2.drew Tryz.underlying91 rfl (size8s _)
   go_still_tail 6, (by kernel_rfl)
   refine wpStill_load_at rfl 91 _ rfl ⟨g + 1 + 1, 0, none⟩ rfl _ hld ?_
   repeat still_step
   refine wpStill_nil ?_
   change wpList _ _ _ _ _ wr.drew
   clear cks hck hld hix; have hok := Ok.rounds hs (wordN b) t; have HOK := Lib.hid hok; clear hok
   go_wp2_with (first | (go_at_call 82; refine (round_any _ HOK.out _ _ _).mono ?_; rintro e w5 ⟨rfl, hb5⟩; have z2 := A2.lt; have A0 := A0.drew.below hb5 A0.lt; have A1 := A1.drew.below hb5 A1.lt; have A2 := A2.drew.below hb5 A2.lt; have b5 := (Mem.below_drew b1).trans (hb5.mono (by simp; omega))) | (refine wpList_store_row rfl 91 _ _ rfl (g + 1 + 1) _ rfl rfl 91 _ A2 (size8s _) (by rw [St.arr_eq, St.arr_eq, ka_size, ka_size]) (one8s _) ?_; have C0 := A0.row_far (g' := g + 1 + 1) (by omega) (roundS (rounds (wordN b) s t) (keyN t) (wordN b t)).arr; have C1 := A1.row_far (g' := g + 1 + 1) (by omega) (roundS (rounds (wordN b) s t) (keyN t) (wordN b t)).arr; have C2 := A2.row (roundS (rounds (wordN b) s t) (keyN t) (wordN b t)).arr; have b6 := below_row b5 (g := g + 1 + 1) (by omega) (roundS (rounds (wordN b) s t) (keyN t) (wordN b t)).arr; generalize w5.setRow (g + 1 + 1) (roundS (rounds (wordN b) s t) (keyN t) (wordN b t)).arr = w6 at *))
   go_roundw
   case rel => exact ⟨t + 1, by omega, by go_num, C2, C0, C1, b6⟩
   case measure => simp [intOf]; omega
  ·obtain rfl : t = 64 := by omega
   rw [show ((64 : Nat) : Int) = 64 from rfl]; go_wp2
   obtain ⟨x, hx⟩ : ∃ x, rounds (wordN b) s 64 = x := ⟨_, rfl⟩
   rw [hx] at A2; have HX := Lib.hid hx; clear hx
   go_loopw [26] (fun i wi => ∃ t : Nat, t ≤ 8 ∧ i = .int .i64 t ∧ Blk wi (g + 1 + 1) 91 (ka .u32 8 (acut x s t)) ∧ Blk wi g 91 s.arr ∧ Blk wi (g + 1) 91 (ka .u32 8 fun _ => 0) ∧ Below g w wi) (fun i _ => 8 - (intOf i).toNat)
   case atStart => exact ⟨0, by omega, rfl, A2, A0, A1, b1⟩
   case round =>
    clear A0 A1 A2 b1; rename_i wi _; obtain ⟨t, ht, rfl, A2, A0, A1, b1⟩ := hrel
    by_cases hlt : t < 8
    ·have i0 : (0 : Int) ≤ (t : Int) := by omega
     have i1 : (t : Int) < 8 := by omega
     have c2 := A2.cell t; rw [ka_at _ hlt, acut_ge x s t t (Nat.le_refl _)] at c2; have c0 := A0.cell t; rw [St.arr_eq, ka_at _ hlt] at c0; have f2 := A2.frozen t; go_wp2
     go_region
     go_wp2
     go_roundw
     case rel =>
      refine ⟨t + 1, by omega, by go_num, ?_, A0.drew.far (p := ⟨g + 1 + 1, t, none⟩) (by simp; omega) _, A1.drew.far (p := ⟨g + 1 + 1, t, none⟩) (by simp) _, (Mem.below_drew b1).setCell (p := ⟨g + 1 + 1, t, none⟩) (by simp; omega) _⟩; have H3 := A2.drew.set_ t (.int .u32 ((((x.at t : Nat) : Int) + ((s.at t : Nat) : Int)) % 4294967296)); rw [acut_set x s t hlt] at H3; exact H3
     case measure => simp [intOf]; omega
    ·obtain rfl : t = 8 := by omega
     rw [show ((8 : Nat) : Int) = 8 from rfl]
     have e : ka .u32 8 (acut x s 8) = (mixS s b).arr := by
      rw [St.arr_eq]
      refine ka_ext fun i hi => ?_
      unfold mixS; rw [HX.out, addS_at _ _ _ hi]; exact if_pos hi
     rw [e] at A2; have HE := Lib.hid e; clear e
     go_wp2_with (first | (refine wpList_load_row rfl 91 _ rfl (g + 1 + 1) rfl 91 _ (0, 0) _ A2 Tryz.underlying91 rfl (size8s _) ?_) | (refine wpList_store_row rfl 91 _ _ rfl (g + 1) _ rfl rfl 91 _ A1 (size8s _) (by rw [St.arr_eq, ka_size, ka_size]) (one8s _) ?_))
     exact bodyPost_ret (results_cell_row rfl _ _ (g + 1) 91 _ (0, 0) _ rfl (A1.row _) Tryz.underlying91 rfl (size8s _)) rfl ⟨rfl, by rw [HG.out]; exact below_row b1 (Nat.le_succ g) _⟩
end Go.Proofs.YtolbhliepkcihaaGreatDoor.Sha
end
