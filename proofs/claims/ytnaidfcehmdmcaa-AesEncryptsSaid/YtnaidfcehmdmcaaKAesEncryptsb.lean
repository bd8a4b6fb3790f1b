/- Joined by a program of this session (wip/pack.py) for this claim: PAesEncryptsx2, PAesEncryptsx3, AesRef, AesPlain, AesLaw1, AesStub, QAKx0, QAKx1, QAKx2. -/
import Derived.Test.YtnaidfcehmdmcaaKAesEncryptsa
import Derived.Outline
import Derived.Test.YtnaidfcehmdmcaaProg
import Derived.Below
import Derived.Deep.Draws
import Derived.Deep.AppendLies
import Derived.Maps.AppendAt
import Derived.OwnWalk
import Derived.Laws.BytesArg
import Derived.Laws.MakeOwn
import Derived.Laws.OwnMore
import Derived.Deep.OwnRows
import Derived.Tactics
import Derived.Lib.ConvBytes
import Derived.Laws.Slices
import Derived.WalkKit
import Derived.KernelRfl
import Derived.RowKit3
import Derived.Deep.LoopGhost
import Derived.Deep.QuietTactic
import Derived.BigQuiet
import Derived.WideLaws
import Derived.Deep.DeepCutAuto
import Derived.Deep.CutBlock
import Derived.Deep.RegionHeld3
import Derived.Laws.Rows
import Derived.Lib.AppendStr
import Derived.ArgAppend
import Derived.Laws.IdiomCopy
import Derived.OrdersHeld
import Derived.Laws.BitsLemmas
import Derived.RowKit
import Derived.Test.YtnaidfcehmdmcaaPWa
section
namespace Go.Proofs.Ytnaidfcehmdmcaa.PAesEncrypts
open Go.RowKit Go.Proofs.YtnaidfcehmdmcaaW.PrintWords Go.Proofs.YtnaidfcehmdmcaaW.PrintLast Go.Proofs.YtnaidfcehmdmcaaW.PrintMore
attribute [local go_sem] max2_int min2_int max_two min_two max_three min_three max_four min_four   -- for this text's walks alone
set_option linter.unusedVariables false
set_option linter.unusedSimpArgs false
/-! ### saltusref05_Box: function 22 -/
def saltusref05_Box.l0 : Nat → Int → Int → Int → Option (Int)
 | 0, _, _, _ => none
 | k + 1, x3, x4, x5 => if x5 < 8 then ((saltusref05_Bit.f x3 x5).bind fun t122 => ((saltusref05_Bit.f x3 (Int.tmod (wrap64 (x5 + 4)) 8)).bind fun t123 => ((saltusref05_Bit.f x3 (Int.tmod (wrap64 (x5 + 5)) 8)).bind fun t124 => ((saltusref05_Bit.f x3 (Int.tmod (wrap64 (x5 + 6)) 8)).bind fun t125 => ((saltusref05_Bit.f x3 (Int.tmod (wrap64 (x5 + 7)) 8)).bind fun t126 => ((saltusref05_Bit.f 99 x5).bind fun t127 => ((saltusref05_pow.f x5).bind fun t128 => (saltusref05_Box.l0 k x3 (wrap64 (x4 + (wrap64 ((Int.tmod (wrap64 ((wrap64 ((wrap64 ((wrap64 ((wrap64 (t122 + t123)) + t124)) + t125)) + t126)) + t127)) 2) * t128)))) (wrap64 (x5 + 1)))))))))) else (some ((x4) % 256))
def saltusref05_Box.f (k : Nat) (a0 : Int) : Option (Int) := (saltusref05_Inv.f k a0).bind fun t121 => (saltusref05_Box.l0 k (wrap64 (t121)) 0 0)
theorem saltusref05_Box.mono_l : ∀ k, (∀ y0 y1 y2, LeO (saltusref05_Box.l0 k y0 y1 y2) (saltusref05_Box.l0 (k + 1) y0 y1 y2))
 | 0 => fun _ _ _ r h => by simp [saltusref05_Box.l0] at h
 | k + 1 => by
  have ih0 := saltusref05_Box.mono_l k
  ·intro y0 y1 y2
   unfold saltusref05_Box.l0
   repeat' first
   | (with_reducible exact ih0 _ _ _)
   | (with_reducible exact saltusref05_Inv.mono _ _)
   | (with_reducible exact LeO.refl _)
   | (with_reducible exact LeO.none _)
   | (with_reducible refine LeO.ite ?_ ?_)
   | (with_reducible refine LeO.bind ?_ (fun _ => ?_))
   | exact ih0 _ _ _
   | exact saltusref05_Inv.mono _ _
   | exact LeO.none _
   | refine LeO.ite ?_ ?_
   | refine LeO.bind ?_ (fun _ => ?_)
theorem saltusref05_Box.mono : ∀ a0 k, LeO (saltusref05_Box.f k a0) (saltusref05_Box.f (k + 1) a0) := by
 intro a0 k
 have ih0 := saltusref05_Box.mono_l k
 unfold saltusref05_Box.f
 repeat' first
   | (with_reducible exact ih0 _ _ _)
   | (with_reducible exact saltusref05_Inv.mono _ _)
   | (with_reducible exact LeO.refl _)
   | (with_reducible exact LeO.none _)
   | (with_reducible refine LeO.ite ?_ ?_)
   | (with_reducible refine LeO.bind ?_ (fun _ => ?_))
   | exact ih0 _ _ _
   | exact saltusref05_Inv.mono _ _
   | exact LeO.none _
   | refine LeO.ite ?_ ?_
   | refine LeO.bind ?_ (fun _ => ?_)
set_option maxHeartbeats 8000000 in
set_option maxRecDepth 100000 in
theorem saltusref05_Box.calls (k : Nat) (a0 : Int) (r : Int) (w : World) (h : saltusref05_Box.f k a0 = some r) :
  Calls Try.prog 22 #[.int .u8 a0] w fun e w' => e = .returned (.int .u8 r) ∧ Drawn0 w w' := by
 have H : ((saltusref05_Inv.f k a0).bind fun t121 => (saltusref05_Box.l0 k (wrap64 (t121)) 0 0)) = some r := h
 clear h
 replace H := Option.bind_eq_some_iff.mp H
 obtain ⟨t121, A20, H⟩ := H
 (try dsimp only at H)
 have A2 := Aside0.mk A20
 clear A20
 have H' := Aside0.mk H
 clear H
 go_enter Try.func22, Try.ntmps22
 go_wp2_with (first | ((with_reducible refine gate_callee (f := 21) rfl ?_); refine goesL_ (some 8) rfl rfl Try.func21 (by kernel_rfl) rfl #[.int .u8 a0] rfl (by (try simp only [List.map_toArray, List.map_cons, List.map_nil]); first | done | rfl | (simp only [List.length_drop, List.length_take]; rfl)) ?_; (with_reducible refine (saltusref05_Inv.calls k a0 t121 _ A2.out).mono ?_); rintro e w' ⟨rfl, ⟨nd, rfl⟩⟩; refine ⟨_, rfl, ?_⟩))
 go_loopg [4, 5] k (fun kq v4 v5 w' => ∃ (x4_1 : Int) (x5_1 : Int), v4 = .int .i64 x4_1 ∧ v5 = .int .i64 x5_1 ∧ Aside0 (saltusref05_Box.l0 kq (wrap64 (t121)) x4_1 x5_1 = some r) ∧ Aside0 (kq ≤ k) ∧ Drawn0 w w')
 case atStart => exact ⟨(0), (0), (by first | rfl | (simp; done) | (simp [*]; done)), (by first | rfl | (simp; done) | (simp [*]; done)), H', ⟨Nat.le_refl _⟩, by repeat (first | exact Drawn0.refl _ | apply Drawn0.step)⟩
 case round =>
  clear H'
  try clear c2
  try clear p2
  obtain ⟨x4_1, x5_1, rfl, rfl, HA, HK1, ⟨m1, rfl⟩⟩ := hrel
  cases gk with
  | zero => exact absurd HA.out (by simp [saltusref05_Box.l0])
  | succ k1 =>
   have H := HA.out
   clear HA
   simp only [saltusref05_Box.l0] at H
   by_cases c3 : x5_1 < 8
   ·rw [if_pos c3] at H
    have c3b0 : decide (x5_1 < 8) = true := decide_eq_true c3
    clear c3
    replace H := Option.bind_eq_some_iff.mp H
    obtain ⟨t122, A40, H⟩ := H
    (try dsimp only at H)
    have A4 := Aside0.mk A40
    clear A40
    replace H := Option.bind_eq_some_iff.mp H
    obtain ⟨t123, A50, H⟩ := H
    (try dsimp only at H)
    have A5 := Aside0.mk A50
    clear A50
    replace H := Option.bind_eq_some_iff.mp H
    obtain ⟨t124, A60, H⟩ := H
    (try dsimp only at H)
    have A6 := Aside0.mk A60
    clear A60
    replace H := Option.bind_eq_some_iff.mp H
    obtain ⟨t125, A70, H⟩ := H
    (try dsimp only at H)
    have A7 := Aside0.mk A70
    clear A70
    replace H := Option.bind_eq_some_iff.mp H
    obtain ⟨t126, A80, H⟩ := H
    (try dsimp only at H)
    have A8 := Aside0.mk A80
    clear A80
    replace H := Option.bind_eq_some_iff.mp H
    obtain ⟨t127, A90, H⟩ := H
    (try dsimp only at H)
    have A9 := Aside0.mk A90
    clear A90
    replace H := Option.bind_eq_some_iff.mp H
    obtain ⟨t128, A100, H⟩ := H
    (try dsimp only at H)
    have A10 := Aside0.mk A100
    clear A100
    have H' := Aside0.mk H
    clear H
    go_wp2_with (first | ((with_reducible refine gate_callee (f := 46) rfl ?_); refine goesL_ (some 16) rfl rfl Try.func46 (by kernel_rfl) rfl #[.int .i64 (wrap64 (t121)), .int .i64 x5_1] rfl (by (try simp only [List.map_toArray, List.map_cons, List.map_nil]); first | done | rfl | (simp only [List.length_drop, List.length_take]; rfl)) ?_; (with_reducible refine (saltusref05_Bit.calls (wrap64 (t121)) x5_1 t122 _ A4.out).mono ?_); rintro e w' ⟨rfl, ⟨nd, rfl⟩⟩; refine ⟨_, rfl, ?_⟩) | ((with_reducible refine gate_callee (f := 46) rfl ?_); refine goesL_ (some 21) rfl rfl Try.func46 (by kernel_rfl) rfl #[.int .i64 (wrap64 (t121)), .int .i64 (Int.tmod (wrap64 (x5_1 + 4)) 8)] rfl (by (try simp only [List.map_toArray, List.map_cons, List.map_nil]); first | done | rfl | (simp only [List.length_drop, List.length_take]; rfl)) ?_; (with_reducible refine (saltusref05_Bit.calls (wrap64 (t121)) (Int.tmod (wrap64 (x5_1 + 4)) 8) t123 _ A5.out).mono ?_); rintro e w' ⟨rfl, ⟨nd, rfl⟩⟩; refine ⟨_, rfl, ?_⟩) | ((with_reducible refine gate_callee (f := 46) rfl ?_); refine goesL_ (some 27) rfl rfl Try.func46 (by kernel_rfl) rfl #[.int .i64 (wrap64 (t121)), .int .i64 (Int.tmod (wrap64 (x5_1 + 5)) 8)] rfl (by (try simp only [List.map_toArray, List.map_cons, List.map_nil]); first | done | rfl | (simp only [List.length_drop, List.length_take]; rfl)) ?_; (with_reducible refine (saltusref05_Bit.calls (wrap64 (t121)) (Int.tmod (wrap64 (x5_1 + 5)) 8) t124 _ A6.out).mono ?_); rintro e w' ⟨rfl, ⟨nd, rfl⟩⟩; refine ⟨_, rfl, ?_⟩) | ((with_reducible refine gate_callee (f := 46) rfl ?_); refine goesL_ (some 33) rfl rfl Try.func46 (by kernel_rfl) rfl #[.int .i64 (wrap64 (t121)), .int .i64 (Int.tmod (wrap64 (x5_1 + 6)) 8)] rfl (by (try simp only [List.map_toArray, List.map_cons, List.map_nil]); first | done | rfl | (simp only [List.length_drop, List.length_take]; rfl)) ?_; (with_reducible refine (saltusref05_Bit.calls (wrap64 (t121)) (Int.tmod (wrap64 (x5_1 + 6)) 8) t125 _ A7.out).mono ?_); rintro e w' ⟨rfl, ⟨nd, rfl⟩⟩; refine ⟨_, rfl, ?_⟩) | ((with_reducible refine gate_callee (f := 46) rfl ?_); refine goesL_ (some 39) rfl rfl Try.func46 (by kernel_rfl) rfl #[.int .i64 (wrap64 (t121)), .int .i64 (Int.tmod (wrap64 (x5_1 + 7)) 8)] rfl (by (try simp only [List.map_toArray, List.map_cons, List.map_nil]); first | done | rfl | (simp only [List.length_drop, List.length_take]; rfl)) ?_; (with_reducible refine (saltusref05_Bit.calls (wrap64 (t121)) (Int.tmod (wrap64 (x5_1 + 7)) 8) t126 _ A8.out).mono ?_); rintro e w' ⟨rfl, ⟨nd, rfl⟩⟩; refine ⟨_, rfl, ?_⟩) | ((with_reducible refine gate_callee (f := 46) rfl ?_); refine goesL_ (some 42) rfl rfl Try.func46 (by kernel_rfl) rfl #[.int .i64 99, .int .i64 x5_1] rfl (by (try simp only [List.map_toArray, List.map_cons, List.map_nil]); first | done | rfl | (simp only [List.length_drop, List.length_take]; rfl)) ?_; (with_reducible refine (saltusref05_Bit.calls 99 x5_1 t127 _ A9.out).mono ?_); rintro e w' ⟨rfl, ⟨nd, rfl⟩⟩; refine ⟨_, rfl, ?_⟩) | ((with_reducible refine gate_callee (f := 47) rfl ?_); refine goesL_ (some 48) rfl rfl Try.func47 (by kernel_rfl) rfl #[.int .i64 x5_1] rfl (by (try simp only [List.map_toArray, List.map_cons, List.map_nil]); first | done | rfl | (simp only [List.length_drop, List.length_take]; rfl)) ?_; (with_reducible refine (saltusref05_pow.calls x5_1 t128 _ A10.out).mono ?_); rintro e w' ⟨rfl, ⟨nd, rfl⟩⟩; refine ⟨_, rfl, ?_⟩))
    go_roundg k1
    case measure => have := HK1.out; omega
    case rel => exact ⟨(wrap64 (x4_1 + (wrap64 ((Int.tmod (wrap64 ((wrap64 ((wrap64 ((wrap64 ((wrap64 (t122 + t123)) + t124)) + t125)) + t126)) + t127)) 2) * t128)))), (wrap64 (x5_1 + 1)), (by first | rfl | (simp; done) | (simp [*]; done)), (by first | rfl | (simp; done) | (simp [*]; done)), H', ⟨by have := HK1.out; omega⟩, by repeat (first | exact Drawn0.refl _ | apply Drawn0.step)⟩
   ·rw [if_neg c3] at H
    have c3b0 : decide (x5_1 < 8) = false := decide_eq_false c3
    clear c3
    obtain rfl := Option.some.inj H
    go_wp2
    go_ret
    exact ⟨by first | rfl | (simp; done) | (simp [*]; done), by repeat (first | exact Drawn0.refl _ | apply Drawn0.step)⟩
/-! ### saltusref06_text: function 52 -/
def saltusref06_text.f (l0 : List Int) : Option (ByteArray) := some (strOfNums l0)
set_option maxHeartbeats 8000000 in
set_option maxRecDepth 100000 in
theorem saltusref06_text.calls (A0 : Option Addr) (c0 : Nat) (l0 : List Int) (r : ByteArray) (w : World) (hr0 : Kd.C (Kd.int .u8) w A0 l0.length l0) (hc0 : l0.length ≤ c0) (h : saltusref06_text.f l0 = some r) :
  Calls Try.prog 52 #[.slice A0 l0.length c0] w fun e w' => e = .returned (.string r) ∧ Drawn0 w w' := by
 have HR0 := Aside0.mk hr0
 have HC0 := Aside0.mk hc0
 clear hr0 hc0
 have H : (some (strOfNums l0)) = some r := h
 clear h
 obtain rfl := Option.some.inj H
 have hcv2 := Kd.C_string (P := Try.prog) (A := A0) (c := c0) Try.underlying29 Try.underlying5 Try.underlying9 HR0.out
 go_enter Try.func52, Try.ntmps52
 go_wp2
 go_ret
 exact ⟨by first | rfl | (simp; done) | (simp [*]; done), by repeat (first | exact Drawn0.refl _ | apply Drawn0.step)⟩
/-! ### saltusref06_Boxed: function 28 -/
def saltusref06_Boxed.l0 : Nat → ByteArray → List Int → Int → Option (ByteArray)
 | 0, _, _, _ => none
 | k + 1, x0, x3, x4 => if x4 < (x0.size : Int) then (if 0 ≤ x4 then ((saltusref05_Box.f k (bt x0 x4)).bind fun t132 => (if x3.length < 140737488355328 then (saltusref06_Boxed.l0 k x0 (x3 ++ [t132]) (wrap64 (x4 + 1))) else (none))) else (none)) else ((saltusref06_text.f x3).bind fun t136 => (some t136))
def saltusref06_Boxed.f (k : Nat) (a0 : ByteArray) : Option (ByteArray) := saltusref06_Boxed.l0 k a0 (([] : List Int)) 0
theorem saltusref06_Boxed.mono_l : ∀ k, (∀ y0 y1 y2, LeO (saltusref06_Boxed.l0 k y0 y1 y2) (saltusref06_Boxed.l0 (k + 1) y0 y1 y2))
 | 0 => fun _ _ _ r h => by simp [saltusref06_Boxed.l0] at h
 | k + 1 => by
  have ih0 := saltusref06_Boxed.mono_l k
  ·intro y0 y1 y2
   unfold saltusref06_Boxed.l0
   repeat' first
   | (with_reducible exact ih0 _ _ _)
   | (with_reducible exact saltusref05_Box.mono _ _)
   | (with_reducible exact LeO.refl _)
   | (with_reducible exact LeO.none _)
   | (with_reducible refine LeO.ite ?_ ?_)
   | (with_reducible refine LeO.bind ?_ (fun _ => ?_))
   | exact ih0 _ _ _
   | exact saltusref05_Box.mono _ _
   | exact LeO.none _
   | refine LeO.ite ?_ ?_
   | refine LeO.bind ?_ (fun _ => ?_)
theorem saltusref06_Boxed.mono : ∀ a0 k, LeO (saltusref06_Boxed.f k a0) (saltusref06_Boxed.f (k + 1) a0) := by
 intro a0 k
 have ih0 := saltusref06_Boxed.mono_l k
 unfold saltusref06_Boxed.f
 repeat' first
   | (with_reducible exact ih0 _ _ _)
   | (with_reducible exact saltusref05_Box.mono _ _)
   | (with_reducible exact LeO.refl _)
   | (with_reducible exact LeO.none _)
   | (with_reducible refine LeO.ite ?_ ?_)
   | (with_reducible refine LeO.bind ?_ (fun _ => ?_))
   | exact ih0 _ _ _
   | exact saltusref05_Box.mono _ _
   | exact LeO.none _
   | refine LeO.ite ?_ ?_
   | refine LeO.bind ?_ (fun _ => ?_)
set_option maxHeartbeats 8000000 in
set_option maxRecDepth 100000 in
theorem saltusref06_Boxed.calls (k : Nat) (a0 : ByteArray) (r : ByteArray) (w : World) (h : saltusref06_Boxed.f k a0 = some r) :
  Calls Try.prog 28 #[.string a0] w fun e w' => e = .returned (.string r) ∧ Below w.heap.size w w' := by
 have HB := Aside0.mk (Below.refl w.heap.size w)
 have H : (saltusref06_Boxed.l0 k a0 (([] : List Int)) 0) = some r := h
 clear h
 obtain ⟨y129, hy129⟩ : ∃ y_ : List Int, y_ = (([] : List Int)) := ⟨_, rfl⟩
 replace H : (saltusref06_Boxed.l0 k a0 y129 0) = some r := by first | (rw [hy129]; with_reducible exact H) | (have H2_ := (Option.bind_some _ _).symm.trans H; rw [hy129]; with_reducible exact H2_) | (have H2_ := (Option.bind_some _ _).symm.trans H; with_reducible exact H2_) | with_reducible exact H | (rw [hy129]; exact H) | exact H
 have Ny129 := Aside0.mk hy129
 clear hy129
 have H' := Aside0.mk H
 clear H
 go_enter Try.func28, Try.ntmps28
 go_wp2_with (first | ((with_reducible refine gate_dst (N := 5) rfl ?_); refine Kd.R_lit (Kd.int .u8) _ 5 ?hg (N := 5) ?hd (xs := ([] : List Int)) (inner := []) (ok := fun _ => True) (okp := fun _ => True) ?hr ?hp (fun _ hk => hk) trivial (Below.refl _ _) (Nat.le_refl _) (by simp) ?_; (case hd => rfl); (case hg => rfl); (case hr => first | (go_simp; done) | (go_simp; rfl)); (case hp => exact (Reps.none _ _)); intro v130 w2 ho3 hb hg_ hnew_; clear hg_ hnew_; (first | rw [← Ny129.out] at ho3 | (simp only [Int.reduceToNat] at ho3; rw [← Ny129.out] at ho3)); have n0_ := Aside0.mk (Kd.R_lower ho3 (below_size (by repeat (first | (with_reducible first | exact HB.out | apply below_alloc | apply pw_below_drewN | apply below_drew1) | exact HB.out)))); have n1_ := Aside0.mk (below_step (by repeat (first | (with_reducible first | exact HB.out | apply below_alloc | apply pw_below_drewN | apply below_drew1) | exact HB.out)) hb); clear HB; have HO131 := n0_; have HB := n1_; clear n0_ n1_; clear hb ho3))
 go_loopg [3, 4] k (fun kq v3 v4 w' => ∃ (x3_1 : List Int) (x4_1 : Int), v4 = .int .i64 x4_1 ∧ Aside0 (saltusref06_Boxed.l0 kq a0 x3_1 x4_1 = some r) ∧ Aside0 (kq ≤ k) ∧ Aside0 (Kd.R (Kd.int .u8) 5 w' w.heap.size (fun _ => True) v3 x3_1) ∧ Aside0 (Below w.heap.size w w'))
 case atStart => exact ⟨(y129), (0), (by first | rfl | (simp; done) | (simp [*]; done)), H', ⟨Nat.le_refl _⟩, ⟨by (with_reducible repeat (first | apply Kd.R_alloc | apply Kd.R_drewN | apply Kd.R_drew)); exact HO131.out⟩, ⟨by repeat (first | (with_reducible first | exact HB.out | apply below_alloc | apply pw_below_drewN | apply below_drew1) | exact HB.out)⟩⟩
 case round =>
  clear H'
  try clear c2
  try clear p2
  obtain ⟨x3_1, x4_1, rfl, HA, HK1, HO_3, HB⟩ := hrel
  cases gk with
  | zero => exact absurd HA.out (by simp [saltusref06_Boxed.l0])
  | succ k1 =>
   have H := HA.out
   clear HA
   simp only [saltusref06_Boxed.l0] at H
   by_cases c4 : x4_1 < (a0.size : Int)
   ·rw [if_pos c4] at H
    have c4b0 : decide (x4_1 < (a0.size : Int)) = true := decide_eq_true c4
    clear c4
    by_cases c5 : 0 ≤ x4_1
    ·rw [if_pos c5] at H
     have c5b0 : decide (0 ≤ x4_1) = true := decide_eq_true c5
     clear c5
     replace H := Option.bind_eq_some_iff.mp H
     obtain ⟨t132, A70, H⟩ := H
     (try dsimp only at H)
     have A7 := Aside0.mk A70
     clear A70
     by_cases c8 : x3_1.length < 140737488355328
     ·rw [if_pos c8] at H
      have LMc8 := Aside0.mk c8
      clear c8
      obtain ⟨y133, hy133⟩ : ∃ y_ : List Int, y_ = (x3_1 ++ [t132]) := ⟨_, rfl⟩
      replace H : (saltusref06_Boxed.l0 k1 a0 y133 (wrap64 (x4_1 + 1))) = some r := by first | (rw [hy133]; with_reducible exact H) | (have H2_ := (Option.bind_some _ _).symm.trans H; rw [hy133]; with_reducible exact H2_) | (have H2_ := (Option.bind_some _ _).symm.trans H; with_reducible exact H2_) | with_reducible exact H | (rw [hy133]; exact H) | exact H
      have Ny133 := Aside0.mk hy133
      clear hy133
      have H' := Aside0.mk H
      clear H
      have p6 : 0 ≤ (x4_1 : Int) := of_decide_eq_true (by first | (with_reducible assumption) | assumption)
      have q6 : x4_1 < (a0.size : Int) := of_decide_eq_true (by first | (with_reducible assumption) | assumption)
      have hx6 := bt_at a0 x4_1
      replace p6 := eq_true p6
      replace q6 := eq_true q6
      go_wp2_with (first | ((with_reducible refine gate_callee (f := 22) rfl ?_); refine goesL_ (some 16) rfl rfl Try.func22 (by kernel_rfl) rfl #[.int .u8 (bt a0 x4_1)] rfl (by (try simp only [List.map_toArray, List.map_cons, List.map_nil]); first | done | rfl | (simp only [List.length_drop, List.length_take]; rfl)) ?_; (with_reducible refine (saltusref05_Box.calls k1 (bt a0 x4_1) t132 _ A7.out).mono ?_); rintro e w' ⟨rfl, ⟨nd, rfl⟩⟩; refine ⟨_, rfl, ?_⟩) | ((with_reducible refine gate_builtin (b := .append) (xs := #[.tmp 12, .tmp 17]) rfl ?_); at_builtin; refine Kd.R_append (Kd.int .u8) (w0 := w) w.heap.size rfl (.tmp 12) (.tmp 17) 29 5 (.int .u8 0) 1 rfl Try.underlying29 info5 rfl (by decide) (by omega) u3 x3_1 t132 [.int .u8 t132] (fun _ => True) (fun _ => False) rfl rfl ?aP (fun _ hk => hk.elim) ?aF ?aO ?aB ?aS ?aL ?_; (case aP => exact rfl); (case aB => exact (by repeat (first | (with_reducible first | exact HB.out | apply below_alloc | apply pw_below_drewN | apply below_drew1) | exact HB.out))); (case aF => exact (fun _ _ => trivial)); (case aO => exact (by (with_reducible repeat (first | apply Kd.R_alloc | apply Kd.R_drewN | apply Kd.R_drew)); exact HO_3.out)); (case aS => exact (below_size (by repeat (first | (with_reducible first | exact HB.out | apply below_alloc | apply pw_below_drewN | apply below_drew1) | exact HB.out)))); (case aL => have := LMc8.out; omega); intro v134 w9 ho hb hg hat; rw [← Ny133.out] at ho; have n0_ := Aside0.mk (hb); have n1_ := Aside0.mk (ho); clear HB; clear HO_3; have HB := n0_; have HO135 := n1_; clear n0_ n1_; clear ho hb hg hat))
      go_roundg k1
      case measure => have := HK1.out; omega
      case rel => exact ⟨(y133), (wrap64 (x4_1 + 1)), (by first | rfl | (simp; done) | (simp [*]; done)), H', ⟨by have := HK1.out; omega⟩, ⟨by (with_reducible repeat (first | apply Kd.R_alloc | apply Kd.R_drewN | apply Kd.R_drew)); exact HO135.out⟩, ⟨by repeat (first | (with_reducible first | exact HB.out | apply below_alloc | apply pw_below_drewN | apply below_drew1) | exact HB.out)⟩⟩
     ·rw [if_neg c8] at H
      exact absurd H (by simp)
    ·rw [if_neg c5] at H
     exact absurd H (by simp)
   ·rw [if_neg c4] at H
    have c4b0 : decide (x4_1 < (a0.size : Int)) = false := decide_eq_false c4
    clear c4
    replace H := Option.bind_eq_some_iff.mp H
    obtain ⟨t136, A100, H⟩ := H
    (try dsimp only at H)
    have A10 := Aside0.mk A100
    clear A100
    obtain rfl := Option.some.inj H
    obtain ⟨Ao11, co11, eo11⟩ := Kd.R_slice HO_3.out
    subst eo11
    go_wp2_with (first | ((with_reducible refine gate_callee (f := 52) rfl ?_); refine goesL_ (some 20) rfl rfl Try.func52 (by kernel_rfl) rfl #[.slice Ao11 x3_1.length co11] rfl (by (try simp only [List.map_toArray, List.map_cons, List.map_nil]); first | done | rfl | (simp only [List.length_drop, List.length_take]; rfl)) ?_; (with_reducible refine (saltusref06_text.calls _ _ x3_1 t136 _ ?side1 ?side2 A10.out).mono ?_); (case side1 => repeat (first | exact (Kd.R_reads' HO_3.out).2.2 | (with_reducible refine Kd.C_alloc ?_ _) | (with_reducible refine Kd.C_drewN ?_ _) | (with_reducible refine Kd.C_drew ?_))); (case side2 => exact (Kd.R_reads' HO_3.out).2.1); rintro e w' ⟨rfl, ⟨nd, rfl⟩⟩; refine ⟨_, rfl, ?_⟩))
    go_ret
    exact ⟨by first | rfl | (simp [errW_none, errW_some] <;> rfl) | (simp [*, errW_none, errW_some] <;> rfl), by repeat (first | (with_reducible first | exact HB.out | apply below_alloc | apply pw_below_drewN | apply below_drew1) | exact HB.out)⟩
/-! ### saltusref06_Turned: function 29 -/
mutual
def saltusref06_Turned.l0 : Nat → ByteArray → List Int → Int → Option (ByteArray)
 | 0, _, _, _ => none
 | k + 1, x0, x3, x4 => if x4 < 4 then (saltusref06_Turned.l1 k x0 x3 x4 0) else ((saltusref06_text.f x3).bind fun t140 => (some t140))
def saltusref06_Turned.l1 : Nat → ByteArray → List Int → Int → Int → Option (ByteArray)
 | 0, _, _, _, _ => none
 | k + 1, x0, x3, x4, x5 => if x5 < 4 then (if 0 ≤ (wrap64 ((wrap64 (4 * (Int.tmod (wrap64 (x4 + x5)) 4))) + x5)) then (if (wrap64 ((wrap64 (4 * (Int.tmod (wrap64 (x4 + x5)) 4))) + x5)) < (x0.size : Int) then (if x3.length < 140737488355328 then (saltusref06_Turned.l1 k x0 (x3 ++ [bt x0 (wrap64 ((wrap64 (4 * (Int.tmod (wrap64 (x4 + x5)) 4))) + x5))]) x4 (wrap64 (x5 + 1))) else (none)) else (none)) else (none)) else (saltusref06_Turned.l0 k x0 x3 (wrap64 (x4 + 1)))
end
def saltusref06_Turned.f (k : Nat) (a0 : ByteArray) : Option (ByteArray) := saltusref06_Turned.l0 k a0 (([] : List Int)) 0
theorem saltusref06_Turned.mono_l : ∀ k, (∀ y0 y1 y2, LeO (saltusref06_Turned.l0 k y0 y1 y2) (saltusref06_Turned.l0 (k + 1) y0 y1 y2)) ∧ (∀ y0 y1 y2 y3, LeO (saltusref06_Turned.l1 k y0 y1 y2 y3) (saltusref06_Turned.l1 (k + 1) y0 y1 y2 y3))
 | 0 => ⟨fun _ _ _ r h => by simp [saltusref06_Turned.l0] at h, fun _ _ _ _ r h => by simp [saltusref06_Turned.l1] at h⟩
 | k + 1 => by
  obtain ⟨ih0, ih1⟩ := saltusref06_Turned.mono_l k
  refine ⟨?_, ?_⟩
  ·intro y0 y1 y2
   unfold saltusref06_Turned.l0
   repeat' first
   | (with_reducible exact ih0 _ _ _)
   | (with_reducible exact ih1 _ _ _ _)
   | (with_reducible exact LeO.refl _)
   | (with_reducible exact LeO.none _)
   | (with_reducible refine LeO.ite ?_ ?_)
   | (with_reducible refine LeO.bind ?_ (fun _ => ?_))
   | exact ih0 _ _ _
   | exact ih1 _ _ _ _
   | exact LeO.none _
   | refine LeO.ite ?_ ?_
   | refine LeO.bind ?_ (fun _ => ?_)
  ·intro y0 y1 y2 y3
   unfold saltusref06_Turned.l1
   repeat' first
   | (with_reducible exact ih0 _ _ _)
   | (with_reducible exact ih1 _ _ _ _)
   | (with_reducible exact LeO.refl _)
   | (with_reducible exact LeO.none _)
   | (with_reducible refine LeO.ite ?_ ?_)
   | (with_reducible refine LeO.bind ?_ (fun _ => ?_))
   | exact ih0 _ _ _
   | exact ih1 _ _ _ _
   | exact LeO.none _
   | refine LeO.ite ?_ ?_
   | refine LeO.bind ?_ (fun _ => ?_)
theorem saltusref06_Turned.mono : ∀ a0 k, LeO (saltusref06_Turned.f k a0) (saltusref06_Turned.f (k + 1) a0) := by
 intro a0 k
 obtain ⟨ih0, ih1⟩ := saltusref06_Turned.mono_l k
 unfold saltusref06_Turned.f
 repeat' first
   | (with_reducible exact ih0 _ _ _)
   | (with_reducible exact ih1 _ _ _ _)
   | (with_reducible exact LeO.refl _)
   | (with_reducible exact LeO.none _)
   | (with_reducible refine LeO.ite ?_ ?_)
   | (with_reducible refine LeO.bind ?_ (fun _ => ?_))
   | exact ih0 _ _ _
   | exact ih1 _ _ _ _
   | exact LeO.none _
   | refine LeO.ite ?_ ?_
   | refine LeO.bind ?_ (fun _ => ?_)
set_option maxHeartbeats 8000000 in
set_option maxRecDepth 100000 in
theorem saltusref06_Turned.calls (k : Nat) (a0 : ByteArray) (r : ByteArray) (w : World) (h : saltusref06_Turned.f k a0 = some r) :
  Calls Try.prog 29 #[.string a0] w fun e w' => e = .returned (.string r) ∧ Below w.heap.size w w' := by
 have HB := Aside0.mk (Below.refl w.heap.size w)
 have H : (saltusref06_Turned.l0 k a0 (([] : List Int)) 0) = some r := h
 clear h
 obtain ⟨y137, hy137⟩ : ∃ y_ : List Int, y_ = (([] : List Int)) := ⟨_, rfl⟩
 replace H : (saltusref06_Turned.l0 k a0 y137 0) = some r := by first | (rw [hy137]; with_reducible exact H) | (have H2_ := (Option.bind_some _ _).symm.trans H; rw [hy137]; with_reducible exact H2_) | (have H2_ := (Option.bind_some _ _).symm.trans H; with_reducible exact H2_) | with_reducible exact H | (rw [hy137]; exact H) | exact H
 have Ny137 := Aside0.mk hy137
 clear hy137
 have H' := Aside0.mk H
 clear H
 go_enter Try.func29, Try.ntmps29
 go_wp2_with (first | ((with_reducible refine gate_dst (N := 6) rfl ?_); refine Kd.R_lit (Kd.int .u8) _ 5 ?hg (N := 6) ?hd (xs := ([] : List Int)) (inner := []) (ok := fun _ => True) (okp := fun _ => True) ?hr ?hp (fun _ hk => hk) trivial (Below.refl _ _) (Nat.le_refl _) (by simp) ?_; (case hd => rfl); (case hg => rfl); (case hr => first | (go_simp; done) | (go_simp; rfl)); (case hp => exact (Reps.none _ _)); intro v138 w2 ho3 hb hg_ hnew_; clear hg_ hnew_; (first | rw [← Ny137.out] at ho3 | (simp only [Int.reduceToNat] at ho3; rw [← Ny137.out] at ho3)); have n0_ := Aside0.mk (Kd.R_lower ho3 (below_size (by repeat (first | (with_reducible first | exact HB.out | apply below_alloc | apply pw_below_drewN | apply below_drew1) | exact HB.out)))); have n1_ := Aside0.mk (below_step (by repeat (first | (with_reducible first | exact HB.out | apply below_alloc | apply pw_below_drewN | apply below_drew1) | exact HB.out)) hb); clear HB; have HO139 := n0_; have HB := n1_; clear n0_ n1_; clear hb ho3))
 go_loopg [3, 4] k (fun kq v3 v4 w' => ∃ (x3_1 : List Int) (x4_1 : Int), v4 = .int .i64 x4_1 ∧ Aside0 (saltusref06_Turned.l0 kq a0 x3_1 x4_1 = some r) ∧ Aside0 (kq ≤ k) ∧ Aside0 (Kd.R (Kd.int .u8) 5 w' w.heap.size (fun _ => True) v3 x3_1) ∧ Aside0 (Below w.heap.size w w'))
 case atStart => exact ⟨(y137), (0), (by first | rfl | (simp; done) | (simp [*]; done)), H', ⟨Nat.le_refl _⟩, ⟨by (with_reducible repeat (first | apply Kd.R_alloc | apply Kd.R_drewN | apply Kd.R_drew)); exact HO139.out⟩, ⟨by repeat (first | (with_reducible first | exact HB.out | apply below_alloc | apply pw_below_drewN | apply below_drew1) | exact HB.out)⟩⟩
 case round =>
  clear H'
  try clear c2
  try clear p2
  obtain ⟨x3_1, x4_1, rfl, HA, HK1, HO_3, HB⟩ := hrel
  cases gk with
  | zero => exact absurd HA.out (by simp [saltusref06_Turned.l0])
  | succ k1 =>
   have H := HA.out
   clear HA
   simp only [saltusref06_Turned.l0] at H
   by_cases c4 : x4_1 < 4
   ·rw [if_pos c4] at H
    have c4b0 : decide (x4_1 < 4) = true := decide_eq_true c4
    clear c4
    have H' := Aside0.mk H
    clear H
    go_wp2
    go_loopg [3, 5] k1 (fun kq v3 v5 w' => ∃ (x3_2 : List Int) (x5_2 : Int), v5 = .int .i64 x5_2 ∧ Aside0 (saltusref06_Turned.l1 kq a0 x3_2 x4_1 x5_2 = some r) ∧ Aside0 (kq ≤ k1) ∧ Aside0 (Kd.R (Kd.int .u8) 5 w' w.heap.size (fun _ => True) v3 x3_2) ∧ Aside0 (Below w.heap.size w w'))
    case atStart => exact ⟨(x3_1), (0), (by first | rfl | (simp; done) | (simp [*]; done)), H', ⟨Nat.le_refl _⟩, ⟨by (with_reducible repeat (first | apply Kd.R_alloc | apply Kd.R_drewN | apply Kd.R_drew)); exact HO_3.out⟩, ⟨by repeat (first | (with_reducible first | exact HB.out | apply below_alloc | apply pw_below_drewN | apply below_drew1) | exact HB.out)⟩⟩
    case round =>
     clear H'
     try clear c2
     try clear p2
     try clear c4
     try clear c4b0
     try clear p2
     obtain ⟨x3_2, x5_2, rfl, HA, HK2, HO_3, HB⟩ := hrel
     cases gk with
     | zero => exact absurd HA.out (by simp [saltusref06_Turned.l1])
     | succ k2 =>
      have H := HA.out
      clear HA
      simp only [saltusref06_Turned.l1] at H
      by_cases c5 : x5_2 < 4
      ·rw [if_pos c5] at H
       have c5b0 : decide (x5_2 < 4) = true := decide_eq_true c5
       clear c5
       obtain ⟨ji6, hji6⟩ : ∃ j_ : Int, (wrap64 ((wrap64 (4 * (Int.tmod (wrap64 (x4_1 + x5_2)) 4))) + x5_2)) = j_ := ⟨_, rfl⟩
       replace H : (if 0 ≤ (ji6) then (if (ji6) < (a0.size : Int) then (if x3_2.length < 140737488355328 then (saltusref06_Turned.l1 k2 a0 (x3_2 ++ [bt a0 (ji6)]) x4_1 (wrap64 (x5_2 + 1))) else (none)) else (none)) else (none)) = some r := by first | (rw [hji6] at H; exact H) | (simp only [hji6] at H ⊢; exact H)
       have hji6w : (IntKind.i64.wrap ((wrap64 (4 * (Int.tmod (wrap64 (x4_1 + x5_2)) 4))) + x5_2)) = ji6 := (i64_w _).trans hji6
       by_cases c7 : 0 ≤ (ji6)
       ·rw [if_pos c7] at H
        have c7b0 : decide (0 ≤ (ji6)) = true := decide_eq_true c7
        clear c7
        by_cases c8 : (ji6) < (a0.size : Int)
        ·rw [if_pos c8] at H
         have c8b0 : decide ((ji6) < (a0.size : Int)) = true := decide_eq_true c8
         clear c8
         by_cases c10 : x3_2.length < 140737488355328
         ·rw [if_pos c10] at H
          have LMc10 := Aside0.mk c10
          clear c10
          obtain ⟨y141, hy141⟩ : ∃ y_ : List Int, y_ = (x3_2 ++ [bt a0 (ji6)]) := ⟨_, rfl⟩
          replace H : (saltusref06_Turned.l1 k2 a0 y141 x4_1 (wrap64 (x5_2 + 1))) = some r := by first | (rw [hy141]; with_reducible exact H) | (have H2_ := (Option.bind_some _ _).symm.trans H; rw [hy141]; with_reducible exact H2_) | (have H2_ := (Option.bind_some _ _).symm.trans H; with_reducible exact H2_) | with_reducible exact H | (rw [hy141]; exact H) | exact H
          have Ny141 := Aside0.mk hy141
          clear hy141
          have H' := Aside0.mk H
          clear H
          have p9 : 0 ≤ ((ji6) : Int) := of_decide_eq_true (by first | (with_reducible assumption) | assumption)
          have q9 : (ji6) < (a0.size : Int) := of_decide_eq_true (by first | (with_reducible assumption) | assumption)
          have hx9 := bt_at a0 (ji6)
          replace p9 := eq_true p9
          replace q9 := eq_true q9
          go_wp2_with (first | ((with_reducible refine gate_builtin (b := .append) (xs := #[.tmp 15, .tmp 25]) rfl ?_); at_builtin; refine Kd.R_append (Kd.int .u8) (w0 := w) w.heap.size rfl (.tmp 15) (.tmp 25) 29 5 (.int .u8 0) 1 rfl Try.underlying29 info5 rfl (by decide) (by omega) u3 x3_2 (bt a0 (ji6)) [.int .u8 (bt a0 (ji6))] (fun _ => True) (fun _ => False) rfl rfl ?aP (fun _ hk => hk.elim) ?aF ?aO ?aB ?aS ?aL ?_; (case aP => exact rfl); (case aB => exact (by repeat (first | (with_reducible first | exact HB.out | apply below_alloc | apply pw_below_drewN | apply below_drew1) | exact HB.out))); (case aF => exact (fun _ _ => trivial)); (case aO => exact (by (with_reducible repeat (first | apply Kd.R_alloc | apply Kd.R_drewN | apply Kd.R_drew)); exact HO_3.out)); (case aS => exact (below_size (by repeat (first | (with_reducible first | exact HB.out | apply below_alloc | apply pw_below_drewN | apply below_drew1) | exact HB.out)))); (case aL => have := LMc10.out; omega); intro v142 w11 ho hb hg hat; rw [← Ny141.out] at ho; have n0_ := Aside0.mk (hb); have n1_ := Aside0.mk (ho); clear HB; clear HO_3; have HB := n0_; have HO143 := n1_; clear n0_ n1_; clear ho hb hg hat))
          go_roundg k2
          case measure => have := HK1.out; have := HK2.out; omega
          case rel => exact ⟨(y141), (wrap64 (x5_2 + 1)), (by first | rfl | (simp; done) | (simp [*]; done)), H', ⟨by have := HK1.out; have := HK2.out; omega⟩, ⟨by (with_reducible repeat (first | apply Kd.R_alloc | apply Kd.R_drewN | apply Kd.R_drew)); exact HO143.out⟩, ⟨by repeat (first | (with_reducible first | exact HB.out | apply below_alloc | apply pw_below_drewN | apply below_drew1) | exact HB.out)⟩⟩
         ·rw [if_neg c10] at H
          exact absurd H (by simp)
        ·rw [if_neg c8] at H
         exact absurd H (by simp)
       ·rw [if_neg c7] at H
        exact absurd H (by simp)
      ·rw [if_neg c5] at H
       have c5b0 : decide (x5_2 < 4) = false := decide_eq_false c5
       clear c5
       have H' := Aside0.mk H
       clear H
       go_wp2
       go_roundg k2
       case measure => have := HK1.out; have := HK2.out; omega
       case rel => exact ⟨(x3_2), (wrap64 (x4_1 + 1)), (by first | rfl | (simp; done) | (simp [*]; done)), H', ⟨by have := HK1.out; have := HK2.out; omega⟩, ⟨by (with_reducible repeat (first | apply Kd.R_alloc | apply Kd.R_drewN | apply Kd.R_drew)); exact HO_3.out⟩, ⟨by repeat (first | (with_reducible first | exact HB.out | apply below_alloc | apply pw_below_drewN | apply below_drew1) | exact HB.out)⟩⟩
   ·rw [if_neg c4] at H
    have c4b0 : decide (x4_1 < 4) = false := decide_eq_false c4
    clear c4
    replace H := Option.bind_eq_some_iff.mp H
    obtain ⟨t140, A120, H⟩ := H
    (try dsimp only at H)
    have A12 := Aside0.mk A120
    clear A120
    obtain rfl := Option.some.inj H
    obtain ⟨Ao13, co13, eo13⟩ := Kd.R_slice HO_3.out
    subst eo13
    go_wp2_with (first | ((with_reducible refine gate_callee (f := 52) rfl ?_); refine goesL_ (some 28) rfl rfl Try.func52 (by kernel_rfl) rfl #[.slice Ao13 x3_1.length co13] rfl (by (try simp only [List.map_toArray, List.map_cons, List.map_nil]); first | done | rfl | (simp only [List.length_drop, List.length_take]; rfl)) ?_; (with_reducible refine (saltusref06_text.calls _ _ x3_1 t140 _ ?side1 ?side2 A12.out).mono ?_); (case side1 => repeat (first | exact (Kd.R_reads' HO_3.out).2.2 | (with_reducible refine Kd.C_alloc ?_ _) | (with_reducible refine Kd.C_drewN ?_ _) | (with_reducible refine Kd.C_drew ?_))); (case side2 => exact (Kd.R_reads' HO_3.out).2.1); rintro e w' ⟨rfl, ⟨nd, rfl⟩⟩; refine ⟨_, rfl, ?_⟩))
    go_ret
    exact ⟨by first | rfl | (simp [errW_none, errW_some] <;> rfl) | (simp [*, errW_none, errW_some] <;> rfl), by repeat (first | (with_reducible first | exact HB.out | apply below_alloc | apply pw_below_drewN | apply below_drew1) | exact HB.out)⟩
/-! ### saltusref06_factor: function 53 -/
def saltusref06_factor.f (a0 : Int) (a1 : Int) : Option (Int) := if a0 = a1 then (some 2) else (if (Int.tmod (wrap64 (a0 + 1)) 4) = a1 then (some 3) else (some 1))
set_option maxHeartbeats 8000000 in
set_option maxRecDepth 100000 in
theorem saltusref06_factor.calls (a0 : Int) (a1 : Int) (r : Int) (w : World) (h : saltusref06_factor.f a0 a1 = some r) :
  Calls Try.prog 53 #[.int .i64 a0, .int .i64 a1] w fun e w' => e = .returned (.int .u8 r) ∧ Drawn0 w w' := by
 have H : (if a0 = a1 then (some 2) else (if (Int.tmod (wrap64 (a0 + 1)) 4) = a1 then (some 3) else (some 1))) = some r := h
 clear h
 by_cases c3 : a0 = a1
 ·rw [if_pos c3] at H
  have c3b0 : (a0 == a1) = true := beq_iff_eq.mpr c3
  have c3b1 : (a0 != a1) = false := bne_eq_false_iff_eq.mpr c3
  clear c3
  obtain rfl := Option.some.inj H
  go_enter Try.func53, Try.ntmps53
  go_wp2
  go_ret
  exact ⟨by first | rfl | (simp; done) | (simp [*]; done), by repeat (first | exact Drawn0.refl _ | apply Drawn0.step)⟩
 ·rw [if_neg c3] at H
  have c3b0 : (a0 == a1) = false := beq_eq_false_iff_ne.mpr c3
  have c3b1 : (a0 != a1) = true := bne_iff_ne.mpr c3
  by_cases c4 : (Int.tmod (wrap64 (a0 + 1)) 4) = a1
  ·rw [if_pos c4] at H
   have c4b0 : ((Int.tmod (wrap64 (a0 + 1)) 4) == a1) = true := beq_iff_eq.mpr c4
   have c4b1 : ((Int.tmod (wrap64 (a0 + 1)) 4) != a1) = false := bne_eq_false_iff_eq.mpr c4
   clear c4
   obtain rfl := Option.some.inj H
   go_enter Try.func53, Try.ntmps53
   go_wp2
   go_ret
   exact ⟨by first | rfl | (simp; done) | (simp [*]; done), by repeat (first | exact Drawn0.refl _ | apply Drawn0.step)⟩
  ·rw [if_neg c4] at H
   have c4b0 : ((Int.tmod (wrap64 (a0 + 1)) 4) == a1) = false := beq_eq_false_iff_ne.mpr c4
   have c4b1 : ((Int.tmod (wrap64 (a0 + 1)) 4) != a1) = true := bne_iff_ne.mpr c4
   obtain rfl := Option.some.inj H
   go_enter Try.func53, Try.ntmps53
   go_wp2
   go_ret
   exact ⟨by first | rfl | (simp; done) | (simp [*]; done), by repeat (first | exact Drawn0.refl _ | apply Drawn0.step)⟩
/-! ### saltusref06_Mixed: function 30 -/
mutual
def saltusref06_Mixed.l0 : Nat → ByteArray → List Int → Int → Option (ByteArray)
 | 0, _, _, _ => none
 | k + 1, x0, x3, x4 => if x4 < 4 then (saltusref06_Mixed.l1 k x0 x3 x4 0) else ((saltusref06_text.f x3).bind fun t147 => (some t147))
def saltusref06_Mixed.l1 : Nat → ByteArray → List Int → Int → Int → Option (ByteArray)
 | 0, _, _, _, _ => none
 | k + 1, x0, x3, x4, x5 => if x5 < 4 then (saltusref06_Mixed.l2 k x0 x3 x4 x5 0 0) else (saltusref06_Mixed.l0 k x0 x3 (wrap64 (x4 + 1)))
def saltusref06_Mixed.l2 : Nat → ByteArray → List Int → Int → Int → Int → Int → Option (ByteArray)
 | 0, _, _, _, _, _, _ => none
 | k + 1, x0, x3, x4, x5, x6, x7 => if x7 < 4 then (if 0 ≤ (wrap64 ((wrap64 (4 * x4)) + x7)) then (if (wrap64 ((wrap64 (4 * x4)) + x7)) < (x0.size : Int) then ((saltusref06_factor.f x5 x7).bind fun t148 => ((saltusref05_Mul.f k (bt x0 (wrap64 ((wrap64 (4 * x4)) + x7))) t148).bind fun t149 => (saltusref06_Mixed.l2 k x0 x3 x4 x5 (Go.bits .xor .u8 x6 t149) (wrap64 (x7 + 1))))) else (none)) else (none)) else (if x3.length < 140737488355328 then (saltusref06_Mixed.l1 k x0 (x3 ++ [x6]) x4 (wrap64 (x5 + 1))) else (none))
end
def saltusref06_Mixed.f (k : Nat) (a0 : ByteArray) : Option (ByteArray) := saltusref06_Mixed.l0 k a0 (([] : List Int)) 0
theorem saltusref06_Mixed.mono_l : ∀ k, (∀ y0 y1 y2, LeO (saltusref06_Mixed.l0 k y0 y1 y2) (saltusref06_Mixed.l0 (k + 1) y0 y1 y2)) ∧ (∀ y0 y1 y2 y3, LeO (saltusref06_Mixed.l1 k y0 y1 y2 y3) (saltusref06_Mixed.l1 (k + 1) y0 y1 y2 y3)) ∧ (∀ y0 y1 y2 y3 y4 y5, LeO (saltusref06_Mixed.l2 k y0 y1 y2 y3 y4 y5) (saltusref06_Mixed.l2 (k + 1) y0 y1 y2 y3 y4 y5))
 | 0 => ⟨fun _ _ _ r h => by simp [saltusref06_Mixed.l0] at h, fun _ _ _ _ r h => by simp [saltusref06_Mixed.l1] at h, fun _ _ _ _ _ _ r h => by simp [saltusref06_Mixed.l2] at h⟩
 | k + 1 => by
  obtain ⟨ih0, ih1, ih2⟩ := saltusref06_Mixed.mono_l k
  refine ⟨?_, ?_, ?_⟩
  ·intro y0 y1 y2
   unfold saltusref06_Mixed.l0
   repeat' first
   | (with_reducible exact ih0 _ _ _)
   | (with_reducible exact ih1 _ _ _ _)
   | (with_reducible exact ih2 _ _ _ _ _ _)
   | (with_reducible exact saltusref05_Mul.mono _ _ _)
   | (with_reducible exact LeO.refl _)
   | (with_reducible exact LeO.none _)
   | (with_reducible refine LeO.ite ?_ ?_)
   | (with_reducible refine LeO.bind ?_ (fun _ => ?_))
   | exact ih0 _ _ _
   | exact ih1 _ _ _ _
   | exact ih2 _ _ _ _ _ _
   | exact saltusref05_Mul.mono _ _ _
   | exact LeO.none _
   | refine LeO.ite ?_ ?_
   | refine LeO.bind ?_ (fun _ => ?_)
  ·intro y0 y1 y2 y3
   unfold saltusref06_Mixed.l1
   repeat' first
   | (with_reducible exact ih0 _ _ _)
   | (with_reducible exact ih1 _ _ _ _)
   | (with_reducible exact ih2 _ _ _ _ _ _)
   | (with_reducible exact saltusref05_Mul.mono _ _ _)
   | (with_reducible exact LeO.refl _)
   | (with_reducible exact LeO.none _)
   | (with_reducible refine LeO.ite ?_ ?_)
   | (with_reducible refine LeO.bind ?_ (fun _ => ?_))
   | exact ih0 _ _ _
   | exact ih1 _ _ _ _
   | exact ih2 _ _ _ _ _ _
   | exact saltusref05_Mul.mono _ _ _
   | exact LeO.none _
   | refine LeO.ite ?_ ?_
   | refine LeO.bind ?_ (fun _ => ?_)
  ·intro y0 y1 y2 y3 y4 y5
   unfold saltusref06_Mixed.l2
   repeat' first
   | (with_reducible exact ih0 _ _ _)
   | (with_reducible exact ih1 _ _ _ _)
   | (with_reducible exact ih2 _ _ _ _ _ _)
   | (with_reducible exact saltusref05_Mul.mono _ _ _)
   | (with_reducible exact LeO.refl _)
   | (with_reducible exact LeO.none _)
   | (with_reducible refine LeO.ite ?_ ?_)
   | (with_reducible refine LeO.bind ?_ (fun _ => ?_))
   | exact ih0 _ _ _
   | exact ih1 _ _ _ _
   | exact ih2 _ _ _ _ _ _
   | exact saltusref05_Mul.mono _ _ _
   | exact LeO.none _
   | refine LeO.ite ?_ ?_
   | refine LeO.bind ?_ (fun _ => ?_)
theorem saltusref06_Mixed.mono : ∀ a0 k, LeO (saltusref06_Mixed.f k a0) (saltusref06_Mixed.f (k + 1) a0) := by
 intro a0 k
 obtain ⟨ih0, ih1, ih2⟩ := saltusref06_Mixed.mono_l k
 unfold saltusref06_Mixed.f
 repeat' first
   | (with_reducible exact ih0 _ _ _)
   | (with_reducible exact ih1 _ _ _ _)
   | (with_reducible exact ih2 _ _ _ _ _ _)
   | (with_reducible exact saltusref05_Mul.mono _ _ _)
   | (with_reducible exact LeO.refl _)
   | (with_reducible exact LeO.none _)
   | (with_reducible refine LeO.ite ?_ ?_)
   | (with_reducible refine LeO.bind ?_ (fun _ => ?_))
   | exact ih0 _ _ _
   | exact ih1 _ _ _ _
   | exact ih2 _ _ _ _ _ _
   | exact saltusref05_Mul.mono _ _ _
   | exact LeO.none _
   | refine LeO.ite ?_ ?_
   | refine LeO.bind ?_ (fun _ => ?_)
set_option maxHeartbeats 8000000 in
set_option maxRecDepth 100000 in
theorem saltusref06_Mixed.calls (k : Nat) (a0 : ByteArray) (r : ByteArray) (w : World) (h : saltusref06_Mixed.f k a0 = some r) :
  Calls Try.prog 30 #[.string a0] w fun e w' => e = .returned (.string r) ∧ Below w.heap.size w w' := by
 have HB := Aside0.mk (Below.refl w.heap.size w)
 have H : (saltusref06_Mixed.l0 k a0 (([] : List Int)) 0) = some r := h
 clear h
 obtain ⟨y144, hy144⟩ : ∃ y_ : List Int, y_ = (([] : List Int)) := ⟨_, rfl⟩
 replace H : (saltusref06_Mixed.l0 k a0 y144 0) = some r := by first | (rw [hy144]; with_reducible exact H) | (have H2_ := (Option.bind_some _ _).symm.trans H; rw [hy144]; with_reducible exact H2_) | (have H2_ := (Option.bind_some _ _).symm.trans H; with_reducible exact H2_) | with_reducible exact H | (rw [hy144]; exact H) | exact H
 have Ny144 := Aside0.mk hy144
 clear hy144
 have H' := Aside0.mk H
 clear H
 go_enter Try.func30, Try.ntmps30
 go_wp2_with (first | ((with_reducible refine gate_dst (N := 8) rfl ?_); refine Kd.R_lit (Kd.int .u8) _ 5 ?hg (N := 8) ?hd (xs := ([] : List Int)) (inner := []) (ok := fun _ => True) (okp := fun _ => True) ?hr ?hp (fun _ hk => hk) trivial (Below.refl _ _) (Nat.le_refl _) (by simp) ?_; (case hd => rfl); (case hg => rfl); (case hr => first | (go_simp; done) | (go_simp; rfl)); (case hp => exact (Reps.none _ _)); intro v145 w2 ho3 hb hg_ hnew_; clear hg_ hnew_; (first | rw [← Ny144.out] at ho3 | (simp only [Int.reduceToNat] at ho3; rw [← Ny144.out] at ho3)); have n0_ := Aside0.mk (Kd.R_lower ho3 (below_size (by repeat (first | (with_reducible first | exact HB.out | apply below_alloc | apply pw_below_drewN | apply below_drew1) | exact HB.out)))); have n1_ := Aside0.mk (below_step (by repeat (first | (with_reducible first | exact HB.out | apply below_alloc | apply pw_below_drewN | apply below_drew1) | exact HB.out)) hb); clear HB; have HO146 := n0_; have HB := n1_; clear n0_ n1_; clear hb ho3))
 repeat (go_quiet (first | ((with_reducible refine gate_dst (N := 8) rfl ?_); refine Kd.R_lit (Kd.int .u8) _ 5 ?hg (N := 8) ?hd (xs := ([] : List Int)) (inner := []) (ok := fun _ => True) (okp := fun _ => True) ?hr ?hp (fun _ hk => hk) trivial (Below.refl _ _) (Nat.le_refl _) (by simp) ?_; (case hd => rfl); (case hg => rfl); (case hr => first | (go_simp; done) | (go_simp; rfl)); (case hp => exact (Reps.none _ _)); intro v145 w2 ho3 hb hg_ hnew_; clear hg_ hnew_; (first | rw [← Ny144.out] at ho3 | (simp only [Int.reduceToNat] at ho3; rw [← Ny144.out] at ho3)); have n0_ := Aside0.mk (Kd.R_lower ho3 (below_size (by repeat (first | (with_reducible first | exact HB.out | apply below_alloc | apply pw_below_drewN | apply below_drew1) | exact HB.out)))); have n1_ := Aside0.mk (below_step (by repeat (first | (with_reducible first | exact HB.out | apply below_alloc | apply pw_below_drewN | apply below_drew1) | exact HB.out)) hb); clear HB; have HO146 := n0_; have HB := n1_; clear n0_ n1_; clear hb ho3)); try go_wp2_with (first | ((with_reducible refine gate_dst (N := 8) rfl ?_); refine Kd.R_lit (Kd.int .u8) _ 5 ?hg (N := 8) ?hd (xs := ([] : List Int)) (inner := []) (ok := fun _ => True) (okp := fun _ => True) ?hr ?hp (fun _ hk => hk) trivial (Below.refl _ _) (Nat.le_refl _) (by simp) ?_; (case hd => rfl); (case hg => rfl); (case hr => first | (go_simp; done) | (go_simp; rfl)); (case hp => exact (Reps.none _ _)); intro v145 w2 ho3 hb hg_ hnew_; clear hg_ hnew_; (first | rw [← Ny144.out] at ho3 | (simp only [Int.reduceToNat] at ho3; rw [← Ny144.out] at ho3)); have n0_ := Aside0.mk (Kd.R_lower ho3 (below_size (by repeat (first | (with_reducible first | exact HB.out | apply below_alloc | apply pw_below_drewN | apply below_drew1) | exact HB.out)))); have n1_ := Aside0.mk (below_step (by repeat (first | (with_reducible first | exact HB.out | apply below_alloc | apply pw_below_drewN | apply below_drew1) | exact HB.out)) hb); clear HB; have HO146 := n0_; have HB := n1_; clear n0_ n1_; clear hb ho3)))
 go_loopg [3, 4] k (fun kq v3 v4 w' => ∃ (x3_1 : List Int) (x4_1 : Int), v4 = .int .i64 x4_1 ∧ Aside0 (saltusref06_Mixed.l0 kq a0 x3_1 x4_1 = some r) ∧ Aside0 (kq ≤ k) ∧ Aside0 (Kd.R (Kd.int .u8) 5 w' w.heap.size (fun _ => True) v3 x3_1) ∧ Aside0 (Below w.heap.size w w'))
 case atStart => exact ⟨(y144), (0), (by first | rfl | (simp; done) | (simp [*]; done)), H', ⟨Nat.le_refl _⟩, ⟨by (with_reducible repeat (first | apply Kd.R_alloc | apply Kd.R_drewN | apply Kd.R_drew)); exact HO146.out⟩, ⟨by repeat (first | (with_reducible first | exact HB.out | apply below_alloc | apply pw_below_drewN | apply below_drew1) | exact HB.out)⟩⟩
 case round =>
  clear H'
  try clear p2
  try clear c3
  obtain ⟨x3_1, x4_1, rfl, HA, HK1, HO_3, HB⟩ := hrel
  cases gk with
  | zero => exact absurd HA.out (by simp [saltusref06_Mixed.l0])
  | succ k1 =>
   have H := HA.out
   clear HA
   simp only [saltusref06_Mixed.l0] at H
   by_cases c4 : x4_1 < 4
   ·rw [if_pos c4] at H
    have c4b0 : decide (x4_1 < 4) = true := decide_eq_true c4
    clear c4
    have H' := Aside0.mk H
    clear H
    go_wp2
    repeat (go_quiet (fail); try go_wp2)
    go_loopg [3, 5] k1 (fun kq v3 v5 w' => ∃ (x3_2 : List Int) (x5_2 : Int), v5 = .int .i64 x5_2 ∧ Aside0 (saltusref06_Mixed.l1 kq a0 x3_2 x4_1 x5_2 = some r) ∧ Aside0 (kq ≤ k1) ∧ Aside0 (Kd.R (Kd.int .u8) 5 w' w.heap.size (fun _ => True) v3 x3_2) ∧ Aside0 (Below w.heap.size w w'))
    case atStart => exact ⟨(x3_1), (0), (by first | rfl | (simp; done) | (simp [*]; done)), H', ⟨Nat.le_refl _⟩, ⟨by (with_reducible repeat (first | apply Kd.R_alloc | apply Kd.R_drewN | apply Kd.R_drew)); exact HO_3.out⟩, ⟨by repeat (first | (with_reducible first | exact HB.out | apply below_alloc | apply pw_below_drewN | apply below_drew1) | exact HB.out)⟩⟩
    case round =>
     clear H'
     try clear p2
     try clear c3
     try clear c4
     try clear c4b0
     try clear p2
     obtain ⟨x3_2, x5_2, rfl, HA, HK2, HO_3, HB⟩ := hrel
     cases gk with
     | zero => exact absurd HA.out (by simp [saltusref06_Mixed.l1])
     | succ k2 =>
      have H := HA.out
      clear HA
      simp only [saltusref06_Mixed.l1] at H
      by_cases c5 : x5_2 < 4
      ·rw [if_pos c5] at H
       have c5b0 : decide (x5_2 < 4) = true := decide_eq_true c5
       clear c5
       have H' := Aside0.mk H
       clear H
       go_wp2
       repeat (go_quiet (fail); try go_wp2)
       go_loopg [6, 7] k2 (fun kq v6 v7 w' => ∃ (x6_3 : Int) (x7_3 : Int), v6 = .int .u8 x6_3 ∧ v7 = .int .i64 x7_3 ∧ Aside0 (saltusref06_Mixed.l2 kq a0 x3_2 x4_1 x5_2 x6_3 x7_3 = some r) ∧ Aside0 (kq ≤ k2) ∧ Aside0 (Kd.R (Kd.int .u8) 5 w' w.heap.size (fun _ => True) u3 x3_2) ∧ Aside0 (Below w.heap.size w w'))
       case atStart => exact ⟨(0), (0), (by first | rfl | (simp; done) | (simp [*]; done)), (by first | rfl | (simp; done) | (simp [*]; done)), H', ⟨Nat.le_refl _⟩, ⟨by (with_reducible repeat (first | apply Kd.R_alloc | apply Kd.R_drewN | apply Kd.R_drew)); exact HO_3.out⟩, ⟨by repeat (first | (with_reducible first | exact HB.out | apply below_alloc | apply pw_below_drewN | apply below_drew1) | exact HB.out)⟩⟩
       case round =>
        clear H'
        try clear p2
        try clear c3
        try clear c4
        try clear c4b0
        try clear c5
        try clear c5b0
        try clear p2
        obtain ⟨x6_3, x7_3, rfl, rfl, HA, HK3, HO_3, HB⟩ := hrel
        cases gk with
        | zero => exact absurd HA.out (by simp [saltusref06_Mixed.l2])
        | succ k3 =>
         have H := HA.out
         clear HA
         simp only [saltusref06_Mixed.l2] at H
         by_cases c6 : x7_3 < 4
         ·rw [if_pos c6] at H
          have c6b0 : decide (x7_3 < 4) = true := decide_eq_true c6
          clear c6
          obtain ⟨ji7, hji7⟩ : ∃ j_ : Int, (wrap64 ((wrap64 (4 * x4_1)) + x7_3)) = j_ := ⟨_, rfl⟩
          replace H : (if 0 ≤ (ji7) then (if (ji7) < (a0.size : Int) then ((saltusref06_factor.f x5_2 x7_3).bind fun t148 => ((saltusref05_Mul.f k3 (bt a0 (ji7)) t148).bind fun t149 => (saltusref06_Mixed.l2 k3 a0 x3_2 x4_1 x5_2 (Go.bits .xor .u8 x6_3 t149) (wrap64 (x7_3 + 1))))) else (none)) else (none)) = some r := by first | (rw [hji7] at H; exact H) | (simp only [hji7] at H ⊢; exact H)
          have hji7w : (IntKind.i64.wrap ((wrap64 (4 * x4_1)) + x7_3)) = ji7 := (i64_w _).trans hji7
          by_cases c8 : 0 ≤ (ji7)
          ·rw [if_pos c8] at H
           have c8b0 : decide (0 ≤ (ji7)) = true := decide_eq_true c8
           clear c8
           by_cases c9 : (ji7) < (a0.size : Int)
           ·rw [if_pos c9] at H
            have c9b0 : decide ((ji7) < (a0.size : Int)) = true := decide_eq_true c9
            clear c9
            replace H := Option.bind_eq_some_iff.mp H
            obtain ⟨t148, A110, H⟩ := H
            (try dsimp only at H)
            have A11 := Aside0.mk A110
            clear A110
            replace H := Option.bind_eq_some_iff.mp H
            obtain ⟨t149, A120, H⟩ := H
            (try dsimp only at H)
            have A12 := Aside0.mk A120
            clear A120
            have H' := Aside0.mk H
            clear H
            have p10 : 0 ≤ ((ji7) : Int) := of_decide_eq_true (by first | (with_reducible assumption) | assumption)
            have q10 : (ji7) < (a0.size : Int) := of_decide_eq_true (by first | (with_reducible assumption) | assumption)
            have hx10 := bt_at a0 (ji7)
            replace p10 := eq_true p10
            replace q10 := eq_true q10
            go_wp2_with (first | (go_at_call 53; (with_reducible refine (saltusref06_factor.calls x5_2 x7_3 t148 _ A11.out).mono ?_); rintro e w' ⟨rfl, ⟨nd, rfl⟩⟩; (try first | exact ⟨rfl, _, World.drewN_drewN _ _ _⟩ | exact ⟨rfl, _, Eq.trans (World.drewN_drewN _ _ _) (congrArg (World.drewN _) (Nat.add_assoc _ _ _))⟩)) | (go_at_call 20; (with_reducible refine (saltusref05_Mul.calls k3 (bt a0 (ji7)) t148 t149 _ A12.out).mono ?_); rintro e w' ⟨rfl, ⟨nd, rfl⟩⟩; (try first | exact ⟨rfl, _, World.drewN_drewN _ _ _⟩ | exact ⟨rfl, _, Eq.trans (World.drewN_drewN _ _ _) (congrArg (World.drewN _) (Nat.add_assoc _ _ _))⟩)))
            repeat (go_quiet (first | (go_at_call 53; (with_reducible refine (saltusref06_factor.calls x5_2 x7_3 t148 _ A11.out).mono ?_); rintro e w' ⟨rfl, ⟨nd, rfl⟩⟩; (try first | exact ⟨rfl, _, World.drewN_drewN _ _ _⟩ | exact ⟨rfl, _, Eq.trans (World.drewN_drewN _ _ _) (congrArg (World.drewN _) (Nat.add_assoc _ _ _))⟩)) | (go_at_call 20; (with_reducible refine (saltusref05_Mul.calls k3 (bt a0 (ji7)) t148 t149 _ A12.out).mono ?_); rintro e w' ⟨rfl, ⟨nd, rfl⟩⟩; (try first | exact ⟨rfl, _, World.drewN_drewN _ _ _⟩ | exact ⟨rfl, _, Eq.trans (World.drewN_drewN _ _ _) (congrArg (World.drewN _) (Nat.add_assoc _ _ _))⟩))); try go_wp2_with (first | (go_at_call 53; (with_reducible refine (saltusref06_factor.calls x5_2 x7_3 t148 _ A11.out).mono ?_); rintro e w' ⟨rfl, ⟨nd, rfl⟩⟩; (try first | exact ⟨rfl, _, World.drewN_drewN _ _ _⟩ | exact ⟨rfl, _, Eq.trans (World.drewN_drewN _ _ _) (congrArg (World.drewN _) (Nat.add_assoc _ _ _))⟩)) | (go_at_call 20; (with_reducible refine (saltusref05_Mul.calls k3 (bt a0 (ji7)) t148 t149 _ A12.out).mono ?_); rintro e w' ⟨rfl, ⟨nd, rfl⟩⟩; (try first | exact ⟨rfl, _, World.drewN_drewN _ _ _⟩ | exact ⟨rfl, _, Eq.trans (World.drewN_drewN _ _ _) (congrArg (World.drewN _) (Nat.add_assoc _ _ _))⟩))))
            go_roundg k3
            case measure => have := HK1.out; have := HK2.out; have := HK3.out; omega
            case rel => exact ⟨(Go.bits .xor .u8 x6_3 t149), (wrap64 (x7_3 + 1)), (by first | rfl | (simp; done) | (simp [*]; done)), (by first | rfl | (simp; done) | (simp [*]; done)), H', ⟨by have := HK1.out; have := HK2.out; have := HK3.out; omega⟩, ⟨by (with_reducible repeat (first | apply Kd.R_alloc | apply Kd.R_drewN | apply Kd.R_drew)); exact HO_3.out⟩, ⟨by repeat (first | (with_reducible first | exact HB.out | apply below_alloc | apply pw_below_drewN | apply below_drew1) | exact HB.out)⟩⟩
           ·rw [if_neg c9] at H
            exact absurd H (by simp)
          ·rw [if_neg c8] at H
           exact absurd H (by simp)
         ·rw [if_neg c6] at H
          have c6b0 : decide (x7_3 < 4) = false := decide_eq_false c6
          clear c6
          by_cases c13 : x3_2.length < 140737488355328
          ·rw [if_pos c13] at H
           have LMc13 := Aside0.mk c13
           clear c13
           obtain ⟨y150, hy150⟩ : ∃ y_ : List Int, y_ = (x3_2 ++ [x6_3]) := ⟨_, rfl⟩
           replace H : (saltusref06_Mixed.l1 k3 a0 y150 x4_1 (wrap64 (x5_2 + 1))) = some r := by first | (rw [hy150]; with_reducible exact H) | (have H2_ := (Option.bind_some _ _).symm.trans H; rw [hy150]; with_reducible exact H2_) | (have H2_ := (Option.bind_some _ _).symm.trans H; with_reducible exact H2_) | with_reducible exact H | (rw [hy150]; exact H) | exact H
           have Ny150 := Aside0.mk hy150
           clear hy150
           have H' := Aside0.mk H
           clear H
           go_wp2_with (first | ((with_reducible refine gate_builtin (b := .append) (xs := #[.tmp 33, .tmp 35]) rfl ?_); at_builtin; refine Kd.R_append (Kd.int .u8) (w0 := w) w.heap.size rfl (.tmp 33) (.tmp 35) 29 5 (.int .u8 0) 1 rfl Try.underlying29 info5 rfl (by decide) (by omega) u3 x3_2 x6_3 [.int .u8 x6_3] (fun _ => True) (fun _ => False) rfl rfl ?aP (fun _ hk => hk.elim) ?aF ?aO ?aB ?aS ?aL ?_; (case aP => exact rfl); (case aB => exact (by repeat (first | (with_reducible first | exact HB.out | apply below_alloc | apply pw_below_drewN | apply below_drew1) | exact HB.out))); (case aF => exact (fun _ _ => trivial)); (case aO => exact (by (with_reducible repeat (first | apply Kd.R_alloc | apply Kd.R_drewN | apply Kd.R_drew)); exact HO_3.out)); (case aS => exact (below_size (by repeat (first | (with_reducible first | exact HB.out | apply below_alloc | apply pw_below_drewN | apply below_drew1) | exact HB.out)))); (case aL => have := LMc13.out; omega); intro v151 w14 ho hb hg hat; rw [← Ny150.out] at ho; have n0_ := Aside0.mk (hb); have n1_ := Aside0.mk (ho); clear HB; clear HO_3; have HB := n0_; have HO152 := n1_; clear n0_ n1_; clear ho hb hg hat))
           repeat (go_quiet (first | ((with_reducible refine gate_builtin (b := .append) (xs := #[.tmp 33, .tmp 35]) rfl ?_); at_builtin; refine Kd.R_append (Kd.int .u8) (w0 := w) w.heap.size rfl (.tmp 33) (.tmp 35) 29 5 (.int .u8 0) 1 rfl Try.underlying29 info5 rfl (by decide) (by omega) u3 x3_2 x6_3 [.int .u8 x6_3] (fun _ => True) (fun _ => False) rfl rfl ?aP (fun _ hk => hk.elim) ?aF ?aO ?aB ?aS ?aL ?_; (case aP => exact rfl); (case aB => exact (by repeat (first | (with_reducible first | exact HB.out | apply below_alloc | apply pw_below_drewN | apply below_drew1) | exact HB.out))); (case aF => exact (fun _ _ => trivial)); (case aO => exact (by (with_reducible repeat (first | apply Kd.R_alloc | apply Kd.R_drewN | apply Kd.R_drew)); exact HO_3.out)); (case aS => exact (below_size (by repeat (first | (with_reducible first | exact HB.out | apply below_alloc | apply pw_below_drewN | apply below_drew1) | exact HB.out)))); (case aL => have := LMc13.out; omega); intro v151 w14 ho hb hg hat; rw [← Ny150.out] at ho; have n0_ := Aside0.mk (hb); have n1_ := Aside0.mk (ho); clear HB; clear HO_3; have HB := n0_; have HO152 := n1_; clear n0_ n1_; clear ho hb hg hat)); try go_wp2_with (first | ((with_reducible refine gate_builtin (b := .append) (xs := #[.tmp 33, .tmp 35]) rfl ?_); at_builtin; refine Kd.R_append (Kd.int .u8) (w0 := w) w.heap.size rfl (.tmp 33) (.tmp 35) 29 5 (.int .u8 0) 1 rfl Try.underlying29 info5 rfl (by decide) (by omega) u3 x3_2 x6_3 [.int .u8 x6_3] (fun _ => True) (fun _ => False) rfl rfl ?aP (fun _ hk => hk.elim) ?aF ?aO ?aB ?aS ?aL ?_; (case aP => exact rfl); (case aB => exact (by repeat (first | (with_reducible first | exact HB.out | apply below_alloc | apply pw_below_drewN | apply below_drew1) | exact HB.out))); (case aF => exact (fun _ _ => trivial)); (case aO => exact (by (with_reducible repeat (first | apply Kd.R_alloc | apply Kd.R_drewN | apply Kd.R_drew)); exact HO_3.out)); (case aS => exact (below_size (by repeat (first | (with_reducible first | exact HB.out | apply below_alloc | apply pw_below_drewN | apply below_drew1) | exact HB.out)))); (case aL => have := LMc13.out; omega); intro v151 w14 ho hb hg hat; rw [← Ny150.out] at ho; have n0_ := Aside0.mk (hb); have n1_ := Aside0.mk (ho); clear HB; clear HO_3; have HB := n0_; have HO152 := n1_; clear n0_ n1_; clear ho hb hg hat)))
           go_roundg k3
           case measure => have := HK1.out; have := HK2.out; have := HK3.out; omega
           case rel => exact ⟨(y150), (wrap64 (x5_2 + 1)), (by first | rfl | (simp; done) | (simp [*]; done)), H', ⟨by have := HK1.out; have := HK2.out; have := HK3.out; omega⟩, ⟨by (with_reducible repeat (first | apply Kd.R_alloc | apply Kd.R_drewN | apply Kd.R_drew)); exact HO152.out⟩, ⟨by repeat (first | (with_reducible first | exact HB.out | apply below_alloc | apply pw_below_drewN | apply below_drew1) | exact HB.out)⟩⟩
          ·rw [if_neg c13] at H
           exact absurd H (by simp)
      ·rw [if_neg c5] at H
       have c5b0 : decide (x5_2 < 4) = false := decide_eq_false c5
       clear c5
       have H' := Aside0.mk H
       clear H
       go_wp2
       repeat (go_quiet (fail); try go_wp2)
       go_roundg k2
       case measure => have := HK1.out; have := HK2.out; omega
       case rel => exact ⟨(x3_2), (wrap64 (x4_1 + 1)), (by first | rfl | (simp; done) | (simp [*]; done)), H', ⟨by have := HK1.out; have := HK2.out; omega⟩, ⟨by (with_reducible repeat (first | apply Kd.R_alloc | apply Kd.R_drewN | apply Kd.R_drew)); exact HO_3.out⟩, ⟨by repeat (first | (with_reducible first | exact HB.out | apply below_alloc | apply pw_below_drewN | apply below_drew1) | exact HB.out)⟩⟩
   ·rw [if_neg c4] at H
    have c4b0 : decide (x4_1 < 4) = false := decide_eq_false c4
    clear c4
    replace H := Option.bind_eq_some_iff.mp H
    obtain ⟨t147, A150, H⟩ := H
    (try dsimp only at H)
    have A15 := Aside0.mk A150
    clear A150
    obtain rfl := Option.some.inj H
    obtain ⟨Ao16, co16, eo16⟩ := Kd.R_slice HO_3.out
    subst eo16
    go_wp2_with (first | (go_at_call 52; (with_reducible refine (saltusref06_text.calls _ _ x3_1 t147 _ ?side1 ?side2 A15.out).mono ?_); (case side1 => repeat (first | exact (Kd.R_reads' HO_3.out).2.2 | (with_reducible refine Kd.C_alloc ?_ _) | (with_reducible refine Kd.C_drewN ?_ _) | (with_reducible refine Kd.C_drew ?_))); (case side2 => exact (Kd.R_reads' HO_3.out).2.1); rintro e w' ⟨rfl, ⟨nd, rfl⟩⟩; (try first | exact ⟨rfl, _, World.drewN_drewN _ _ _⟩ | exact ⟨rfl, _, Eq.trans (World.drewN_drewN _ _ _) (congrArg (World.drewN _) (Nat.add_assoc _ _ _))⟩)))
    repeat (go_quiet (first | (go_at_call 52; (with_reducible refine (saltusref06_text.calls _ _ x3_1 t147 _ ?side1 ?side2 A15.out).mono ?_); (case side1 => repeat (first | exact (Kd.R_reads' HO_3.out).2.2 | (with_reducible refine Kd.C_alloc ?_ _) | (with_reducible refine Kd.C_drewN ?_ _) | (with_reducible refine Kd.C_drew ?_))); (case side2 => exact (Kd.R_reads' HO_3.out).2.1); rintro e w' ⟨rfl, ⟨nd, rfl⟩⟩; (try first | exact ⟨rfl, _, World.drewN_drewN _ _ _⟩ | exact ⟨rfl, _, Eq.trans (World.drewN_drewN _ _ _) (congrArg (World.drewN _) (Nat.add_assoc _ _ _))⟩))); try go_wp2_with (first | (go_at_call 52; (with_reducible refine (saltusref06_text.calls _ _ x3_1 t147 _ ?side1 ?side2 A15.out).mono ?_); (case side1 => repeat (first | exact (Kd.R_reads' HO_3.out).2.2 | (with_reducible refine Kd.C_alloc ?_ _) | (with_reducible refine Kd.C_drewN ?_ _) | (with_reducible refine Kd.C_drew ?_))); (case side2 => exact (Kd.R_reads' HO_3.out).2.1); rintro e w' ⟨rfl, ⟨nd, rfl⟩⟩; (try first | exact ⟨rfl, _, World.drewN_drewN _ _ _⟩ | exact ⟨rfl, _, Eq.trans (World.drewN_drewN _ _ _) (congrArg (World.drewN _) (Nat.add_assoc _ _ _))⟩))))
    go_ret
    exact ⟨by first | rfl | (simp [errW_none, errW_some] <;> rfl) | (simp [*, errW_none, errW_some] <;> rfl), by repeat (first | (with_reducible first | exact HB.out | apply below_alloc | apply pw_below_drewN | apply below_drew1) | exact HB.out)⟩
/-! ### saltusref05_Pow: function 15 -/
def saltusref05_Pow.l0 : Nat → Int → Int → Int → Int → Option (Int)
 | 0, _, _, _, _ => none
 | k + 1, x0, x1, x5, x6 => if x6 < x1 then ((saltusref05_Mul.f k x5 x0).bind fun t153 => (saltusref05_Pow.l0 k x0 x1 t153 (wrap64 (x6 + 1)))) else (some x5)
def saltusref05_Pow.f (k : Nat) (a0 : Int) (a1 : Int) : Option (Int) := saltusref05_Pow.l0 k a0 a1 1 0
theorem saltusref05_Pow.mono_l : ∀ k, (∀ y0 y1 y2 y3, LeO (saltusref05_Pow.l0 k y0 y1 y2 y3) (saltusref05_Pow.l0 (k + 1) y0 y1 y2 y3))
 | 0 => fun _ _ _ _ r h => by simp [saltusref05_Pow.l0] at h
 | k + 1 => by
  have ih0 := saltusref05_Pow.mono_l k
  ·intro y0 y1 y2 y3
   unfold saltusref05_Pow.l0
   repeat' first
   | (with_reducible exact ih0 _ _ _ _)
   | (with_reducible exact saltusref05_Mul.mono _ _ _)
   | (with_reducible exact LeO.refl _)
   | (with_reducible exact LeO.none _)
   | (with_reducible refine LeO.ite ?_ ?_)
   | (with_reducible refine LeO.bind ?_ (fun _ => ?_))
   | exact ih0 _ _ _ _
   | exact saltusref05_Mul.mono _ _ _
   | exact LeO.none _
   | refine LeO.ite ?_ ?_
   | refine LeO.bind ?_ (fun _ => ?_)
theorem saltusref05_Pow.mono : ∀ a0 a1 k, LeO (saltusref05_Pow.f k a0 a1) (saltusref05_Pow.f (k + 1) a0 a1) := by
 intro a0 a1 k
 have ih0 := saltusref05_Pow.mono_l k
 unfold saltusref05_Pow.f
 repeat' first
   | (with_reducible exact ih0 _ _ _ _)
   | (with_reducible exact saltusref05_Mul.mono _ _ _)
   | (with_reducible exact LeO.refl _)
   | (with_reducible exact LeO.none _)
   | (with_reducible refine LeO.ite ?_ ?_)
   | (with_reducible refine LeO.bind ?_ (fun _ => ?_))
   | exact ih0 _ _ _ _
   | exact saltusref05_Mul.mono _ _ _
   | exact LeO.none _
   | refine LeO.ite ?_ ?_
   | refine LeO.bind ?_ (fun _ => ?_)
set_option maxHeartbeats 8000000 in
set_option maxRecDepth 100000 in
theorem saltusref05_Pow.calls (k : Nat) (a0 : Int) (a1 : Int) (r : Int) (w : World) (h : saltusref05_Pow.f k a0 a1 = some r) :
  Calls Try.prog 15 #[.int .u8 a0, .int .i64 a1] w fun e w' => e = .returned (.int .u8 r) ∧ Drawn0 w w' := by
 have H : (saltusref05_Pow.l0 k a0 a1 1 0) = some r := h
 clear h
 have H' := Aside0.mk H
 clear H
 go_enter Try.func15, Try.ntmps15
 go_wp2
 go_loopg [5, 6] k (fun kq v5 v6 w' => ∃ (x5_1 : Int) (x6_1 : Int), v5 = .int .u8 x5_1 ∧ v6 = .int .i64 x6_1 ∧ Aside0 (saltusref05_Pow.l0 kq a0 a1 x5_1 x6_1 = some r) ∧ Aside0 (kq ≤ k) ∧ Drawn0 w w')
 case atStart => exact ⟨(1), (0), (by first | rfl | (simp; done) | (simp [*]; done)), (by first | rfl | (simp; done) | (simp [*]; done)), H', ⟨Nat.le_refl _⟩, by repeat (first | exact Drawn0.refl _ | apply Drawn0.step)⟩
 case round =>
  clear H'
  try clear c1
  try clear p2
  obtain ⟨x5_1, x6_1, rfl, rfl, HA, HK1, ⟨m1, rfl⟩⟩ := hrel
  cases gk with
  | zero => exact absurd HA.out (by simp [saltusref05_Pow.l0])
  | succ k1 =>
   have H := HA.out
   clear HA
   simp only [saltusref05_Pow.l0] at H
   by_cases c3 : x6_1 < a1
   ·rw [if_pos c3] at H
    have c3b0 : decide (x6_1 < a1) = true := decide_eq_true c3
    clear c3
    replace H := Option.bind_eq_some_iff.mp H
    obtain ⟨t153, A40, H⟩ := H
    (try dsimp only at H)
    have A4 := Aside0.mk A40
    clear A40
    have H' := Aside0.mk H
    clear H
    go_wp2_with (first | ((with_reducible refine gate_callee (f := 20) rfl ?_); refine goesL_ (some 14) rfl rfl Try.func20 (by kernel_rfl) rfl #[.int .u8 x5_1, .int .u8 a0] rfl (by (try simp only [List.map_toArray, List.map_cons, List.map_nil]); first | done | rfl | (simp only [List.length_drop, List.length_take]; rfl)) ?_; (with_reducible refine (saltusref05_Mul.calls k1 x5_1 a0 t153 _ A4.out).mono ?_); rintro e w' ⟨rfl, ⟨nd, rfl⟩⟩; refine ⟨_, rfl, ?_⟩))
    go_roundg k1
    case measure => have := HK1.out; omega
    case rel => exact ⟨(t153), (wrap64 (x6_1 + 1)), (by first | rfl | (simp; done) | (simp [*]; done)), (by first | rfl | (simp; done) | (simp [*]; done)), H', ⟨by have := HK1.out; omega⟩, by repeat (first | exact Drawn0.refl _ | apply Drawn0.step)⟩
   ·rw [if_neg c3] at H
    have c3b0 : decide (x6_1 < a1) = false := decide_eq_false c3
    clear c3
    obtain rfl := Option.some.inj H
    go_wp2
    go_ret
    exact ⟨by first | rfl | (simp; done) | (simp [*]; done), by repeat (first | exact Drawn0.refl _ | apply Drawn0.step)⟩
end Go.Proofs.Ytnaidfcehmdmcaa.PAesEncrypts
end
section
namespace Go.Proofs.Ytnaidfcehmdmcaa.PAesEncrypts
open Go.RowKit Go.Proofs.YtnaidfcehmdmcaaW.PrintWords Go.Proofs.YtnaidfcehmdmcaaW.PrintLast Go.Proofs.YtnaidfcehmdmcaaW.PrintMore
attribute [local go_sem] max2_int min2_int max_two min_two max_three min_three max_four min_four   -- for this text's walks alone
set_option linter.unusedVariables false
set_option linter.unusedSimpArgs false
/-! ### saltusref06_Xor: function 57 -/
def saltusref06_Xor.l0 : Nat → ByteArray → ByteArray → List Int → Int → Option (ByteArray)
 | 0, _, _, _, _ => none
 | k + 1, x0, x1, x5, x6 => if x6 < (x0.size : Int) then (if 0 ≤ x6 then (if x6 < (x1.size : Int) then (if x5.length < 140737488355328 then (saltusref06_Xor.l0 k x0 x1 (x5 ++ [Go.bits .xor .u8 (bt x0 x6) (bt x1 x6)]) (wrap64 (x6 + 1))) else (none)) else (none)) else (none)) else ((saltusref06_text.f x5).bind fun t160 => (some t160))
def saltusref06_Xor.f (k : Nat) (a0 : ByteArray) (a1 : ByteArray) : Option (ByteArray) := saltusref06_Xor.l0 k a0 a1 (([] : List Int)) 0
theorem saltusref06_Xor.mono_l : ∀ k, (∀ y0 y1 y2 y3, LeO (saltusref06_Xor.l0 k y0 y1 y2 y3) (saltusref06_Xor.l0 (k + 1) y0 y1 y2 y3))
 | 0 => fun _ _ _ _ r h => by simp [saltusref06_Xor.l0] at h
 | k + 1 => by
  have ih0 := saltusref06_Xor.mono_l k
  ·intro y0 y1 y2 y3
   unfold saltusref06_Xor.l0
   repeat' first
   | (with_reducible exact ih0 _ _ _ _)
   | (with_reducible exact LeO.refl _)
   | (with_reducible exact LeO.none _)
   | (with_reducible refine LeO.ite ?_ ?_)
   | (with_reducible refine LeO.bind ?_ (fun _ => ?_))
   | exact ih0 _ _ _ _
   | exact LeO.none _
   | refine LeO.ite ?_ ?_
   | refine LeO.bind ?_ (fun _ => ?_)
theorem saltusref06_Xor.mono : ∀ a0 a1 k, LeO (saltusref06_Xor.f k a0 a1) (saltusref06_Xor.f (k + 1) a0 a1) := by
 intro a0 a1 k
 have ih0 := saltusref06_Xor.mono_l k
 unfold saltusref06_Xor.f
 repeat' first
   | (with_reducible exact ih0 _ _ _ _)
   | (with_reducible exact LeO.refl _)
   | (with_reducible exact LeO.none _)
   | (with_reducible refine LeO.ite ?_ ?_)
   | (with_reducible refine LeO.bind ?_ (fun _ => ?_))
   | exact ih0 _ _ _ _
   | exact LeO.none _
   | refine LeO.ite ?_ ?_
   | refine LeO.bind ?_ (fun _ => ?_)
def saltusref06_Xor.T5 : Bool × List (List Nat × List Nat) := (true, [([], []), ([], []), ([], []), ([1, 2], [1, 2]), ([], []), ([], []), ([4, 5], [4, 5]), ([3, 6], [3, 6]), ([7], [7]), ([0, 8], [0, 8]), ([9, 9, 0, 1, 2, 3, 4, 5, 6, 7, 8, 9], [0, 9])])
def saltusref06_Xor.B5 : List Nat := [0, 0, 0, 6, 0, 0, 48, 126, 254, 511, 1023]
theorem saltusref06_Xor.tab5 : rtab .any (opsOf Try.f57 5) = saltusref06_Xor.T5 := by kernel_rfl
theorem saltusref06_Xor.bits5 : waitsOk saltusref06_Xor.T5.2 saltusref06_Xor.B5 = true := by kernel_rfl
set_option maxHeartbeats 8000000 in
set_option maxRecDepth 100000 in
theorem saltusref06_Xor.calls (k : Nat) (a0 : ByteArray) (a1 : ByteArray) (r : ByteArray) (w : World) (h : saltusref06_Xor.f k a0 a1 = some r) :
  Calls Try.prog 57 #[.string a0, .string a1] w fun e w' => e = .returned (.string r) ∧ Below w.heap.size w w' := by
 have HB := Aside0.mk (Below.refl w.heap.size w)
 have H : (saltusref06_Xor.l0 k a0 a1 (([] : List Int)) 0) = some r := h
 clear h
 obtain ⟨y154, hy154⟩ : ∃ y_ : List Int, y_ = (([] : List Int)) := ⟨_, rfl⟩
 replace H : (saltusref06_Xor.l0 k a0 a1 y154 0) = some r := by first | (rw [hy154]; with_reducible exact H) | (have H2_ := (Option.bind_some _ _).symm.trans H; rw [hy154]; with_reducible exact H2_) | (have H2_ := (Option.bind_some _ _).symm.trans H; with_reducible exact H2_) | with_reducible exact H | (rw [hy154]; exact H) | exact H
 have Ny154 := Aside0.mk hy154
 clear hy154
 have H' := Aside0.mk H
 clear H
 go_enter Try.func57, Try.ntmps57
 go_wp2_with (first | ((with_reducible refine gate_dst (N := 7) rfl ?_); refine Kd.R_lit (Kd.int .u8) _ 5 ?hg (N := 7) ?hd (xs := ([] : List Int)) (inner := []) (ok := fun _ => True) (okp := fun _ => True) ?hr ?hp (fun _ hk => hk) trivial (Below.refl _ _) (Nat.le_refl _) (by simp) ?_; (case hd => rfl); (case hg => rfl); (case hr => first | (go_simp; done) | (go_simp; rfl)); (case hp => exact (Reps.none _ _)); intro v155 w3 ho4 hb hg_ hnew_; clear hg_ hnew_; (first | rw [← Ny154.out] at ho4 | (simp only [Int.reduceToNat] at ho4; rw [← Ny154.out] at ho4)); have n0_ := Aside0.mk (Kd.R_lower ho4 (below_size (by repeat (first | (with_reducible first | exact HB.out | apply below_alloc | apply pw_below_drewN | apply below_drew1) | exact HB.out)))); have n1_ := Aside0.mk (below_step (by repeat (first | (with_reducible first | exact HB.out | apply below_alloc | apply pw_below_drewN | apply below_drew1) | exact HB.out)) hb); clear HB; have HO156 := n0_; have HB := n1_; clear n0_ n1_; clear hb ho4))
 go_loopg [5, 6] k (fun kq v5 v6 w' => ∃ (x5_1 : List Int) (x6_1 : Int), v6 = .int .i64 x6_1 ∧ Aside0 (saltusref06_Xor.l0 kq a0 a1 x5_1 x6_1 = some r) ∧ Aside0 (kq ≤ k) ∧ Aside0 (Kd.R (Kd.int .u8) 5 w' w.heap.size (fun _ => True) v5 x5_1) ∧ Aside0 (Below w.heap.size w w'))
 case atStart => exact ⟨(y154), (0), (by first | rfl | (simp; done) | (simp [*]; done)), H', ⟨Nat.le_refl _⟩, ⟨by (with_reducible repeat (first | apply Kd.R_alloc | apply Kd.R_drewN | apply Kd.R_drew)); exact HO156.out⟩, ⟨by repeat (first | (with_reducible first | exact HB.out | apply below_alloc | apply pw_below_drewN | apply below_drew1) | exact HB.out)⟩⟩
 case round =>
  clear H'
  try clear p2
  obtain ⟨x5_1, x6_1, rfl, HA, HK1, HO_5, HB⟩ := hrel
  cases gk with
  | zero => exact absurd HA.out (by simp [saltusref06_Xor.l0])
  | succ k1 =>
   have H := HA.out
   clear HA
   simp only [saltusref06_Xor.l0] at H
   by_cases c5 : x6_1 < (a0.size : Int)
   ·rw [if_pos c5] at H
    have c5b0 : decide (x6_1 < (a0.size : Int)) = true := decide_eq_true c5
    clear c5
    by_cases c6 : 0 ≤ x6_1
    ·rw [if_pos c6] at H
     have c6b0 : decide (0 ≤ x6_1) = true := decide_eq_true c6
     clear c6
     by_cases c8 : x6_1 < (a1.size : Int)
     ·rw [if_pos c8] at H
      have c8b0 : decide (x6_1 < (a1.size : Int)) = true := decide_eq_true c8
      clear c8
      by_cases c10 : x5_1.length < 140737488355328
      ·rw [if_pos c10] at H
       have LMc10 := Aside0.mk c10
       clear c10
       obtain ⟨y157, hy157⟩ : ∃ y_ : List Int, y_ = (x5_1 ++ [Go.bits .xor .u8 (bt a0 x6_1) (bt a1 x6_1)]) := ⟨_, rfl⟩
       replace H : (saltusref06_Xor.l0 k1 a0 a1 y157 (wrap64 (x6_1 + 1))) = some r := by first | (rw [hy157]; with_reducible exact H) | (have H2_ := (Option.bind_some _ _).symm.trans H; rw [hy157]; with_reducible exact H2_) | (have H2_ := (Option.bind_some _ _).symm.trans H; with_reducible exact H2_) | with_reducible exact H | (rw [hy157]; exact H) | exact H
       have Ny157 := Aside0.mk hy157
       clear hy157
       have H' := Aside0.mk H
       clear H
       try go_wp2
       have n0_ := Aside0.mk (Kd.R_drew HO_5.out)
       have n1_ := Aside0.mk (below_drew1 HB.out)
       clear HO_5
       clear HB
       have HO_5 := n0_
       have HB := n1_
       clear n0_ n1_
       have p7 : 0 ≤ (x6_1 : Int) := of_decide_eq_true (by first | (with_reducible assumption) | assumption)
       have q7 : x6_1 < (a0.size : Int) := of_decide_eq_true (by first | (with_reducible assumption) | assumption)
       have hx7 := bt_at a0 x6_1
       replace p7 := eq_true p7
       replace q7 := eq_true q7
       have p9 : 0 ≤ (x6_1 : Int) := of_decide_eq_true (by first | (with_reducible assumption) | assumption)
       have q9 : x6_1 < (a1.size : Int) := of_decide_eq_true (by first | (with_reducible assumption) | assumption)
       have hx9 := bt_at a1 x6_1
       replace p9 := eq_true p9
       replace q9 := eq_true q9
       refine start_ (n := 11) (S := fun w' => True) (ds := []) #[false, false, false, false, false, false, false, false, false, false, false] (by kernel_rfl) rfl rfl trivial (fun hHeld => ?_); refine with_tabW saltusref06_Xor.tab5 saltusref06_Xor.bits5 (fun HT_ HW_ => ?_)
       generalize wr.drew = w11 at HO_5 HB hHeld ⊢
       refine pure_ (i := 0) (N := some 14) (v := ?_) (a' := ?_) #[true, false, false, false, false, false, false, false, false, false, false] rfl rfl (any_of HT_.out (by kernel_rfl)) (fun _ _ _ h => h) (Or.inl ⟨by rfl, ?_⟩) ?_ ?_
       rotate_left
       ·intro w'
        go_simp
        with_reducible rfl
       rotate_left
       ·simp only [Act.put, List.setIfInBounds_toArray, List.set_cons_zero, List.set_cons_succ, i64_w, i32_w]
        rfl
       refine pure_ (i := 1) (N := some 15) (v := ?_) (a' := ?_) #[true, true, false, false, false, false, false, false, false, false, false] rfl rfl (any_of HT_.out (by kernel_rfl)) (fun _ _ _ h => h) (Or.inl ⟨by rfl, ?_⟩) ?_ ?_
       rotate_left
       ·intro w'
        go_simp
        with_reducible rfl
       rotate_left
       ·simp only [Act.put, List.setIfInBounds_toArray, List.set_cons_zero, List.set_cons_succ, i64_w, i32_w]
        rfl
       refine pure_ (i := 2) (N := some 16) (v := ?_) (a' := ?_) #[true, true, true, false, false, false, false, false, false, false, false] rfl rfl (any_of HT_.out (by kernel_rfl)) (fun _ _ _ h => h) (Or.inl ⟨by rfl, ?_⟩) ?_ ?_
       rotate_left
       ·intro w'
        go_simp
        with_reducible rfl
       rotate_left
       ·simp only [Act.put, List.setIfInBounds_toArray, List.set_cons_zero, List.set_cons_succ, i64_w, i32_w]
        rfl
       refine pure_ (i := 4) (N := some 18) (v := ?_) (a' := ?_) #[true, true, true, false, true, false, false, false, false, false, false] rfl rfl (any_of HT_.out (by kernel_rfl)) (fun _ _ _ h => h) (Or.inl ⟨by rfl, ?_⟩) ?_ ?_
       rotate_left
       ·intro w'
        go_simp
        with_reducible rfl
       rotate_left
       ·simp only [Act.put, List.setIfInBounds_toArray, List.set_cons_zero, List.set_cons_succ, i64_w, i32_w]
        rfl
       refine pure_ (i := 5) (N := some 19) (v := ?_) (a' := ?_) #[true, true, true, false, true, true, false, false, false, false, false] rfl rfl (any_of HT_.out (by kernel_rfl)) (fun _ _ _ h => h) (Or.inl ⟨by rfl, ?_⟩) ?_ ?_
       rotate_left
       ·intro w'
        go_simp
        with_reducible rfl
       rotate_left
       ·simp only [Act.put, List.setIfInBounds_toArray, List.set_cons_zero, List.set_cons_succ, i64_w, i32_w]
        rfl
       refine take_ (i := 3) (N := some 17) (v := ?_) (a' := ?_) #[true, true, true, true, true, true, false, false, false, false, false] rfl rfl (take_ofW HT_.out HW_.out (by kernel_rfl)) (fun _ _ _ h => h) (Or.inl ⟨by rfl, ?_⟩) hHeld ?_ ?_
       rotate_left
       ·intro w' _
        go_simp
        with_reducible rfl
       rotate_left
       ·simp only [Act.put, List.setIfInBounds_toArray, List.set_cons_zero, List.set_cons_succ, i64_w, i32_w]
        rfl
       refine take_ (i := 6) (N := some 20) (v := ?_) (a' := ?_) #[true, true, true, true, true, true, true, false, false, false, false] rfl rfl (take_ofW HT_.out HW_.out (by kernel_rfl)) (fun _ _ _ h => h) (Or.inl ⟨by rfl, ?_⟩) hHeld ?_ ?_
       rotate_left
       ·intro w' _
        go_simp
        with_reducible rfl
       rotate_left
       ·simp only [Act.put, List.setIfInBounds_toArray, List.set_cons_zero, List.set_cons_succ, i64_w, i32_w]
        rfl
       refine pure_ (i := 7) (N := some 21) (v := ?_) (a' := ?_) #[true, true, true, true, true, true, true, true, false, false, false] rfl rfl (any_of HT_.out (by kernel_rfl)) (fun _ _ _ h => h) (Or.inl ⟨by rfl, ?_⟩) ?_ ?_
       rotate_left
       ·intro w'
        go_simp
        with_reducible rfl
       rotate_left
       ·simp only [Act.put, List.setIfInBounds_toArray, List.set_cons_zero, List.set_cons_succ, i64_w, i32_w]
        rfl
       refine one_ (i := 8) (N := some 22) #[true, true, true, true, true, true, true, true, true, false, false] rfl rfl (one_of HT_.out (by kernel_rfl)) (by decide) (fun K hK => ?_)
       refine value_ (w1 := ?_) (v := ?_) (by rfl) rfl ?_ ?_
       rotate_left 2
       ·go_simp
        constructor
        ·rfl
        ·rfl
       refine hK.out _ _ trivial (fun hHeld => ?_)
       clear hK K
       refine norm_ (a' := ?_) ?_ ?_
       rotate_left
       ·show Act.put _ (some 22) _ = _
        simp only [Act.put, List.setIfInBounds_toArray, List.set_cons_zero, List.set_cons_succ, i64_w, i32_w]
        rfl
       refine one_ (i := 9) (N := some 23) #[true, true, true, true, true, true, true, true, true, true, false] rfl rfl (one_of HT_.out (by kernel_rfl)) (by decide) (fun K hK => ?_)
       refine Kd.R_append_step (Kd.int .u8) (w0 := w) w.heap.size (by rfl) (.tmp 14) (.tmp 22) 29 5 (.int .u8 0) 1 rfl Try.underlying29 info5 rfl (by decide) (by omega) u5 x5_1 (Go.bits .xor .u8 (bt a0 x6_1) (bt a1 x6_1)) [.int .u8 (Go.bits .xor .u8 (bt a0 x6_1) (bt a1 x6_1))] (fun _ => True) (fun _ => False) rfl rfl ?aP (fun _ hk => hk.elim) ?aF ?aO ?aB ?aS ?aL ?_
       (case aP => exact rfl)
       (case aB => exact (by repeat (first | (with_reducible first | exact HB.out | apply below_alloc | apply pw_below_drewN | apply below_drew1) | exact HB.out)))
       (case aF => exact (fun _ _ => trivial))
       (case aO => exact (by (with_reducible repeat (first | apply Kd.R_alloc | apply Kd.R_drewN | apply Kd.R_drew)); exact HO_5.out))
       (case aS => exact (below_size (by repeat (first | (with_reducible first | exact HB.out | apply below_alloc | apply pw_below_drewN | apply below_drew1) | exact HB.out))))
       (case aL => have := LMc10.out; omega)
       intro v158 w12 ho hb hg hat
       rw [← Ny157.out] at ho
       have n0_ := Aside0.mk (hb)
       have n1_ := Aside0.mk (ho)
       clear HB
       clear HO_5
       have HB := n0_
       have HO159 := n1_
       clear n0_ n1_
       clear ho hb hg hat
       refine hK.out _ _ trivial (fun hHeld => ?_)
       clear hK K
       refine norm_ (a' := ?_) ?_ ?_
       rotate_left
       ·show Act.put _ (some 23) _ = _
        simp only [Act.put, List.setIfInBounds_toArray, List.set_cons_zero, List.set_cons_succ, i64_w, i32_w]
        rfl
       refine pure_ (i := 10) (N := some 5) (v := ?_) (a' := ?_) #[true, true, true, true, true, true, true, true, true, true, true] rfl rfl (any_of HT_.out (by kernel_rfl)) (fun _ _ _ h => h) (Or.inl ⟨by rfl, ?_⟩) ?_ ?_
       rotate_left
       ·intro w'
        go_simp
        with_reducible rfl
       rotate_left
       ·simp only [Act.put, List.setIfInBounds_toArray, List.set_cons_zero, List.set_cons_succ, i64_w, i32_w]
        rfl
       refine done_ (done_of HT_.out (by kernel_rfl)) ?_
       try go_wp2
       go_roundg k1
       case measure => have := HK1.out; omega
       case rel => exact ⟨(y157), (wrap64 (x6_1 + 1)), (by first | rfl | (simp; done) | (simp [*]; done)), H', ⟨by have := HK1.out; omega⟩, ⟨by (with_reducible repeat (first | apply Kd.R_alloc | apply Kd.R_drewN | apply Kd.R_drew)); exact HO159.out⟩, ⟨by repeat (first | (with_reducible first | exact HB.out | apply below_alloc | apply pw_below_drewN | apply below_drew1) | exact HB.out)⟩⟩
      ·rw [if_neg c10] at H
       exact absurd H (by simp)
     ·rw [if_neg c8] at H
      exact absurd H (by simp)
    ·rw [if_neg c6] at H
     exact absurd H (by simp)
   ·rw [if_neg c5] at H
    have c5b0 : decide (x6_1 < (a0.size : Int)) = false := decide_eq_false c5
    clear c5
    replace H := Option.bind_eq_some_iff.mp H
    obtain ⟨t160, A130, H⟩ := H
    (try dsimp only at H)
    have A13 := Aside0.mk A130
    clear A130
    obtain rfl := Option.some.inj H
    obtain ⟨Ao14, co14, eo14⟩ := Kd.R_slice HO_5.out
    subst eo14
    go_wp2_with (first | ((with_reducible refine gate_callee (f := 52) rfl ?_); refine goesL_ (some 25) rfl rfl Try.func52 (by kernel_rfl) rfl #[.slice Ao14 x5_1.length co14] rfl (by (try simp only [List.map_toArray, List.map_cons, List.map_nil]); first | done | rfl | (simp only [List.length_drop, List.length_take]; rfl)) ?_; (with_reducible refine (saltusref06_text.calls _ _ x5_1 t160 _ ?side1 ?side2 A13.out).mono ?_); (case side1 => repeat (first | exact (Kd.R_reads' HO_5.out).2.2 | (with_reducible refine Kd.C_alloc ?_ _) | (with_reducible refine Kd.C_drewN ?_ _) | (with_reducible refine Kd.C_drew ?_))); (case side2 => exact (Kd.R_reads' HO_5.out).2.1); rintro e w' ⟨rfl, ⟨nd, rfl⟩⟩; refine ⟨_, rfl, ?_⟩))
    go_ret
    exact ⟨by first | rfl | (simp [errW_none, errW_some] <;> rfl) | (simp [*, errW_none, errW_some] <;> rfl), by repeat (first | (with_reducible first | exact HB.out | apply below_alloc | apply pw_below_drewN | apply below_drew1) | exact HB.out)⟩
end Go.Proofs.Ytnaidfcehmdmcaa.PAesEncrypts
end
section
namespace Go.Proofs.Ytnaidfcehmdmcaa.FE
open Go.RowKit Go.Proofs.Ytnaidfcehmdmcaa.PAesEncrypts Go.Proofs.YtnaidfcehmdmcaaW.PrintWords Go.Proofs.YtnaidfcehmdmcaaW.PrintLast Go.Proofs.YtnaidfcehmdmcaaW.PrintMore
open Go.Proofs.Ytnaidfcehmdmcaa.FL (wraps_i64 n64 x64 w1 x8 n8 o8)
open Go.Proofs.Ytnaidfcehmdmcaa.FM (xt mulAux mul pw pq inv cl red rmul rot box bitN rbox)
theorem bit_eq (n i : Nat) (hn : n < 2 ^ 63) (hi : i < 63) : saltusref05_Bit.f n i = some (((n.testBit i).toNat : Nat) : Int) := by
 unfold saltusref05_Bit.f
 rw [if_pos (by omega)]
 have e : shr .i64 (n : Int) (i : Int) = ((n / 2 ^ i : Nat) : Int) := by
  unfold shr
  have hm : min (i : Int).toNat IntKind.i64.bits = i := by simp [IntKind.bits]; omega
  rw [hm]; norm_cast
 have e1 : bits .and .i64 ((n / 2 ^ i : Nat) : Int) 1 = ((n / 2 ^ i &&& 1 : Nat) : Int) := n64 _ 1 (Nat.lt_of_le_of_lt (Nat.div_le_self _ _) hn) (by decide)
 rw [e, e1, Nat.and_one_is_mod, Nat.testBit_eq_decide_div_mod_eq]
 by_cases h : n / 2 ^ i % 2 = 1
 ·simp [h]
 ·have : n / 2 ^ i % 2 = 0 := by omega
  simp [this]
theorem pow2_eq (i : Nat) (hi : i < 62) : saltusref05_pow.f i = some ((2 ^ i : Nat) : Int) := by
 unfold saltusref05_pow.f
 rw [if_pos (by omega)]
 unfold shl
 have hm : min (i : Int).toNat IntKind.i64.bits = i := by simp [IntKind.bits]; omega
 rw [hm, Int.one_mul]
 have h : (2 : Nat) ^ i < 2 ^ 63 := Nat.pow_lt_pow_right (by decide) (by omega)
 have h0 : (0 : Int) ≤ ((2 ^ i : Nat) : Int) := Int.natCast_nonneg _
 have := wraps_i64 ((2 ^ i : Nat) : Int) h0 (by exact_mod_cast h)
 rw [← this]; simp
theorem wr (n : Nat) (hn : n < 2 ^ 62) : wrap64 (n : Int) = n := by unfold wrap64; omega
theorem ref_l1 (f : Nat) : ∀ (k n i : Nat), n < 2 ^ 20 → f + 7 = i → i ≤ 14 → f < k → saltusref05_Mul.l1 k n i = some ((red f n i % 256 : Nat) : Int) := by
 induction f with
 | zero =>
  intro k n i _ hi _ hk
  obtain ⟨k, rfl⟩ : ∃ m, k = m + 1 := ⟨k - 1, by omega⟩
  simp only [saltusref05_Mul.l1]
  rw [if_neg (by omega)]
  exact congrArg some (by simp only [red]; omega)
 | succ f ih =>
  intro k n i hn hi hi' hk
  obtain ⟨k, rfl⟩ : ∃ m, k = m + 1 := ⟨k - 1, by omega⟩
  simp only [saltusref05_Mul.l1]
  rw [if_pos (by omega), bit_eq n i (Nat.lt_trans hn (by decide)) (by omega)]
  simp only [Option.bind_some]
  have e8 : wrap64 ((i : Int) - 8) = ((i - 8 : Nat) : Int) := by unfold wrap64; omega
  have e1 : wrap64 ((i : Int) - 1) = ((i - 1 : Nat) : Int) := by unfold wrap64; omega
  rw [e8, e1, pow2_eq (i - 8) (by omega)]
  simp only [Option.bind_some]
  unfold red
  have h1 : 2 ^ (i - 8) ≤ 2 ^ 6 := Nat.pow_le_pow_right (by decide) (by omega)
  have h2 : 283 * 2 ^ (i - 8) < 2 ^ 20 := Nat.lt_of_le_of_lt (Nat.mul_le_mul (Nat.le_refl 283) h1) (by decide)
  have e2 : wrap64 (283 * ((2 ^ (i - 8) : Nat) : Int)) = ((283 * 2 ^ (i - 8) : Nat) : Int) := by
   rw [← wr (283 * 2 ^ (i - 8)) (Nat.lt_trans h2 (by decide))]; congr 1
  rw [e2, x64 _ _ (Nat.lt_trans hn (by decide)) (Nat.lt_trans h2 (by decide))]
  cases h : n.testBit i
  ·rw [if_neg (by decide), if_neg (by decide), ih k _ _ hn (by omega) (by omega) (by omega)]
  ·rw [if_pos (by decide), if_pos rfl, ih k _ _ (Nat.xor_lt_two_pow hn h2) (by omega) (by omega) (by omega)]
theorem ref_l0 (f : Nat) : ∀ (k a b n i : Nat), a < 256 → b < 256 → n < 2 ^ 20 → f + i = 8 → f + 9 < k →
  saltusref05_Mul.l0 k a b n i = some ((red 7 (cl f a b n i) 14 % 256 : Nat) : Int) := by
 induction f with
 | zero =>
  intro k a b n i _ _ hn hi hk
  obtain ⟨k, rfl⟩ : ∃ m, k = m + 1 := ⟨k - 1, by omega⟩
  simp only [saltusref05_Mul.l0]
  rw [if_neg (by omega)]
  exact ref_l1 7 k n 14 hn rfl (by decide) (by omega)
 | succ f ih =>
  intro k a b n i ha hb hn hi hk
  obtain ⟨k, rfl⟩ : ∃ m, k = m + 1 := ⟨k - 1, by omega⟩
  simp only [saltusref05_Mul.l0]
  rw [if_pos (by omega), wr b (by omega), bit_eq b i (by omega) (by omega)]
  simp only [Option.bind_some]
  rw [w1 i (by omega), pow2_eq i (by omega)]
  simp only [Option.bind_some]
  unfold cl
  have h1 : 2 ^ i ≤ 2 ^ 8 := Nat.pow_le_pow_right (by decide) (by omega)
  have h2 : a * 2 ^ i < 2 ^ 20 := Nat.lt_of_le_of_lt (Nat.mul_le_mul (show a ≤ 255 by omega) h1) (by decide)
  have e2 : wrap64 (wrap64 (a : Int) * ((2 ^ i : Nat) : Int)) = ((a * 2 ^ i : Nat) : Int) := by
   rw [wr a (by omega), ← wr (a * 2 ^ i) (Nat.lt_trans h2 (by decide))]; congr 1
  rw [e2, x64 _ _ (Nat.lt_trans hn (by decide)) (Nat.lt_trans h2 (by decide))]
  cases h : b.testBit i
  ·rw [if_neg (by decide), if_neg (by decide), ih k _ _ _ _ ha hb hn (by omega) (by omega)]
  ·rw [if_pos (by decide), if_pos rfl, ih k _ _ _ _ ha hb (Nat.xor_lt_two_pow hn h2) (by omega) (by omega)]
theorem refmul_eq (k a b : Nat) (ha : a < 256) (hb : b < 256) (hk : 17 < k) : saltusref05_Mul.f k a b = some ((mul a b : Nat) : Int) := by
 rw [← FM.rmul_eq a b ha hb]
 exact ref_l0 8 k a b 0 0 ha hb (by decide) rfl hk
theorem refpow_l0 (n : Nat) (hn : n < 2 ^ 30) (d : Nat) : ∀ (k a o i : Nat), a < 256 → o = pw a i → d + i = n → d + 18 < k →
  saltusref05_Pow.l0 k a n o i = some ((pw a n : Nat) : Int) := by
 induction d with
 | zero =>
  intro k a o i ha ho hi hk
  obtain ⟨k, rfl⟩ : ∃ m, k = m + 1 := ⟨k - 1, by omega⟩
  simp only [saltusref05_Pow.l0]
  obtain rfl : i = n := by omega
  rw [if_neg (by omega), ho]
 | succ d ih =>
  intro k a o i ha ho hi hk
  obtain ⟨k, rfl⟩ : ∃ m, k = m + 1 := ⟨k - 1, by omega⟩
  simp only [saltusref05_Pow.l0]
  have hol : o < 256 := by rw [ho]; exact FM.pw_lt a ha i
  rw [if_pos (by omega), refmul_eq k o a hol ha (by omega)]
  simp only [Option.bind_some]
  have e1 : wrap64 ((i : Int) + 1) = ((i + 1 : Nat) : Int) := by unfold wrap64; omega
  rw [e1]
  exact ih k a _ _ ha (by rw [ho]; rfl) (by omega) (by omega)
theorem refpow_eq (k a n : Nat) (hn : n < 1000) (ha : a < 256) (hk : 1100 < k) : saltusref05_Pow.f k a n = some ((pw a n : Nat) : Int) :=
 refpow_l0 n (by omega) n k a 1 0 ha rfl (by omega) (by omega)
theorem refinv_l0 (d : Nat) : ∀ (k a i : Nat), a < 256 → 0 < i → d + i = 256 → (∀ j, 0 < j → j < i → mul a j ≠ 1) → d + 18 < k →
  saltusref05_Inv.l0 k a i = some ((inv a : Nat) : Int) := by
 induction d with
 | zero =>
  intro k a i ha h0 hi hn hk
  obtain ⟨k, rfl⟩ : ∃ m, k = m + 1 := ⟨k - 1, by omega⟩
  simp only [saltusref05_Inv.l0]
  rw [if_neg (by omega)]
  by_cases hz : a = 0
  ·subst hz; rw [FM.inv_zero]; rfl
  ·have h1 := FM.mul_inv a ha hz
   have h2 : inv a ≠ 0 := by intro e; rw [e, FM.mul_zero a ha] at h1; cases h1
   exact absurd h1 (hn (inv a) (by omega) (by have := FM.inv_lt a ha; omega))
 | succ d ih =>
  intro k a i ha h0 hi hn hk
  obtain ⟨k, rfl⟩ : ∃ m, k = m + 1 := ⟨k - 1, by omega⟩
  simp only [saltusref05_Inv.l0]
  have e : (i : Int) % 256 = ((i : Nat) : Int) := by omega
  rw [if_pos (by omega), e, refmul_eq k a i ha (by omega) (by omega)]
  simp only [Option.bind_some]
  by_cases h : mul a i = 1
  ·rw [if_pos (by omega), FM.inv_uniq a i ha (by omega) h]
  ·rw [if_neg (by omega), w1 i (by omega)]
   refine ih k a (i + 1) ha (by omega) (by omega) (fun j hj0 hj => ?_) (by omega)
   by_cases hji : j = i
   ·subst hji; exact h
   ·exact hn j hj0 (by omega)
theorem refinv_eq (k a : Nat) (ha : a < 256) (hk : 300 < k) : saltusref05_Inv.f k a = some ((inv a : Nat) : Int) :=
 refinv_l0 255 k a 1 ha (by decide) rfl (fun j h0 h1 => by omega) (by omega)
def rb (b o i : Nat) : Nat := o + (bitN b i + bitN b ((i + 4) % 8) + bitN b ((i + 5) % 8) + bitN b ((i + 6) % 8) + bitN b ((i + 7) % 8) + bitN 99 i) % 2 * 2 ^ i
def rbs (b : Nat) : Nat → Nat → Nat → Nat
 | 0, o, _ => o
 | f + 1, o, i => rbs b f (rb b o i) (i + 1)
theorem bitN_le (n i : Nat) : bitN n i ≤ 1 := by unfold bitN; rw [Nat.and_one_is_mod]; omega
theorem bitN_eq (n i : Nat) (hn : n < 2 ^ 63) (hi : i < 63) : saltusref05_Bit.f n i = some ((bitN n i : Nat) : Int) := by
 rw [bit_eq n i hn hi]
 unfold bitN
 rw [Nat.and_one_is_mod, Nat.shiftRight_eq_div_pow, Nat.testBit_eq_decide_div_mod_eq]
 by_cases h : n / 2 ^ i % 2 = 1
 ·simp [h]
 ·have : n / 2 ^ i % 2 = 0 := by omega
  simp [this]
theorem tm (n m : Nat) : Int.tmod (n : Int) (m : Int) = ((n % m : Nat) : Int) := rfl
theorem wadd (a b : Nat) (h : a + b < 2 ^ 62) : wrap64 ((a : Int) + (b : Int)) = ((a + b : Nat) : Int) := by rw [← Int.natCast_add]; exact wr _ h
theorem sum6 (x0 x4 x5 x6 x7 x9 : Nat) (h0 : x0 ≤ 1) (h4 : x4 ≤ 1) (h5 : x5 ≤ 1) (h6 : x6 ≤ 1) (h7 : x7 ≤ 1) (h9 : x9 ≤ 1) :
  Int.tmod (wrap64 (wrap64 (wrap64 (wrap64 (wrap64 ((x0 : Int) + (x4 : Int)) + (x5 : Int)) + (x6 : Int)) + (x7 : Int)) + (x9 : Int))) 2 = (((x0 + x4 + x5 + x6 + x7 + x9) % 2 : Nat) : Int) := by
 rw [wadd x0 x4 (by omega), wadd _ x5 (by omega), wadd _ x6 (by omega), wadd _ x7 (by omega), wadd _ x9 (by omega)]
 exact tm _ 2
theorem step2 (o y p : Nat) (hy : y ≤ 1) (hp : p ≤ 256) (ho : o < p) : wrap64 ((o : Int) + wrap64 ((y : Int) * (p : Int))) = ((o + y * p : Nat) : Int) ∧ o + y * p < p + p := by
 have hm : y * p ≤ p := by
  rcases (show y = 0 ∨ y = 1 by omega) with rfl | rfl
  ·rw [Nat.zero_mul]; omega
  ·rw [Nat.one_mul]; omega
 refine ⟨?_, by omega⟩
 rw [← Int.natCast_mul, wr (y * p) (by omega), wadd o (y * p) (by omega)]
theorem mod8 (i c : Nat) (hi : i < 8) (hc : c < 8) : Int.tmod (wrap64 ((i : Int) + (c : Int))) 8 = (((i + c) % 8 : Nat) : Int) := by
 rw [wadd i c (by omega)]; exact tm _ 8
theorem rb_lt (b o i : Nat) (hi : i < 8) (ho : o < 2 ^ i) : rb b o i < 2 ^ (i + 1) := by
 have hp : 2 ^ i ≤ 2 ^ 8 := Nat.pow_le_pow_right (by decide) (by omega)
 have := (step2 o _ (2 ^ i) (Nat.lt_succ_iff.1 (Nat.mod_lt (bitN b i + bitN b ((i + 4) % 8) + bitN b ((i + 5) % 8) + bitN b ((i + 6) % 8) + bitN b ((i + 7) % 8) + bitN 99 i) (by decide : 2 > 0))) hp ho).2
 rw [Nat.pow_succ, Nat.mul_two]
 exact this
theorem refbox_step (k b o i : Nat) (hb : b < 256) (hi : i < 8) (ho : o < 2 ^ i) : saltusref05_Box.l0 (k + 1) b o i = saltusref05_Box.l0 k b ((rb b o i : Nat) : Int) ((i + 1 : Nat) : Int) := by
 have h63 : b < 2 ^ 63 := Nat.lt_trans hb (by decide)
 have lt8 : ∀ c, (i + c) % 8 < 63 := fun c => Nat.lt_trans (Nat.mod_lt _ (by decide)) (by decide)
 have i63 : i < 63 := by omega
 have i62 : i < 62 := by omega
 have i1000 : i < 1000 := by omega
 have hlt : (i : Int) < 8 := by omega
 have hp : 2 ^ i ≤ 256 := Nat.pow_le_pow_right (n := 2) (by decide) (show i ≤ 8 by omega)
 have b9 : saltusref05_Bit.f 99 (i : Int) = some ((bitN 99 i : Nat) : Int) := bitN_eq 99 i (by decide) i63
 simp only [saltusref05_Box.l0]
 rw [if_pos hlt]
 rw [show Int.tmod (wrap64 ((i : Int) + 4)) 8 = (((i + 4) % 8 : Nat) : Int) from mod8 i 4 hi (by decide), show Int.tmod (wrap64 ((i : Int) + 5)) 8 = (((i + 5) % 8 : Nat) : Int) from mod8 i 5 hi (by decide), show Int.tmod (wrap64 ((i : Int) + 6)) 8 = (((i + 6) % 8 : Nat) : Int) from mod8 i 6 hi (by decide), show Int.tmod (wrap64 ((i : Int) + 7)) 8 = (((i + 7) % 8 : Nat) : Int) from mod8 i 7 hi (by decide)]
 rw [bitN_eq b i h63 i63, bitN_eq b _ h63 (lt8 4), bitN_eq b _ h63 (lt8 5), bitN_eq b _ h63 (lt8 6), bitN_eq b _ h63 (lt8 7), b9, pow2_eq i i62]
 simp only [Option.bind_some]
 rw [sum6 _ _ _ _ _ _ (bitN_le b i) (bitN_le b _) (bitN_le b _) (bitN_le b _) (bitN_le b _) (bitN_le 99 i),
  (step2 o _ (2 ^ i) (Nat.lt_succ_iff.1 (Nat.mod_lt _ (by decide : 2 > 0))) hp ho).1, w1 i i1000]
 rfl
theorem refbox_l0 (b : Nat) (hb : b < 256) (f : Nat) : ∀ (k o i : Nat), f + i = 8 → o < 2 ^ i → f + 1 < k → saltusref05_Box.l0 k b o i = some ((rbs b f o i % 256 : Nat) : Int) := by
 induction f with
 | zero =>
  intro k o i hi ho hk
  obtain ⟨k, rfl⟩ : ∃ m, k = m + 1 := ⟨k - 1, by omega⟩
  simp only [saltusref05_Box.l0]
  rw [if_neg (by omega)]
  exact congrArg some (by simp only [rbs]; omega)
 | succ f ih =>
  intro k o i hi ho hk
  obtain ⟨k, rfl⟩ : ∃ m, k = m + 1 := ⟨k - 1, by omega⟩
  rw [refbox_step k b o i hb (by omega) ho]
  exact ih k _ _ (by omega) (rb_lt b o i (by omega) ho) (by omega)
theorem rbs_lt (b : Nat) (f : Nat) : ∀ o i, f + i = 8 → o < 2 ^ i → rbs b f o i < 2 ^ (f + i) := by
 induction f with
 | zero => intro o i _ h; simpa [rbs] using h
 | succ f ih =>
  intro o i hi h
  have e : f + 1 + i = f + (i + 1) := by omega
  rw [e]
  exact ih _ _ (by omega) (rb_lt b o i (by omega) h)
theorem refbox_eq (k a : Nat) (ha : a < 256) (hk : 300 < k) : saltusref05_Box.f k a = some ((box a : Nat) : Int) := by
 unfold saltusref05_Box.f
 have hi := FM.inv_lt a ha
 rw [refinv_eq k a ha hk]; simp only [Option.bind_some]
 rw [wr _ (by omega)]
 have h := refbox_l0 (inv a) hi 8 k 0 0 rfl (by decide) (by omega)
 have h2 := rbs_lt (inv a) 8 0 0 rfl (by decide)
 rw [Nat.mod_eq_of_lt h2] at h
 rw [← FM.rbox_eq a ha]
 exact h
end Go.Proofs.Ytnaidfcehmdmcaa.FE
end
section
namespace Go.Proofs.Ytnaidfcehmdmcaa.AS
open Go.RowKit Go.Proofs.Ytnaidfcehmdmcaa.PAesEncrypts Go.Proofs.YtnaidfcehmdmcaaW.PrintWords Go.Proofs.YtnaidfcehmdmcaaW.PrintLast Go.Proofs.YtnaidfcehmdmcaaW.PrintMore
open Go.Proofs.Ytnaidfcehmdmcaa.FC Go.Proofs.Ytnaidfcehmdmcaa.Mem
open Go.Proofs.Ytnaidfcehmdmcaa.FL (x8)

theorem refbox_bt (k : Nat) (s : ByteArray) (i : Int) (hk : 300 < k) : saltusref05_Box.f k (bt s i) = some (boxI (bt s i)) := by
  obtain ⟨n, hn, hl⟩ := (bt_by s i).nat
  rw [hn, boxI_nat]
  exact FE.refbox_eq k n hl hk
theorem wsum (i j : Nat) (h : i + j < 2 ^ 62) : wrap64 ((i : Int) + (j : Int)) = ((i + j : Nat) : Int) := FE.wadd i j h
theorem w1' (i : Nat) (h : i < 2 ^ 60) : wrap64 ((i : Int) + 1) = ((i + 1 : Nat) : Int) := wsum i 1 (by omega)
theorem range_snoc (f : Nat → Int) (i : Nat) : (List.range i).map f ++ [f i] = (List.range (i + 1)).map f := by rw [List.range_succ, List.map_append]; rfl

theorem tplace_eq (c r : Nat) (_hc : c < 4) (hr : r < 4) : tplace (4 * c + r) = 4 * ((c + r) % 4) + r := by unfold tplace; omega
theorem rix (c r : Nat) (hc : c < 4) (hr : r < 4) : wrap64 (wrap64 (4 * (Int.tmod (wrap64 ((c : Int) + (r : Int))) 4)) + (r : Int)) = ((4 * ((c + r) % 4) + r : Nat) : Int) := by
  rw [wsum c r (by omega), show Int.tmod ((c + r : Nat) : Int) 4 = (((c + r) % 4 : Nat) : Int) from FE.tm (c + r) 4]
  have h : (c + r) % 4 < 4 := Nat.mod_lt _ (by decide)
  generalize (c + r) % 4 = m at *
  unfold wrap64
  omega
theorem refTurned_go (s : ByteArray) (hs : s.size = 16) (d : Nat) : ∀ (k c r : Nat), c < 4 → r ≤ 4 → d + 5 * c + r = 20 → 2 * d + 2 < k →
    saltusref06_Turned.l1 k s ((List.range (4 * c + r)).map fun j : Nat => bt s (tplace j)) c r = some (turnedS s) := by
  induction d with
  | zero => intro k c r hc hr hd hk; omega
  | succ d ih =>
    intro k c r hc hr hd hk
    obtain ⟨k, rfl⟩ : ∃ m, k = m + 1 := ⟨k - 1, by omega⟩
    simp only [saltusref06_Turned.l1]
    by_cases h4 : r < 4
    · have hm : 4 * ((c + r) % 4) + r < 16 := by omega
      rw [if_pos (by omega), rix c r hc h4, if_pos (by omega), if_pos (by omega), if_pos (by simp; omega), w1' r (by omega)]
      have e : bt s ((4 * ((c + r) % 4) + r : Nat) : Int) = bt s (tplace (4 * c + r)) := by rw [tplace_eq c r hc h4]
      rw [e, range_snoc (fun j : Nat => bt s (tplace j)) (4 * c + r)]
      exact ih k c (r + 1) hc (by omega) (by omega) (by omega)
    · obtain rfl : r = 4 := by omega
      rw [if_neg (by omega), w1' c (by omega)]
      obtain ⟨k, rfl⟩ : ∃ m, k = m + 1 := ⟨k - 1, by omega⟩
      simp only [saltusref06_Turned.l0]
      by_cases h5 : c + 1 < 4
      · rw [if_pos (by omega)]
        have := ih k (c + 1) 0 h5 (by omega) (by omega) (by omega)
        exact this
      · rw [if_neg (by omega)]
        obtain rfl : c = 3 := by omega
        rfl
theorem refTurned_eq (k : Nat) (s : ByteArray) (hs : s.size = 16) (hk : 100 < k) : saltusref06_Turned.f k s = some (turnedS s) := by
  obtain ⟨k, rfl⟩ : ∃ m, k = m + 1 := ⟨k - 1, by omega⟩
  unfold saltusref06_Turned.f
  simp only [saltusref06_Turned.l0]
  rw [if_pos (by decide)]
  exact refTurned_go s hs 20 k 0 0 (by decide) (by decide) rfl (by omega)

/-! mixed -/
def m2 (a : Nat) : Nat := FM.mul a 2
theorem m3 (a : Nat) (ha : a < 256) : FM.mul a 3 = m2 a ^^^ a := by
  have := FM.mul_right a 2 1
  rw [FM.mul_one a ha] at this
  exact this
theorem m2_xor (a b : Nat) (ha : a < 256) (hb : b < 256) : m2 (a ^^^ b) = m2 a ^^^ m2 b := FM.mul_left a b 2 ha hb
theorem xor_ext (a b : Nat) (h : ∀ i, a.testBit i = b.testBit i) : a = b := Nat.eq_of_testBit_eq h
def fac (r k : Nat) : Nat := if r = k then 2 else if (r + 1) % 4 = k then 3 else 1
def col (a : Nat → Nat) (r : Nat) : Nat := (((0 ^^^ FM.mul (a 0) (fac r 0)) ^^^ FM.mul (a 1) (fac r 1)) ^^^ FM.mul (a 2) (fac r 2)) ^^^ FM.mul (a 3) (fac r 3)
theorem col_eq (a : Nat → Nat) (ha : ∀ i, i < 4 → a i < 256) (r : Nat) (hr : r < 4) :
    col a r = a r ^^^ ((((a 0 ^^^ a 1) ^^^ a 2) ^^^ a 3) ^^^ m2 (a r ^^^ a ((r + 1) % 4))) := by
  have h0 := ha 0 (by decide); have h1 := ha 1 (by decide); have h2 := ha 2 (by decide); have h3 := ha 3 (by decide)
  have : r = 0 ∨ r = 1 ∨ r = 2 ∨ r = 3 := by omega
  rcases this with rfl | rfl | rfl | rfl
  · show (((0 ^^^ m2 (a 0)) ^^^ FM.mul (a 1) 3) ^^^ FM.mul (a 2) 1) ^^^ FM.mul (a 3) 1 = a 0 ^^^ ((((a 0 ^^^ a 1) ^^^ a 2) ^^^ a 3) ^^^ m2 (a 0 ^^^ a 1))
    rw [m3 _ h1, FM.mul_one _ h2, FM.mul_one _ h3, m2_xor _ _ h0 h1]
    generalize a 0 = x0; generalize a 1 = x1; generalize a 2 = x2; generalize a 3 = x3
    refine xor_ext _ _ fun i => ?_
    simp only [Nat.testBit_xor, Nat.zero_testBit]
    generalize x0.testBit i = b0; generalize x1.testBit i = b1; generalize x2.testBit i = b2; generalize x3.testBit i = b3; generalize (m2 x0).testBit i = c0; generalize (m2 x1).testBit i = c1
    revert b0 b1 b2 b3 c0 c1; decide
  · show (((0 ^^^ FM.mul (a 0) 1) ^^^ m2 (a 1)) ^^^ FM.mul (a 2) 3) ^^^ FM.mul (a 3) 1 = a 1 ^^^ ((((a 0 ^^^ a 1) ^^^ a 2) ^^^ a 3) ^^^ m2 (a 1 ^^^ a 2))
    rw [m3 _ h2, FM.mul_one _ h0, FM.mul_one _ h3, m2_xor _ _ h1 h2]
    generalize a 0 = x0; generalize a 1 = x1; generalize a 2 = x2; generalize a 3 = x3
    refine xor_ext _ _ fun i => ?_
    simp only [Nat.testBit_xor, Nat.zero_testBit]
    generalize x0.testBit i = b0; generalize x1.testBit i = b1; generalize x2.testBit i = b2; generalize x3.testBit i = b3; generalize (m2 x1).testBit i = c0; generalize (m2 x2).testBit i = c1
    revert b0 b1 b2 b3 c0 c1; decide
  · show (((0 ^^^ FM.mul (a 0) 1) ^^^ FM.mul (a 1) 1) ^^^ m2 (a 2)) ^^^ FM.mul (a 3) 3 = a 2 ^^^ ((((a 0 ^^^ a 1) ^^^ a 2) ^^^ a 3) ^^^ m2 (a 2 ^^^ a 3))
    rw [m3 _ h3, FM.mul_one _ h0, FM.mul_one _ h1, m2_xor _ _ h2 h3]
    generalize a 0 = x0; generalize a 1 = x1; generalize a 2 = x2; generalize a 3 = x3
    refine xor_ext _ _ fun i => ?_
    simp only [Nat.testBit_xor, Nat.zero_testBit]
    generalize x0.testBit i = b0; generalize x1.testBit i = b1; generalize x2.testBit i = b2; generalize x3.testBit i = b3; generalize (m2 x2).testBit i = c0; generalize (m2 x3).testBit i = c1
    revert b0 b1 b2 b3 c0 c1; decide
  · show (((0 ^^^ FM.mul (a 0) 3) ^^^ FM.mul (a 1) 1) ^^^ FM.mul (a 2) 1) ^^^ m2 (a 3) = a 3 ^^^ ((((a 0 ^^^ a 1) ^^^ a 2) ^^^ a 3) ^^^ m2 (a 3 ^^^ a 0))
    rw [m3 _ h0, FM.mul_one _ h1, FM.mul_one _ h2, m2_xor _ _ h3 h0]
    generalize a 0 = x0; generalize a 1 = x1; generalize a 2 = x2; generalize a 3 = x3
    refine xor_ext _ _ fun i => ?_
    simp only [Nat.testBit_xor, Nat.zero_testBit]
    generalize x0.testBit i = b0; generalize x1.testBit i = b1; generalize x2.testBit i = b2; generalize x3.testBit i = b3; generalize (m2 x3).testBit i = c0; generalize (m2 x0).testBit i = c1
    revert b0 b1 b2 b3 c0 c1; decide

def bn (s : ByteArray) (i : Nat) : Nat := (bt s i).toNat
theorem bn_eq (s : ByteArray) (i : Nat) : bt s (i : Int) = ((bn s i : Nat) : Int) := (Int.toNat_of_nonneg (bt_by s i).lo).symm
theorem bn_lt (s : ByteArray) (i : Nat) : bn s i < 256 := by have := (bt_by s i).hi; have := (bt_by s i).lo; unfold bn; omega
theorem mixA_col (s : ByteArray) (c r : Nat) (hr : r < 4) : mixA (fun i => bt s i) (4 * c + r) = ((col (fun k => bn s (4 * c + k)) r : Nat) : Int) := by
  have e1 : 4 * ((4 * c + r) / 4) = 4 * c := by omega
  have e2 : (4 * c + r) % 4 = r := by omega
  have hb := fun k => bn_lt s (4 * c + k)
  rw [col_eq _ (fun k _ => hb k) r hr]
  unfold mixA
  rw [e1, e2]
  unfold mixI allI
  simp only [bn_eq]
  have l0 := bn_lt s (4 * c)
  have l1 := hb 1; have l2 := hb 2; have l3 := hb 3; have lr := hb r; have lq := hb ((r + 1) % 4)
  have t1 := FM.xor_lt l0 l1; have t2 := FM.xor_lt t1 l2; have t3 := FM.xor_lt t2 l3; have t4 := FM.xor_lt lr lq
  rw [x8 _ _ l0 l1, x8 _ _ t1 l2, x8 _ _ t2 l3, x8 _ _ lr lq, show (2 : Int) = ((2 : Nat) : Int) from rfl, mulI_nat]
  have t5 := FM.mul_lt _ 2 t4
  rw [x8 _ _ t3 t5, x8 _ _ lr (FM.xor_lt t3 t5)]
  rfl
theorem factor_eq (r k : Nat) (hr : r < 4) : saltusref06_factor.f r k = some ((fac r k : Nat) : Int) := by
  unfold saltusref06_factor.f fac
  have e : Int.tmod (wrap64 ((r : Int) + 1)) 4 = (((r + 1) % 4 : Nat) : Int) := by
    rw [w1' r (by omega)]; exact FE.tm (r + 1) 4
  rw [e]
  by_cases h : r = k
  · rw [if_pos (by omega), if_pos h]; rfl
  · rw [if_neg (by omega), if_neg h]
    by_cases h2 : (r + 1) % 4 = k
    · rw [if_pos (by omega), if_pos h2]; rfl
    · rw [if_neg (by omega), if_neg h2]; rfl
theorem fac_lt (r k : Nat) : fac r k < 256 := by unfold fac; split; · decide
                                                 split <;> decide
theorem cix (c j : Nat) (hc : c < 4) (hj : j < 4) : wrap64 (wrap64 (4 * (c : Int)) + (j : Int)) = ((4 * c + j : Nat) : Int) := by unfold wrap64; omega
def colTo (a : Nat → Nat) (r : Nat) : Nat → Nat
  | 0 => 0
  | k + 1 => colTo a r k ^^^ FM.mul (a k) (fac r k)
theorem colTo_lt (a : Nat → Nat) (ha : ∀ i, a i < 256) (r : Nat) : ∀ k, colTo a r k < 256
  | 0 => by show 0 < 256; decide
  | k + 1 => FM.xor_lt (colTo_lt a ha r k) (FM.mul_lt _ _ (ha k))
theorem refMixed_l2 (s : ByteArray) (hs : s.size = 16) (c r : Nat) (hc : c < 4) (hr : r < 4) (l : List Int) (hl : l.length < 100) (d : Nat) : ∀ (k j : Nat), d + j = 4 → d + 30 < k →
    saltusref06_Mixed.l2 k s l c r ((colTo (fun i => bn s (4 * c + i)) r j : Nat) : Int) j = saltusref06_Mixed.l1 (k - d - 1) s (l ++ [mixA (fun i => bt s i) (4 * c + r)]) c ((r + 1 : Nat) : Int) := by
  induction d with
  | zero =>
    intro k j hj hk
    obtain ⟨k, rfl⟩ : ∃ m, k = m + 1 := ⟨k - 1, by omega⟩
    obtain rfl : j = 4 := by omega
    simp only [saltusref06_Mixed.l2]
    rw [if_neg (by omega), if_pos (by omega), w1' r (by omega), mixA_col s c r hr]
    rfl
  | succ d ih =>
    intro k j hj hk
    obtain ⟨k, rfl⟩ : ∃ m, k = m + 1 := ⟨k - 1, by omega⟩
    simp only [saltusref06_Mixed.l2]
    rw [if_pos (by omega), cix c j hc (by omega), if_pos (by omega), if_pos (by omega), factor_eq r j hr]
    simp only [Option.bind_some]
    rw [bn_eq, FE.refmul_eq k _ _ (bn_lt s _) (fac_lt r j) (by omega)]
    simp only [Option.bind_some]
    rw [x8 _ _ (colTo_lt _ (fun i => bn_lt s _) r j) (FM.mul_lt _ _ (bn_lt s _)), w1' j (by omega)]
    have := ih k (j + 1) (by omega) (by omega)
    rw [show k + 1 - (d + 1) - 1 = k - d - 1 by omega]
    exact this
theorem refMixed_go (s : ByteArray) (hs : s.size = 16) (d : Nat) : ∀ (k c r : Nat), c < 4 → r ≤ 4 → d + 5 * c + r = 20 → 10 * d + 50 < k →
    saltusref06_Mixed.l1 k s ((List.range (4 * c + r)).map fun j : Nat => mixA (fun i => bt s i) j) c r = some (mixedS s) := by
  induction d with
  | zero => intro k c r hc hr hd hk; omega
  | succ d ih =>
    intro k c r hc hr hd hk
    obtain ⟨k, rfl⟩ : ∃ m, k = m + 1 := ⟨k - 1, by omega⟩
    simp only [saltusref06_Mixed.l1]
    by_cases h4 : r < 4
    · rw [if_pos (by omega)]
      have := refMixed_l2 s hs c r hc h4 ((List.range (4 * c + r)).map fun j : Nat => mixA (fun i => bt s i) j) (by simp; omega) 4 k 0 rfl (by omega)
      rw [range_snoc (fun j : Nat => mixA (fun i => bt s i) j) (4 * c + r)] at this
      exact this.trans (ih (k - 4 - 1) c (r + 1) hc (by omega) (by omega) (by omega))
    · obtain rfl : r = 4 := by omega
      rw [if_neg (by omega), w1' c (by omega)]
      obtain ⟨k, rfl⟩ : ∃ m, k = m + 1 := ⟨k - 1, by omega⟩
      simp only [saltusref06_Mixed.l0]
      by_cases h5 : c + 1 < 4
      · rw [if_pos (by omega)]
        exact ih k (c + 1) 0 h5 (by omega) (by omega) (by omega)
      · rw [if_neg (by omega)]
        obtain rfl : c = 3 := by omega
        rfl
theorem refMixed_eq (k : Nat) (s : ByteArray) (hs : s.size = 16) (hk : 400 < k) : saltusref06_Mixed.f k s = some (mixedS s) := by
  obtain ⟨k, rfl⟩ : ∃ m, k = m + 1 := ⟨k - 1, by omega⟩
  unfold saltusref06_Mixed.f
  simp only [saltusref06_Mixed.l0]
  rw [if_pos (by decide)]
  exact refMixed_go s hs 20 k 0 0 (by decide) (by decide) rfl (by omega)
end Go.Proofs.Ytnaidfcehmdmcaa.AS
end
section
namespace Go.Proofs.Ytnaidfcehmdmcaa.AS
open Go.RowKit Go.Proofs.YtnaidfcehmdmcaaW.PrintWords Go.Proofs.YtnaidfcehmdmcaaW.PrintLast Go.Proofs.YtnaidfcehmdmcaaW.PrintMore
open Go.Proofs.Ytnaidfcehmdmcaa.FC Go.Proofs.Ytnaidfcehmdmcaa.Mem
theorem rTurned (s : ByteArray) (h : s.size = 16) (w : World) : Calls Try.prog 29 #[.string s] w fun e w' => e = .returned (.string (turnedS s)) ∧ Below w.heap.size w w' :=
 PAesEncrypts.saltusref06_Turned.calls 500 s _ w (refTurned_eq 500 s h (by omega))
theorem rMixed (s : ByteArray) (h : s.size = 16) (w : World) : Calls Try.prog 30 #[.string s] w fun e w' => e = .returned (.string (mixedS s)) ∧ Below w.heap.size w w' :=
 PAesEncrypts.saltusref06_Mixed.calls 500 s _ w (refMixed_eq 500 s h (by omega))
theorem Bel.step {w w1 w2 : World} (h : Below w.heap.size w w1) (h' : Below w1.heap.size w1 w2) : Below w.heap.size w w2 := h.trans (h'.mono h.size)
end Go.Proofs.Ytnaidfcehmdmcaa.AS
end
section
namespace Go.Proofs.Ytnaidfcehmdmcaa.AK
open Go.RowKit Go.Proofs.Ytnaidfcehmdmcaa.PAesEncrypts Go.Proofs.YtnaidfcehmdmcaaW.PrintWords Go.Proofs.YtnaidfcehmdmcaaW.PrintLast Go.Proofs.YtnaidfcehmdmcaaW.PrintMore
open Go.Proofs.Ytnaidfcehmdmcaa.FC Go.Proofs.Ytnaidfcehmdmcaa.Mem Go.Proofs.Ytnaidfcehmdmcaa.AS Go.Proofs.Ytnaidfcehmdmcaa.Key
def tx (n : Nat) (f : Nat → Int) : ByteArray := strOfNums ((List.range n).map f)
theorem boxed_l0 (s : ByteArray) (hs : s.size ≤ 1000) (d : Nat) : ∀ (k i : Nat), d + i = s.size → d + 301 < k →
  saltusref06_Boxed.l0 k s ((List.range i).map fun j : Nat => boxI (bt s j)) i = some (tx s.size fun i => boxI (bt s i)) := by
 induction d with
 | zero =>
  intro k i hi hk
  obtain ⟨k, rfl⟩ : ∃ m, k = m + 1 := ⟨k - 1, by omega⟩
  obtain rfl : i = s.size := by omega
  simp only [saltusref06_Boxed.l0]
  rw [if_neg (by omega)]
  rfl
 | succ d ih =>
  intro k i hi hk
  obtain ⟨k, rfl⟩ : ∃ m, k = m + 1 := ⟨k - 1, by omega⟩
  simp only [saltusref06_Boxed.l0]
  rw [if_pos (by omega), if_pos (by omega), refbox_bt k s i (by omega)]
  simp only [Option.bind_some]
  rw [if_pos (by simp; omega), w1' i (by omega), range_snoc (fun j : Nat => boxI (bt s j)) i]
  exact ih k (i + 1) (by omega) (by omega)
theorem boxed_eq (s : ByteArray) (hs : s.size ≤ 1000) : saltusref06_Boxed.f 2000 s = some (tx s.size fun i => boxI (bt s i)) := boxed_l0 s hs s.size 2000 0 (by omega) (by omega)
def keysL (key : ByteArray) : List ByteArray := (List.range (keyN key)).map (keyT (keyB key))
def okKey (key : ByteArray) : Prop := key.size = 16 ∨ key.size = 32
instance (key : ByteArray) : Decidable (okKey key) := by unfold okKey; infer_instance
theorem two_pw (n : Nat) : twoI n = (FM.pw 2 n : Nat) := by unfold twoI; rfl
end Go.Proofs.Ytnaidfcehmdmcaa.AK
namespace Go.Proofs.Ytnaidfcehmdmcaa
open Go.RowKit Go.Proofs.YtnaidfcehmdmcaaW.PrintWords Go.Proofs.YtnaidfcehmdmcaaW.PrintLast Go.Proofs.YtnaidfcehmdmcaaW.PrintMore
open Go.Proofs.Ytnaidfcehmdmcaa.FC Go.Proofs.Ytnaidfcehmdmcaa.Mem Go.Proofs.Ytnaidfcehmdmcaa.AS Go.Proofs.Ytnaidfcehmdmcaa.Key Go.Proofs.Ytnaidfcehmdmcaa.AK
def saltuslaw06_alive.f : Option Bool := some true
theorem saltuslaw06_alive.calls (r : Bool) (w : World) (h : saltuslaw06_alive.f = some r) : Calls Try.prog 27 #[] w fun e w' => e = .returned (.bool r) ∧ Below w.heap.size w w' := by
 obtain rfl := Option.some.inj h
 exact alive06 w
def aes_Keys.f (a0 : ByteArray) : Option (List ByteArray × Int) := some (if okKey a0 then (keysL a0, 0) else ([], 4))
theorem aes_Keys.calls (a0 : ByteArray) (r1 : List ByteArray) (r2 : Int) (w : World) (h : aes_Keys.f a0 = some (r1, r2)) :
  Calls Try.prog 31 #[.string a0] w fun e w' => ∃ v0_ : Value, e = .returned (.tuple #[v0_, .int .i64 r2]) ∧ Kd.R Kd.string 9 w' w.heap.size (fun _ => True) v0_ r1 ∧ Below w.heap.size w w' := by
 have h := Option.some.inj h
 by_cases hk : okKey a0
 ·rw [if_pos hk] at h
  obtain ⟨rfl, rfl⟩ := Prod.mk.inj h
  refine (keys_yes a0 hk w).mono fun e w' ⟨v, he, hr, hb⟩ => ⟨v, he, ?_, hb⟩
  refine Kd.R_of_own ?_ (fun _ _ => trivial)
  unfold KeysRow at hr
  have e1 : (keysL a0).length = keyN a0 := by simp [keysL]
  rw [e1]
  unfold encs keysL
  rw [List.map_map]
  exact hr
 ·rw [if_neg hk] at h
  obtain ⟨rfl, rfl⟩ := Prod.mk.inj h
  exact (keys_no a0 (fun x => hk (.inl x)) (fun x => hk (.inr x)) w).mono fun e w' ⟨he, hb⟩ => ⟨_, he, Kd.R_nil _ _ _ _ _, hb⟩
def aes_Encrypt.f (a0 a1 : ByteArray) : Option (ByteArray × Int) := some (if okKey a0 ∧ a1.size = 16 then (encS a0 a1, 0) else (⟨#[]⟩, 4))
theorem aes_Encrypt.calls (a0 a1 : ByteArray) (r1 : ByteArray) (r2 : Int) (w : World) (h : aes_Encrypt.f a0 a1 = some (r1, r2)) :
  Calls Try.prog 35 #[.string a0, .string a1] w fun e w' => e = .returned (.tuple #[.string r1, .int .i64 r2]) ∧ Below w.heap.size w w' := by
 have h := Option.some.inj h
 by_cases hk : okKey a0
 ·by_cases hb : a1.size = 16
  ·rw [if_pos ⟨hk, hb⟩] at h
   obtain ⟨rfl, rfl⟩ := Prod.mk.inj h
   exact enc_yes a0 a1 hk hb w
  ·rw [if_neg (fun x => hb x.2)] at h
   obtain ⟨rfl, rfl⟩ := Prod.mk.inj h
   exact enc_size a0 a1 hk hb w
 ·rw [if_neg (fun x => hk x.1)] at h
  obtain ⟨rfl, rfl⟩ := Prod.mk.inj h
  exact enc_no a0 a1 (fun x => hk (.inl x)) (fun x => hk (.inr x)) w
def saltusref06_Boxed.f (a0 : ByteArray) : Option ByteArray := if a0.size ≤ 1000 then some (tx a0.size fun i => boxI (bt a0 i)) else none
theorem saltusref06_Boxed.calls (a0 : ByteArray) (r : ByteArray) (w : World) (h : saltusref06_Boxed.f a0 = some r) : Calls Try.prog 28 #[.string a0] w fun e w' => e = .returned (.string r) ∧ Below w.heap.size w w' := by
 unfold saltusref06_Boxed.f at h
 split at h
 ·rename_i hc
  obtain rfl := Option.some.inj h
  exact PAesEncrypts.saltusref06_Boxed.calls 2000 a0 _ w (boxed_eq a0 hc)
 ·cases h
def saltusref06_Turned.f (a0 : ByteArray) : Option ByteArray := if a0.size = 16 then some (turnedS a0) else none
theorem saltusref06_Turned.calls (a0 : ByteArray) (r : ByteArray) (w : World) (h : saltusref06_Turned.f a0 = some r) : Calls Try.prog 29 #[.string a0] w fun e w' => e = .returned (.string r) ∧ Below w.heap.size w w' := by
 unfold saltusref06_Turned.f at h
 split at h
 ·rename_i hc
  obtain rfl := Option.some.inj h
  exact rTurned a0 hc w
 ·cases h
def saltusref06_Mixed.f (a0 : ByteArray) : Option ByteArray := if a0.size = 16 then some (mixedS a0) else none
theorem saltusref06_Mixed.calls (a0 : ByteArray) (r : ByteArray) (w : World) (h : saltusref06_Mixed.f a0 = some r) : Calls Try.prog 30 #[.string a0] w fun e w' => e = .returned (.string r) ∧ Below w.heap.size w w' := by
 unfold saltusref06_Mixed.f at h
 split at h
 ·rename_i hc
  obtain rfl := Option.some.inj h
  exact rMixed a0 hc w
 ·cases h
def saltusref05_Pow.f (a0 a1 : Int) : Option Int := if a0 = 2 ∧ 0 ≤ a1 ∧ a1 < 1000 then some (twoI a1.toNat) else none
theorem saltusref05_Pow.calls (a0 a1 : Int) (r : Int) (w : World) (h : saltusref05_Pow.f a0 a1 = some r) : Calls Try.prog 15 #[.int .u8 a0, .int .i64 a1] w fun e w' => e = .returned (.int .u8 r) ∧ Below w.heap.size w w' := by
 unfold saltusref05_Pow.f at h
 split at h
 ·rename_i hc
  obtain rfl := Option.some.inj h
  obtain ⟨rfl, h0, h1⟩ := hc
  obtain ⟨n, rfl⟩ := Int.eq_ofNat_of_zero_le h0
  rw [Int.toNat_natCast, two_pw]
  exact (PAesEncrypts.saltusref05_Pow.calls 2000 2 (n : Int) _ w (FE.refpow_eq 2000 2 n (by omega) (by decide) (by omega))).mono fun e w' ⟨he, hd⟩ => ⟨he, hd.below⟩
 ·cases h
end Go.Proofs.Ytnaidfcehmdmcaa
end
section
namespace Go.Proofs.Ytnaidfcehmdmcaa.QAK
open Go.RowKit Go.Proofs.YtnaidfcehmdmcaaW.PrintWords Go.Proofs.YtnaidfcehmdmcaaW.PrintLast Go.Proofs.YtnaidfcehmdmcaaW.PrintMore
attribute [local go_sem] max2_int min2_int max_two min_two max_three min_three max_four min_four   -- for this text's walks alone
set_option linter.unusedVariables false
set_option linter.unusedSimpArgs false
def errW : Option Int → Value
 | none => .nilIface
 | some c => .iface 0 (.int .i64 c)
theorem errW_none : errW none = .nilIface := rfl
theorem errW_some (c : Int) : errW (some c) = .iface 0 (.int .i64 c) := rfl
theorem info5 : (Try.prog.info? 5).map (fun i => (i.zero, i.size, i.bytes)) = some (some (.int .u8 0), 1, 1) := by kernel_rfl
theorem info9 : (Try.prog.info? 9).map (fun i => (i.zero, i.size, i.bytes)) = some (some (.string ⟨#[]⟩), 1, 16) := by kernel_rfl
end Go.Proofs.Ytnaidfcehmdmcaa.QAK
end
section
namespace Go.Proofs.Ytnaidfcehmdmcaa.QAK
open Go.RowKit Go.Proofs.YtnaidfcehmdmcaaW.PrintWords Go.Proofs.YtnaidfcehmdmcaaW.PrintLast Go.Proofs.YtnaidfcehmdmcaaW.PrintMore
attribute [local go_sem] max2_int min2_int max_two min_two max_three min_three max_four min_four   -- for this text's walks alone
set_option linter.unusedVariables false
set_option linter.unusedSimpArgs false
/-! ### saltuslaw06_cut: function 23 -/
def saltuslaw06_cut.f (a0 : ByteArray) : Option (ByteArray) := if 0 ≤ (mn (a0.size : Int) 40) then (if (mn (a0.size : Int) 40) ≤ (a0.size : Int) then (some (a0.extract 0 ((mn (a0.size : Int) 40) : Int).toNat)) else (none)) else (none)
set_option maxHeartbeats 8000000 in
set_option maxRecDepth 100000 in
theorem saltuslaw06_cut.calls (a0 : ByteArray) (r : ByteArray) (w : World) (h : saltuslaw06_cut.f a0 = some r) :
  Calls Try.prog 23 #[.string a0] w fun e w' => e = .returned (.string r) ∧ Below w.heap.size w w' := by
 have HB := Aside0.mk (Below.refl w.heap.size w)
 have H : (if 0 ≤ (mn (a0.size : Int) 40) then (if (mn (a0.size : Int) 40) ≤ (a0.size : Int) then (some (a0.extract 0 ((mn (a0.size : Int) 40) : Int).toNat)) else (none)) else (none)) = some r := h
 clear h
 obtain ⟨ji2, hji2⟩ : ∃ j_ : Int, (mn (a0.size : Int) 40) = j_ := ⟨_, rfl⟩
 replace H : (if 0 ≤ (ji2) then (if (ji2) ≤ (a0.size : Int) then (some (a0.extract 0 ((ji2) : Int).toNat)) else (none)) else (none)) = some r := by first | (rw [hji2] at H; exact H) | (simp only [hji2] at H ⊢; exact H)
 (try (have hji2h : ji2 ≤ 40 := by (rw [← hji2]; unfold mn; (repeat' split) <;> omega)))
 (try (have hji2g : ji2 ≤ 64 := by omega))
 (try (have hji2l : 0 ≤ ji2 := by (rw [← hji2]; unfold mn; (repeat' split) <;> omega)))
 (try (have hji2m : 0 ≤ ji2 := by omega))
 have hji2_ : (if 40 < (a0.size : Int) then 40 else (a0.size : Int)) = ji2 := hji2
 by_cases c3 : 0 ≤ (ji2)
 ·rw [if_pos c3] at H
  have c3b0 := eq_true c3
  have c3b1 : decide (0 ≤ (ji2)) = true := decide_eq_true c3
  clear c3
  by_cases c4 : (ji2) ≤ (a0.size : Int)
  ·rw [if_pos c4] at H
   have c4b0 := eq_true c4
   have c4b1 : decide ((ji2) ≤ (a0.size : Int)) = true := decide_eq_true c4
   clear c4
   obtain rfl := Option.some.inj H
   go_enter Try.func23, Try.ntmps23
   go_wp2
   go_ret
   exact ⟨by first | rfl | (simp [errW_none, errW_some] <;> rfl) | (simp only [← hji2]; first | rfl | (simp [errW_none, errW_some] <;> rfl)) | (simp [*, errW_none, errW_some] <;> rfl), by repeat (first | (with_reducible first | exact HB.out | apply below_alloc | apply pw_below_drewN | apply below_drew1) | exact HB.out)⟩
  ·rw [if_neg c4] at H
   exact absurd H (by simp)
 ·rw [if_neg c3] at H
  exact absurd H (by simp)
/-! ### saltusref06_Key: function 32 -/
def saltusref06_Key.f (a0 : ByteArray) : Option (Bool) := if (a0.size : Int) = 16 then (some true) else (some ((a0.size : Int) == 32))
set_option maxHeartbeats 8000000 in
set_option maxRecDepth 100000 in
theorem saltusref06_Key.calls (a0 : ByteArray) (r : Bool) (w : World) (h : saltusref06_Key.f a0 = some r) :
  Calls Try.prog 32 #[.string a0] w fun e w' => e = .returned (.bool r) ∧ Drawn0 w w' := by
 have H : (if (a0.size : Int) = 16 then (some true) else (some ((a0.size : Int) == 32))) = some r := h
 clear h
 by_cases c2 : (a0.size : Int) = 16
 ·rw [if_pos c2] at H
  have c2b0 : ((a0.size : Int) == 16) = true := beq_iff_eq.mpr c2
  have c2b1 : ((a0.size : Int) != 16) = false := bne_eq_false_iff_eq.mpr c2
  clear c2
  obtain rfl := Option.some.inj H
  go_enter Try.func32, Try.ntmps32
  go_wp2
  go_ret
  exact ⟨by first | rfl | (simp; done) | (simp [*]; done), by repeat (first | exact Drawn0.refl _ | apply Drawn0.step)⟩
 ·rw [if_neg c2] at H
  have c2b0 : ((a0.size : Int) == 16) = false := beq_eq_false_iff_ne.mpr c2
  have c2b1 : ((a0.size : Int) != 16) = true := bne_iff_ne.mpr c2
  obtain rfl := Option.some.inj H
  go_enter Try.func32, Try.ntmps32
  go_wp2
  go_ret
  exact ⟨by first | rfl | (simp; done) | (simp [*]; done), by repeat (first | exact Drawn0.refl _ | apply Drawn0.step)⟩
/-! ### saltusref04_Same: function 33 -/
def saltusref04_Same.l0 : Nat → List ByteArray → List ByteArray → Int → Int → Option (Bool)
 | 0, _, _, _, _ => none
 | k + 1, x0, x1, x12, x13 => if x13 < x12 then (if 0 ≤ x13 then (if x13 < (x0.length : Int) then (if x13 < (x1.length : Int) then (if (rdOf ByteArray.empty x0 x13).toList = (rdOf ByteArray.empty x1 x13).toList then (saltusref04_Same.l0 k x0 x1 x12 (wrap64 (x13 + 1))) else (some false)) else (none)) else (none)) else (none)) else (some true)
def saltusref04_Same.f (k : Nat) (l0 : List ByteArray) (l1 : List ByteArray) : Option (Bool) := if (l0.length : Int) = (l1.length : Int) then (saltusref04_Same.l0 k l0 l1 (l0.length : Int) 0) else (some false)
theorem saltusref04_Same.mono_l : ∀ k, (∀ y0 y1 y2 y3, LeO (saltusref04_Same.l0 k y0 y1 y2 y3) (saltusref04_Same.l0 (k + 1) y0 y1 y2 y3))
 | 0 => fun _ _ _ _ r h => by simp [saltusref04_Same.l0] at h
 | k + 1 => by
  have ih0 := saltusref04_Same.mono_l k
  ·intro y0 y1 y2 y3
   unfold saltusref04_Same.l0
   repeat' first
   | (with_reducible exact ih0 _ _ _ _)
   | (with_reducible exact LeO.refl _)
   | (with_reducible exact LeO.none _)
   | (with_reducible refine LeO.ite ?_ ?_)
   | (with_reducible refine LeO.bind ?_ (fun _ => ?_))
   | exact ih0 _ _ _ _
   | exact LeO.none _
   | refine LeO.ite ?_ ?_
   | refine LeO.bind ?_ (fun _ => ?_)
theorem saltusref04_Same.mono : ∀ a0 a1 k, LeO (saltusref04_Same.f k a0 a1) (saltusref04_Same.f (k + 1) a0 a1) := by
 intro a0 a1 k
 have ih0 := saltusref04_Same.mono_l k
 unfold saltusref04_Same.f
 repeat' first
   | (with_reducible exact ih0 _ _ _ _)
   | (with_reducible exact LeO.refl _)
   | (with_reducible exact LeO.none _)
   | (with_reducible refine LeO.ite ?_ ?_)
   | (with_reducible refine LeO.bind ?_ (fun _ => ?_))
   | exact ih0 _ _ _ _
   | exact LeO.none _
   | refine LeO.ite ?_ ?_
   | refine LeO.bind ?_ (fun _ => ?_)
set_option maxHeartbeats 8000000 in
set_option maxRecDepth 100000 in
theorem saltusref04_Same.calls (k : Nat) (A0 : Option Addr) (c0 : Nat) (l0 : List ByteArray) (A1 : Option Addr) (c1 : Nat) (l1 : List ByteArray) (r : Bool) (w : World) (hr0 : Kd.C Kd.string w A0 l0.length l0) (hc0 : l0.length ≤ c0) (hr1 : Kd.C Kd.string w A1 l1.length l1) (hc1 : l1.length ≤ c1) (h : saltusref04_Same.f k l0 l1 = some r) :
  Calls Try.prog 33 #[.slice A0 l0.length c0, .slice A1 l1.length c1] w fun e w' => e = .returned (.bool r) ∧ Drawn0 w w' := by
 have HR0 := Aside0.mk hr0
 have HC0 := Aside0.mk hc0
 clear hr0 hc0
 have HR1 := Aside0.mk hr1
 have HC1 := Aside0.mk hc1
 clear hr1 hc1
 have H : (if (l0.length : Int) = (l1.length : Int) then (saltusref04_Same.l0 k l0 l1 (l0.length : Int) 0) else (some false)) = some r := h
 clear h
 by_cases c3 : (l0.length : Int) = (l1.length : Int)
 ·rw [if_pos c3] at H
  have c3b0 : ((l0.length : Int) == (l1.length : Int)) = true := beq_iff_eq.mpr c3
  have c3b1 : ((l0.length : Int) != (l1.length : Int)) = false := bne_eq_false_iff_eq.mpr c3
  have c3b2 : (l0.length == l1.length) = true := by first | simpa using c3 | (simp at c3 ⊢; omega)
  clear c3
  have H' := Aside0.mk H
  clear H
  go_enter Try.func33, Try.ntmps33
  go_wp2
  repeat (go_quiet (fail); try go_wp2)
  go_loopg [13] k (fun kq v13 w' => ∃ (x13_1 : Int), v13 = .int .i64 x13_1 ∧ Aside0 (saltusref04_Same.l0 kq l0 l1 (l0.length : Int) x13_1 = some r) ∧ Aside0 (kq ≤ k) ∧ Drawn0 w w')
  case atStart => exact ⟨(0), (by first | rfl | (simp; done) | (simp [*]; done)), H', ⟨Nat.le_refl _⟩, by repeat (first | exact Drawn0.refl _ | apply Drawn0.step)⟩
  case round =>
   clear H'
   try clear c1
   try clear p2
   try clear c3
   try clear c3b0
   try clear c3b1
   try clear c3b2
   obtain ⟨x13_1, rfl, HA, HK1, ⟨m1, rfl⟩⟩ := hrel
   cases gk with
   | zero => exact absurd HA.out (by simp [saltusref04_Same.l0])
   | succ k1 =>
    have H := HA.out
    clear HA
    simp only [saltusref04_Same.l0] at H
    by_cases c4 : x13_1 < (l0.length : Int)
    ·rw [if_pos c4] at H
     have c4b0 : decide (x13_1 < (l0.length : Int)) = true := decide_eq_true c4
     clear c4
     by_cases c5 : 0 ≤ x13_1
     ·rw [if_pos c5] at H
      have c5b0 : decide (0 ≤ x13_1) = true := decide_eq_true c5
      clear c5
      by_cases c6 : x13_1 < (l0.length : Int)
      ·rw [if_pos c6] at H
       have c6b0 : decide (x13_1 < (l0.length : Int)) = true := decide_eq_true c6
       clear c6
       by_cases c7 : x13_1 < (l1.length : Int)
       ·rw [if_pos c7] at H
        have c7b0 : decide (x13_1 < (l1.length : Int)) = true := decide_eq_true c7
        clear c7
        by_cases c8 : (rdOf ByteArray.empty l0 x13_1).toList = (rdOf ByteArray.empty l1 x13_1).toList
        ·rw [if_pos c8] at H
         have c8b0 : ((rdOf ByteArray.empty l0 x13_1).toList == (rdOf ByteArray.empty l1 x13_1).toList) = true := beq_iff_eq.mpr c8
         have c8b1 : ((rdOf ByteArray.empty l0 x13_1).toList != (rdOf ByteArray.empty l1 x13_1).toList) = false := bne_eq_false_iff_eq.mpr c8
         clear c8
         have H' := Aside0.mk H
         clear H
         have p101 : 0 ≤ (x13_1 : Int) := of_decide_eq_true (by first | (with_reducible assumption) | assumption)
         have q101 : x13_1 < (l0.length : Int) := of_decide_eq_true (by first | (with_reducible assumption) | assumption)
         obtain ⟨ad101, e101, hx101_0⟩ := Kd.at_string HR0.out x13_1 p101 q101
         cases e101
         replace p101 := eq_true p101
         replace q101 := eq_true q101
         have p102 : 0 ≤ (x13_1 : Int) := of_decide_eq_true (by first | (with_reducible assumption) | assumption)
         have q102 : x13_1 < (l1.length : Int) := of_decide_eq_true (by first | (with_reducible assumption) | assumption)
         obtain ⟨ad102, e102, hx102_0⟩ := Kd.at_string HR1.out x13_1 p102 q102
         cases e102
         replace p102 := eq_true p102
         replace q102 := eq_true q102
         go_wp2
         repeat (go_quiet (fail); try go_wp2)
         go_roundg k1
         case measure => have := HK1.out; omega
         case rel => exact ⟨(wrap64 (x13_1 + 1)), (by first | rfl | (simp; done) | (simp [*]; done)), H', ⟨by have := HK1.out; omega⟩, by repeat (first | exact Drawn0.refl _ | apply Drawn0.step)⟩
        ·rw [if_neg c8] at H
         have c8b0 : ((rdOf ByteArray.empty l0 x13_1).toList == (rdOf ByteArray.empty l1 x13_1).toList) = false := beq_eq_false_iff_ne.mpr c8
         have c8b1 : ((rdOf ByteArray.empty l0 x13_1).toList != (rdOf ByteArray.empty l1 x13_1).toList) = true := bne_iff_ne.mpr c8
         obtain rfl := Option.some.inj H
         have p101 : 0 ≤ (x13_1 : Int) := of_decide_eq_true (by first | (with_reducible assumption) | assumption)
         have q101 : x13_1 < (l0.length : Int) := of_decide_eq_true (by first | (with_reducible assumption) | assumption)
         obtain ⟨ad101, e101, hx101_0⟩ := Kd.at_string HR0.out x13_1 p101 q101
         cases e101
         replace p101 := eq_true p101
         replace q101 := eq_true q101
         have p102 : 0 ≤ (x13_1 : Int) := of_decide_eq_true (by first | (with_reducible assumption) | assumption)
         have q102 : x13_1 < (l1.length : Int) := of_decide_eq_true (by first | (with_reducible assumption) | assumption)
         obtain ⟨ad102, e102, hx102_0⟩ := Kd.at_string HR1.out x13_1 p102 q102
         cases e102
         replace p102 := eq_true p102
         replace q102 := eq_true q102
         go_wp2
         repeat (go_quiet (fail); try go_wp2)
         go_ret
         exact ⟨by first | rfl | (simp; done) | (simp [*]; done), by repeat (first | exact Drawn0.refl _ | apply Drawn0.step)⟩
       ·rw [if_neg c7] at H
        exact absurd H (by simp)
      ·rw [if_neg c6] at H
       exact absurd H (by simp)
     ·rw [if_neg c5] at H
      exact absurd H (by simp)
    ·rw [if_neg c4] at H
     have c4b0 : decide (x13_1 < (l0.length : Int)) = false := decide_eq_false c4
     clear c4
     obtain rfl := Option.some.inj H
     go_wp2
     repeat (go_quiet (fail); try go_wp2)
     go_ret
     exact ⟨by first | rfl | (simp; done) | (simp [*]; done), by repeat (first | exact Drawn0.refl _ | apply Drawn0.step)⟩
 ·rw [if_neg c3] at H
  have c3b0 : ((l0.length : Int) == (l1.length : Int)) = false := beq_eq_false_iff_ne.mpr c3
  have c3b1 : ((l0.length : Int) != (l1.length : Int)) = true := bne_iff_ne.mpr c3
  have c3b2 : (l0.length == l1.length) = false := by first | simpa using c3 | (simp at c3 ⊢; omega)
  obtain rfl := Option.some.inj H
  go_enter Try.func33, Try.ntmps33
  go_wp2
  repeat (go_quiet (fail); try go_wp2)
  go_ret
  exact ⟨by first | rfl | (simp; done) | (simp [*]; done), by repeat (first | exact Drawn0.refl _ | apply Drawn0.step)⟩
/-! ### saltusref06_text: function 52 -/
def saltusref06_text.f (l0 : List Int) : Option (ByteArray) := some (strOfNums l0)
set_option maxHeartbeats 8000000 in
set_option maxRecDepth 100000 in
theorem saltusref06_text.calls (A0 : Option Addr) (c0 : Nat) (l0 : List Int) (r : ByteArray) (w : World) (hr0 : Kd.C (Kd.int .u8) w A0 l0.length l0) (hc0 : l0.length ≤ c0) (h : saltusref06_text.f l0 = some r) :
  Calls Try.prog 52 #[.slice A0 l0.length c0] w fun e w' => e = .returned (.string r) ∧ Drawn0 w w' := by
 have HR0 := Aside0.mk hr0
 have HC0 := Aside0.mk hc0
 clear hr0 hc0
 have H : (some (strOfNums l0)) = some r := h
 clear h
 obtain rfl := Option.some.inj H
 have hcv2 := Kd.C_string (P := Try.prog) (A := A0) (c := c0) Try.underlying29 Try.underlying5 Try.underlying9 HR0.out
 go_enter Try.func52, Try.ntmps52
 go_wp2
 go_ret
 exact ⟨by first | rfl | (simp; done) | (simp [*]; done), by repeat (first | exact Drawn0.refl _ | apply Drawn0.step)⟩
/-! ### saltusref06_Xor: function 57 -/
def saltusref06_Xor.l0 : Nat → ByteArray → ByteArray → List Int → Int → Option (ByteArray)
 | 0, _, _, _, _ => none
 | k + 1, x0, x1, x5, x6 => if x6 < (x0.size : Int) then (if 0 ≤ x6 then (if x6 < (x1.size : Int) then (if x5.length < 140737488355328 then (saltusref06_Xor.l0 k x0 x1 (x5 ++ [Go.bits .xor .u8 (bt x0 x6) (bt x1 x6)]) (wrap64 (x6 + 1))) else (none)) else (none)) else (none)) else ((saltusref06_text.f x5).bind fun t109 => (some t109))
def saltusref06_Xor.f (k : Nat) (a0 : ByteArray) (a1 : ByteArray) : Option (ByteArray) := saltusref06_Xor.l0 k a0 a1 (([] : List Int)) 0
theorem saltusref06_Xor.mono_l : ∀ k, (∀ y0 y1 y2 y3, LeO (saltusref06_Xor.l0 k y0 y1 y2 y3) (saltusref06_Xor.l0 (k + 1) y0 y1 y2 y3))
 | 0 => fun _ _ _ _ r h => by simp [saltusref06_Xor.l0] at h
 | k + 1 => by
  have ih0 := saltusref06_Xor.mono_l k
  ·intro y0 y1 y2 y3
   unfold saltusref06_Xor.l0
   repeat' first
   | (with_reducible exact ih0 _ _ _ _)
   | (with_reducible exact LeO.refl _)
   | (with_reducible exact LeO.none _)
   | (with_reducible refine LeO.ite ?_ ?_)
   | (with_reducible refine LeO.bind ?_ (fun _ => ?_))
   | exact ih0 _ _ _ _
   | exact LeO.none _
   | refine LeO.ite ?_ ?_
   | refine LeO.bind ?_ (fun _ => ?_)
theorem saltusref06_Xor.mono : ∀ a0 a1 k, LeO (saltusref06_Xor.f k a0 a1) (saltusref06_Xor.f (k + 1) a0 a1) := by
 intro a0 a1 k
 have ih0 := saltusref06_Xor.mono_l k
 unfold saltusref06_Xor.f
 repeat' first
   | (with_reducible exact ih0 _ _ _ _)
   | (with_reducible exact LeO.refl _)
   | (with_reducible exact LeO.none _)
   | (with_reducible refine LeO.ite ?_ ?_)
   | (with_reducible refine LeO.bind ?_ (fun _ => ?_))
   | exact ih0 _ _ _ _
   | exact LeO.none _
   | refine LeO.ite ?_ ?_
   | refine LeO.bind ?_ (fun _ => ?_)
def saltusref06_Xor.T5 : Bool × List (List Nat × List Nat) := (true, [([], []), ([], []), ([], []), ([1, 2], [1, 2]), ([], []), ([], []), ([4, 5], [4, 5]), ([3, 6], [3, 6]), ([7], [7]), ([0, 8], [0, 8]), ([9, 9, 0, 1, 2, 3, 4, 5, 6, 7, 8, 9], [0, 9])])
def saltusref06_Xor.B5 : List Nat := [0, 0, 0, 6, 0, 0, 48, 126, 254, 511, 1023]
theorem saltusref06_Xor.tab5 : rtab .any (opsOf Try.f57 5) = saltusref06_Xor.T5 := by kernel_rfl
theorem saltusref06_Xor.bits5 : waitsOk saltusref06_Xor.T5.2 saltusref06_Xor.B5 = true := by kernel_rfl
set_option maxHeartbeats 8000000 in
set_option maxRecDepth 100000 in
theorem saltusref06_Xor.calls (k : Nat) (a0 : ByteArray) (a1 : ByteArray) (r : ByteArray) (w : World) (h : saltusref06_Xor.f k a0 a1 = some r) :
  Calls Try.prog 57 #[.string a0, .string a1] w fun e w' => e = .returned (.string r) ∧ Below w.heap.size w w' := by
 have HB := Aside0.mk (Below.refl w.heap.size w)
 have H : (saltusref06_Xor.l0 k a0 a1 (([] : List Int)) 0) = some r := h
 clear h
 obtain ⟨y103, hy103⟩ : ∃ y_ : List Int, y_ = (([] : List Int)) := ⟨_, rfl⟩
 replace H : (saltusref06_Xor.l0 k a0 a1 y103 0) = some r := by first | (rw [hy103]; with_reducible exact H) | (have H2_ := (Option.bind_some _ _).symm.trans H; rw [hy103]; with_reducible exact H2_) | (have H2_ := (Option.bind_some _ _).symm.trans H; with_reducible exact H2_) | with_reducible exact H | (rw [hy103]; exact H) | exact H
 have Ny103 := Aside0.mk hy103
 clear hy103
 have H' := Aside0.mk H
 clear H
 go_enter Try.func57, Try.ntmps57
 go_wp2_with (first | ((with_reducible refine gate_dst (N := 7) rfl ?_); refine Kd.R_lit (Kd.int .u8) _ 5 ?hg (N := 7) ?hd (xs := ([] : List Int)) (inner := []) (ok := fun _ => True) (okp := fun _ => True) ?hr ?hp (fun _ hk => hk) trivial (Below.refl _ _) (Nat.le_refl _) (by simp) ?_; (case hd => rfl); (case hg => rfl); (case hr => first | (go_simp; done) | (go_simp; rfl)); (case hp => exact (Reps.none _ _)); intro v104 w3 ho4 hb hg_ hnew_; clear hg_ hnew_; (first | rw [← Ny103.out] at ho4 | (simp only [Int.reduceToNat] at ho4; rw [← Ny103.out] at ho4)); have n0_ := Aside0.mk (Kd.R_lower ho4 (below_size (by repeat (first | (with_reducible first | exact HB.out | apply below_alloc | apply pw_below_drewN | apply below_drew1) | exact HB.out)))); have n1_ := Aside0.mk (below_step (by repeat (first | (with_reducible first | exact HB.out | apply below_alloc | apply pw_below_drewN | apply below_drew1) | exact HB.out)) hb); clear HB; have HO105 := n0_; have HB := n1_; clear n0_ n1_; clear hb ho4))
 go_loopg [5, 6] k (fun kq v5 v6 w' => ∃ (x5_1 : List Int) (x6_1 : Int), v6 = .int .i64 x6_1 ∧ Aside0 (saltusref06_Xor.l0 kq a0 a1 x5_1 x6_1 = some r) ∧ Aside0 (kq ≤ k) ∧ Aside0 (Kd.R (Kd.int .u8) 5 w' w.heap.size (fun _ => True) v5 x5_1) ∧ Aside0 (Below w.heap.size w w'))
 case atStart => exact ⟨(y103), (0), (by first | rfl | (simp; done) | (simp [*]; done)), H', ⟨Nat.le_refl _⟩, ⟨by (with_reducible repeat (first | apply Kd.R_alloc | apply Kd.R_drewN | apply Kd.R_drew)); exact HO105.out⟩, ⟨by repeat (first | (with_reducible first | exact HB.out | apply below_alloc | apply pw_below_drewN | apply below_drew1) | exact HB.out)⟩⟩
 case round =>
  clear H'
  try clear p2
  obtain ⟨x5_1, x6_1, rfl, HA, HK1, HO_5, HB⟩ := hrel
  cases gk with
  | zero => exact absurd HA.out (by simp [saltusref06_Xor.l0])
  | succ k1 =>
   have H := HA.out
   clear HA
   simp only [saltusref06_Xor.l0] at H
   by_cases c5 : x6_1 < (a0.size : Int)
   ·rw [if_pos c5] at H
    have c5b0 : decide (x6_1 < (a0.size : Int)) = true := decide_eq_true c5
    clear c5
    by_cases c6 : 0 ≤ x6_1
    ·rw [if_pos c6] at H
     have c6b0 : decide (0 ≤ x6_1) = true := decide_eq_true c6
     clear c6
     by_cases c8 : x6_1 < (a1.size : Int)
     ·rw [if_pos c8] at H
      have c8b0 : decide (x6_1 < (a1.size : Int)) = true := decide_eq_true c8
      clear c8
      by_cases c10 : x5_1.length < 140737488355328
      ·rw [if_pos c10] at H
       have LMc10 := Aside0.mk c10
       clear c10
       obtain ⟨y106, hy106⟩ : ∃ y_ : List Int, y_ = (x5_1 ++ [Go.bits .xor .u8 (bt a0 x6_1) (bt a1 x6_1)]) := ⟨_, rfl⟩
       replace H : (saltusref06_Xor.l0 k1 a0 a1 y106 (wrap64 (x6_1 + 1))) = some r := by first | (rw [hy106]; with_reducible exact H) | (have H2_ := (Option.bind_some _ _).symm.trans H; rw [hy106]; with_reducible exact H2_) | (have H2_ := (Option.bind_some _ _).symm.trans H; with_reducible exact H2_) | with_reducible exact H | (rw [hy106]; exact H) | exact H
       have Ny106 := Aside0.mk hy106
       clear hy106
       have H' := Aside0.mk H
       clear H
       try go_wp2
       have n0_ := Aside0.mk (Kd.R_drew HO_5.out)
       have n1_ := Aside0.mk (below_drew1 HB.out)
       clear HO_5
       clear HB
       have HO_5 := n0_
       have HB := n1_
       clear n0_ n1_
       have p7 : 0 ≤ (x6_1 : Int) := of_decide_eq_true (by first | (with_reducible assumption) | assumption)
       have q7 : x6_1 < (a0.size : Int) := of_decide_eq_true (by first | (with_reducible assumption) | assumption)
       have hx7 := bt_at a0 x6_1
       replace p7 := eq_true p7
       replace q7 := eq_true q7
       have p9 : 0 ≤ (x6_1 : Int) := of_decide_eq_true (by first | (with_reducible assumption) | assumption)
       have q9 : x6_1 < (a1.size : Int) := of_decide_eq_true (by first | (with_reducible assumption) | assumption)
       have hx9 := bt_at a1 x6_1
       replace p9 := eq_true p9
       replace q9 := eq_true q9
       refine start_ (n := 11) (S := fun w' => True) (ds := []) #[false, false, false, false, false, false, false, false, false, false, false] (by kernel_rfl) rfl rfl trivial (fun hHeld => ?_); refine with_tabW saltusref06_Xor.tab5 saltusref06_Xor.bits5 (fun HT_ HW_ => ?_)
       generalize wr.drew = w11 at HO_5 HB hHeld ⊢
       refine pure_ (i := 0) (N := some 14) (v := ?_) (a' := ?_) #[true, false, false, false, false, false, false, false, false, false, false] rfl rfl (any_of HT_.out (by kernel_rfl)) (fun _ _ _ h => h) (Or.inl ⟨by rfl, ?_⟩) ?_ ?_
       rotate_left
       ·intro w'
        go_simp
        with_reducible rfl
       rotate_left
       ·simp only [Act.put, List.setIfInBounds_toArray, List.set_cons_zero, List.set_cons_succ, i64_w, i32_w]
        rfl
       refine pure_ (i := 1) (N := some 15) (v := ?_) (a' := ?_) #[true, true, false, false, false, false, false, false, false, false, false] rfl rfl (any_of HT_.out (by kernel_rfl)) (fun _ _ _ h => h) (Or.inl ⟨by rfl, ?_⟩) ?_ ?_
       rotate_left
       ·intro w'
        go_simp
        with_reducible rfl
       rotate_left
       ·simp only [Act.put, List.setIfInBounds_toArray, List.set_cons_zero, List.set_cons_succ, i64_w, i32_w]
        rfl
       refine pure_ (i := 2) (N := some 16) (v := ?_) (a' := ?_) #[true, true, true, false, false, false, false, false, false, false, false] rfl rfl (any_of HT_.out (by kernel_rfl)) (fun _ _ _ h => h) (Or.inl ⟨by rfl, ?_⟩) ?_ ?_
       rotate_left
       ·intro w'
        go_simp
        with_reducible rfl
       rotate_left
       ·simp only [Act.put, List.setIfInBounds_toArray, List.set_cons_zero, List.set_cons_succ, i64_w, i32_w]
        rfl
       refine pure_ (i := 4) (N := some 18) (v := ?_) (a' := ?_) #[true, true, true, false, true, false, false, false, false, false, false] rfl rfl (any_of HT_.out (by kernel_rfl)) (fun _ _ _ h => h) (Or.inl ⟨by rfl, ?_⟩) ?_ ?_
       rotate_left
       ·intro w'
        go_simp
        with_reducible rfl
       rotate_left
       ·simp only [Act.put, List.setIfInBounds_toArray, List.set_cons_zero, List.set_cons_succ, i64_w, i32_w]
        rfl
       refine pure_ (i := 5) (N := some 19) (v := ?_) (a' := ?_) #[true, true, true, false, true, true, false, false, false, false, false] rfl rfl (any_of HT_.out (by kernel_rfl)) (fun _ _ _ h => h) (Or.inl ⟨by rfl, ?_⟩) ?_ ?_
       rotate_left
       ·intro w'
        go_simp
        with_reducible rfl
       rotate_left
       ·simp only [Act.put, List.setIfInBounds_toArray, List.set_cons_zero, List.set_cons_succ, i64_w, i32_w]
        rfl
       refine take_ (i := 3) (N := some 17) (v := ?_) (a' := ?_) #[true, true, true, true, true, true, false, false, false, false, false] rfl rfl (take_ofW HT_.out HW_.out (by kernel_rfl)) (fun _ _ _ h => h) (Or.inl ⟨by rfl, ?_⟩) hHeld ?_ ?_
       rotate_left
       ·intro w' _
        go_simp
        with_reducible rfl
       rotate_left
       ·simp only [Act.put, List.setIfInBounds_toArray, List.set_cons_zero, List.set_cons_succ, i64_w, i32_w]
        rfl
       refine take_ (i := 6) (N := some 20) (v := ?_) (a' := ?_) #[true, true, true, true, true, true, true, false, false, false, false] rfl rfl (take_ofW HT_.out HW_.out (by kernel_rfl)) (fun _ _ _ h => h) (Or.inl ⟨by rfl, ?_⟩) hHeld ?_ ?_
       rotate_left
       ·intro w' _
        go_simp
        with_reducible rfl
       rotate_left
       ·simp only [Act.put, List.setIfInBounds_toArray, List.set_cons_zero, List.set_cons_succ, i64_w, i32_w]
        rfl
       refine pure_ (i := 7) (N := some 21) (v := ?_) (a' := ?_) #[true, true, true, true, true, true, true, true, false, false, false] rfl rfl (any_of HT_.out (by kernel_rfl)) (fun _ _ _ h => h) (Or.inl ⟨by rfl, ?_⟩) ?_ ?_
       rotate_left
       ·intro w'
        go_simp
        with_reducible rfl
       rotate_left
       ·simp only [Act.put, List.setIfInBounds_toArray, List.set_cons_zero, List.set_cons_succ, i64_w, i32_w]
        rfl
       refine one_ (i := 8) (N := some 22) #[true, true, true, true, true, true, true, true, true, false, false] rfl rfl (one_of HT_.out (by kernel_rfl)) (by decide) (fun K hK => ?_)
       refine value_ (w1 := ?_) (v := ?_) (by rfl) rfl ?_ ?_
       rotate_left 2
       ·go_simp
        constructor
        ·rfl
        ·rfl
       refine hK.out _ _ trivial (fun hHeld => ?_)
       clear hK K
       refine norm_ (a' := ?_) ?_ ?_
       rotate_left
       ·show Act.put _ (some 22) _ = _
        simp only [Act.put, List.setIfInBounds_toArray, List.set_cons_zero, List.set_cons_succ, i64_w, i32_w]
        rfl
       refine one_ (i := 9) (N := some 23) #[true, true, true, true, true, true, true, true, true, true, false] rfl rfl (one_of HT_.out (by kernel_rfl)) (by decide) (fun K hK => ?_)
       refine Kd.R_append_step (Kd.int .u8) (w0 := w) w.heap.size (by rfl) (.tmp 14) (.tmp 22) 29 5 (.int .u8 0) 1 rfl Try.underlying29 info5 rfl (by decide) (by omega) u5 x5_1 (Go.bits .xor .u8 (bt a0 x6_1) (bt a1 x6_1)) [.int .u8 (Go.bits .xor .u8 (bt a0 x6_1) (bt a1 x6_1))] (fun _ => True) (fun _ => False) rfl rfl ?aP (fun _ hk => hk.elim) ?aF ?aO ?aB ?aS ?aL ?_
       (case aP => exact rfl)
       (case aB => exact (by repeat (first | (with_reducible first | exact HB.out | apply below_alloc | apply pw_below_drewN | apply below_drew1) | exact HB.out)))
       (case aF => exact (fun _ _ => trivial))
       (case aO => exact (by (with_reducible repeat (first | apply Kd.R_alloc | apply Kd.R_drewN | apply Kd.R_drew)); exact HO_5.out))
       (case aS => exact (below_size (by repeat (first | (with_reducible first | exact HB.out | apply below_alloc | apply pw_below_drewN | apply below_drew1) | exact HB.out))))
       (case aL => have := LMc10.out; omega)
       intro v107 w12 ho hb hg hat
       rw [← Ny106.out] at ho
       have n0_ := Aside0.mk (hb)
       have n1_ := Aside0.mk (ho)
       clear HB
       clear HO_5
       have HB := n0_
       have HO108 := n1_
       clear n0_ n1_
       clear ho hb hg hat
       refine hK.out _ _ trivial (fun hHeld => ?_)
       clear hK K
       refine norm_ (a' := ?_) ?_ ?_
       rotate_left
       ·show Act.put _ (some 23) _ = _
        simp only [Act.put, List.setIfInBounds_toArray, List.set_cons_zero, List.set_cons_succ, i64_w, i32_w]
        rfl
       refine pure_ (i := 10) (N := some 5) (v := ?_) (a' := ?_) #[true, true, true, true, true, true, true, true, true, true, true] rfl rfl (any_of HT_.out (by kernel_rfl)) (fun _ _ _ h => h) (Or.inl ⟨by rfl, ?_⟩) ?_ ?_
       rotate_left
       ·intro w'
        go_simp
        with_reducible rfl
       rotate_left
       ·simp only [Act.put, List.setIfInBounds_toArray, List.set_cons_zero, List.set_cons_succ, i64_w, i32_w]
        rfl
       refine done_ (done_of HT_.out (by kernel_rfl)) ?_
       try go_wp2
       go_roundg k1
       case measure => have := HK1.out; omega
       case rel => exact ⟨(y106), (wrap64 (x6_1 + 1)), (by first | rfl | (simp; done) | (simp [*]; done)), H', ⟨by have := HK1.out; omega⟩, ⟨by (with_reducible repeat (first | apply Kd.R_alloc | apply Kd.R_drewN | apply Kd.R_drew)); exact HO108.out⟩, ⟨by repeat (first | (with_reducible first | exact HB.out | apply below_alloc | apply pw_below_drewN | apply below_drew1) | exact HB.out)⟩⟩
      ·rw [if_neg c10] at H
       exact absurd H (by simp)
     ·rw [if_neg c8] at H
      exact absurd H (by simp)
    ·rw [if_neg c6] at H
     exact absurd H (by simp)
   ·rw [if_neg c5] at H
    have c5b0 : decide (x6_1 < (a0.size : Int)) = false := decide_eq_false c5
    clear c5
    replace H := Option.bind_eq_some_iff.mp H
    obtain ⟨t109, A130, H⟩ := H
    (try dsimp only at H)
    have A13 := Aside0.mk A130
    clear A130
    obtain rfl := Option.some.inj H
    obtain ⟨Ao14, co14, eo14⟩ := Kd.R_slice HO_5.out
    subst eo14
    go_wp2_with (first | ((with_reducible refine gate_callee (f := 52) rfl ?_); refine goesL_ (some 25) rfl rfl Try.func52 (by kernel_rfl) rfl #[.slice Ao14 x5_1.length co14] rfl (by (try simp only [List.map_toArray, List.map_cons, List.map_nil]); first | done | rfl | (simp only [List.length_drop, List.length_take]; rfl)) ?_; (with_reducible refine (saltusref06_text.calls _ _ x5_1 t109 _ ?side1 ?side2 A13.out).mono ?_); (case side1 => repeat (first | exact (Kd.R_reads' HO_5.out).2.2 | (with_reducible refine Kd.C_alloc ?_ _) | (with_reducible refine Kd.C_drewN ?_ _) | (with_reducible refine Kd.C_drew ?_))); (case side2 => exact (Kd.R_reads' HO_5.out).2.1); rintro e w' ⟨rfl, ⟨nd, rfl⟩⟩; refine ⟨_, rfl, ?_⟩))
    go_ret
    exact ⟨by first | rfl | (simp [errW_none, errW_some] <;> rfl) | (simp [*, errW_none, errW_some] <;> rfl), by repeat (first | (with_reducible first | exact HB.out | apply below_alloc | apply pw_below_drewN | apply below_drew1) | exact HB.out)⟩
end Go.Proofs.Ytnaidfcehmdmcaa.QAK
end
section
namespace Go.Proofs.Ytnaidfcehmdmcaa.QAK
open Go.RowKit Go.Proofs.YtnaidfcehmdmcaaW.PrintWords Go.Proofs.YtnaidfcehmdmcaaW.PrintLast Go.Proofs.YtnaidfcehmdmcaaW.PrintMore
attribute [local go_sem] max2_int min2_int max_two min_two max_three min_three max_four min_four   -- for this text's walks alone
set_option linter.unusedVariables false
set_option linter.unusedSimpArgs false
/-! ### saltusref06_words: function 54 -/
mutual
def saltusref06_words.l0 : Nat → ByteArray → Int → List ByteArray → Int → Option (List ByteArray)
 | 0, _, _, _, _ => none
 | k + 1, x0, x3, x4, x5 => if x5 < x3 then (if 0 ≤ (wrap64 (4 * x5)) then (if (wrap64 (4 * x5)) ≤ (wrap64 ((wrap64 (4 * x5)) + 4)) then (if (wrap64 ((wrap64 (4 * x5)) + 4)) ≤ (x0.size : Int) then (if x4.length < 8796093022208 then (saltusref06_words.l0 k x0 x3 (x4 ++ [x0.extract ((wrap64 (4 * x5)) : Int).toNat ((wrap64 ((wrap64 (4 * x5)) + 4)) : Int).toNat]) (wrap64 (x5 + 1))) else (none)) else (none)) else (none)) else (none)) else (saltusref06_words.l1 k x3 x4 x3)
def saltusref06_words.l1 : Nat → Int → List ByteArray → Int → Option (List ByteArray)
 | 0, _, _, _ => none
 | k + 1, x3, x4, x6 => if x6 < (wrap64 (4 * (wrap64 (x3 + 7)))) then (if 0 ≤ (wrap64 (x6 - 1)) then (if (wrap64 (x6 - 1)) < (x4.length : Int) then (if x3 = 0 then (none) else (if (Int.tmod x6 x3) = 0 then (if 1 ≤ ((rdOf ByteArray.empty x4 (wrap64 (x6 - 1))).size : Int) then (if 0 ≤ 1 then (if ((rdOf ByteArray.empty x4 (wrap64 (x6 - 1))).extract 1 (rdOf ByteArray.empty x4 (wrap64 (x6 - 1))).size).size + ((rdOf ByteArray.empty x4 (wrap64 (x6 - 1))).extract 0 1).size ≤ 9223372036854775807 then ((saltusref06_Boxed.f (((rdOf ByteArray.empty x4 (wrap64 (x6 - 1))).extract 1 (rdOf ByteArray.empty x4 (wrap64 (x6 - 1))).size) ++ ((rdOf ByteArray.empty x4 (wrap64 (x6 - 1))).extract 0 1))).bind fun t117 => (if 0 < (t117.size : Int) then ((saltusref05_Pow.f 2 (wrap64 ((wrap64 (Int.tdiv x6 x3)) - 1))).bind fun t118 => ((saltusref06_text.f (([Go.bits .xor .u8 (bt t117 0) t118] : List Int))).bind fun t122 => (if 1 ≤ (t117.size : Int) then (if t122.size + (t117.extract 1 t117.size).size ≤ 9223372036854775807 then (if 0 ≤ (wrap64 (x6 - x3)) then (if (wrap64 (x6 - x3)) < (x4.length : Int) then ((saltusref06_Xor.f k (rdOf ByteArray.empty x4 (wrap64 (x6 - x3))) (t122 ++ (t117.extract 1 t117.size))).bind fun t124 => (if x4.length < 8796093022208 then (saltusref06_words.l1 k x3 (x4 ++ [t124]) (wrap64 (x6 + 1))) else (none))) else (none)) else (none)) else (none)) else (none)))) else (none))) else (none)) else (none)) else (none)) else (if x3 = 8 then (saltusref06_words.j2 k x3 x4 x6 (rdOf ByteArray.empty x4 (wrap64 (x6 - 1))) ((Int.tmod x6 8) == 4)) else (saltusref06_words.j2 k x3 x4 x6 (rdOf ByteArray.empty x4 (wrap64 (x6 - 1))) false)))) else (none)) else (none)) else (some x4)
def saltusref06_words.j2 : Nat → Int → List ByteArray → Int → ByteArray → Bool → Option (List ByteArray)
 | 0, _, _, _, _, _ => none
 | k + 1, x3, x4, x6, x7, x69 => if x69 = true then ((saltusref06_Boxed.f x7).bind fun t128 => (if 0 ≤ (wrap64 (x6 - x3)) then (if (wrap64 (x6 - x3)) < (x4.length : Int) then ((saltusref06_Xor.f k (rdOf ByteArray.empty x4 (wrap64 (x6 - x3))) t128).bind fun t130 => (if x4.length < 8796093022208 then (saltusref06_words.l1 k x3 (x4 ++ [t130]) (wrap64 (x6 + 1))) else (none))) else (none)) else (none))) else (if 0 ≤ (wrap64 (x6 - x3)) then (if (wrap64 (x6 - x3)) < (x4.length : Int) then ((saltusref06_Xor.f k (rdOf ByteArray.empty x4 (wrap64 (x6 - x3))) x7).bind fun t135 => (if x4.length < 8796093022208 then (saltusref06_words.l1 k x3 (x4 ++ [t135]) (wrap64 (x6 + 1))) else (none))) else (none)) else (none))
end
def saltusref06_words.f (k : Nat) (a0 : ByteArray) : Option (List ByteArray) := saltusref06_words.l0 k a0 (wrap64 ((a0.size : Int) / 4)) (([] : List ByteArray)) 0
theorem saltusref06_words.mono_l : ∀ k, (∀ y0 y1 y2 y3, LeO (saltusref06_words.l0 k y0 y1 y2 y3) (saltusref06_words.l0 (k + 1) y0 y1 y2 y3)) ∧ (∀ y0 y1 y2, LeO (saltusref06_words.l1 k y0 y1 y2) (saltusref06_words.l1 (k + 1) y0 y1 y2)) ∧ (∀ y0 y1 y2 y3 y4, LeO (saltusref06_words.j2 k y0 y1 y2 y3 y4) (saltusref06_words.j2 (k + 1) y0 y1 y2 y3 y4))
 | 0 => ⟨fun _ _ _ _ r h => by simp [saltusref06_words.l0] at h, fun _ _ _ r h => by simp [saltusref06_words.l1] at h, fun _ _ _ _ _ r h => by simp [saltusref06_words.j2] at h⟩
 | k + 1 => by
  obtain ⟨ih0, ih1, ih2⟩ := saltusref06_words.mono_l k
  refine ⟨?_, ?_, ?_⟩
  ·intro y0 y1 y2 y3
   unfold saltusref06_words.l0
   repeat' first
   | (with_reducible exact ih0 _ _ _ _)
   | (with_reducible exact ih1 _ _ _)
   | (with_reducible exact ih2 _ _ _ _ _)
   | (with_reducible exact saltusref06_Xor.mono _ _ _)
   | (with_reducible exact LeO.refl _)
   | (with_reducible exact LeO.none _)
   | (with_reducible refine LeO.ite ?_ ?_)
   | (with_reducible refine LeO.bind ?_ (fun _ => ?_))
   | exact ih0 _ _ _ _
   | exact ih1 _ _ _
   | exact ih2 _ _ _ _ _
   | exact saltusref06_Xor.mono _ _ _
   | exact LeO.none _
   | refine LeO.ite ?_ ?_
   | refine LeO.bind ?_ (fun _ => ?_)
  ·intro y0 y1 y2
   unfold saltusref06_words.l1
   repeat' first
   | (with_reducible exact ih0 _ _ _ _)
   | (with_reducible exact ih1 _ _ _)
   | (with_reducible exact ih2 _ _ _ _ _)
   | (with_reducible exact saltusref06_Xor.mono _ _ _)
   | (with_reducible exact LeO.refl _)
   | (with_reducible exact LeO.none _)
   | (with_reducible refine LeO.ite ?_ ?_)
   | (with_reducible refine LeO.bind ?_ (fun _ => ?_))
   | exact ih0 _ _ _ _
   | exact ih1 _ _ _
   | exact ih2 _ _ _ _ _
   | exact saltusref06_Xor.mono _ _ _
   | exact LeO.none _
   | refine LeO.ite ?_ ?_
   | refine LeO.bind ?_ (fun _ => ?_)
  ·intro y0 y1 y2 y3 y4
   unfold saltusref06_words.j2
   repeat' first
   | (with_reducible exact ih0 _ _ _ _)
   | (with_reducible exact ih1 _ _ _)
   | (with_reducible exact ih2 _ _ _ _ _)
   | (with_reducible exact saltusref06_Xor.mono _ _ _)
   | (with_reducible exact LeO.refl _)
   | (with_reducible exact LeO.none _)
   | (with_reducible refine LeO.ite ?_ ?_)
   | (with_reducible refine LeO.bind ?_ (fun _ => ?_))
   | exact ih0 _ _ _ _
   | exact ih1 _ _ _
   | exact ih2 _ _ _ _ _
   | exact saltusref06_Xor.mono _ _ _
   | exact LeO.none _
   | refine LeO.ite ?_ ?_
   | refine LeO.bind ?_ (fun _ => ?_)
theorem saltusref06_words.mono : ∀ a0 k, LeO (saltusref06_words.f k a0) (saltusref06_words.f (k + 1) a0) := by
 intro a0 k
 obtain ⟨ih0, ih1, ih2⟩ := saltusref06_words.mono_l k
 unfold saltusref06_words.f
 repeat' first
   | (with_reducible exact ih0 _ _ _ _)
   | (with_reducible exact ih1 _ _ _)
   | (with_reducible exact ih2 _ _ _ _ _)
   | (with_reducible exact saltusref06_Xor.mono _ _ _)
   | (with_reducible exact LeO.refl _)
   | (with_reducible exact LeO.none _)
   | (with_reducible refine LeO.ite ?_ ?_)
   | (with_reducible refine LeO.bind ?_ (fun _ => ?_))
   | exact ih0 _ _ _ _
   | exact ih1 _ _ _
   | exact ih2 _ _ _ _ _
   | exact saltusref06_Xor.mono _ _ _
   | exact LeO.none _
   | refine LeO.ite ?_ ?_
   | refine LeO.bind ?_ (fun _ => ?_)
def saltusref06_words.T13 : Bool × List (List Nat × List Nat) := (true, [([], []), ([0], [0]), ([], []), ([], []), ([2, 3], [2, 3]), ([4], [4]), ([5], [5]), ([1, 6], [1, 6]), ([7], [7]), ([8, 6], [8]), ([], []), ([10], [10]), ([9, 11], [9, 11]), ([12, 9, 0, 1, 2, 3, 4, 5, 6, 7, 8, 9, 10, 11, 12], [0, 10, 12])])
def saltusref06_words.B13 : List Nat := [0, 1, 0, 0, 12, 28, 60, 127, 255, 511, 0, 1024, 4095, 8191]
theorem saltusref06_words.tab13 : rtab .any (opsOf Try.f54 13) = saltusref06_words.T13 := by kernel_rfl
theorem saltusref06_words.bits13 : waitsOk saltusref06_words.T13.2 saltusref06_words.B13 = true := by kernel_rfl
set_option maxHeartbeats 8000000 in
set_option maxRecDepth 100000 in
theorem saltusref06_words.calls (k : Nat) (a0 : ByteArray) (r : List ByteArray) (w : World) (h : saltusref06_words.f k a0 = some r) :
  Calls Try.prog 54 #[.string a0] w fun e w' => ∃ v0_ : Value, e = .returned (v0_) ∧ Kd.R Kd.string 9 w' w.heap.size (fun _ => True) v0_ r ∧ Below w.heap.size w w' := by
 have HB := Aside0.mk (Below.refl w.heap.size w)
 have H : (saltusref06_words.l0 k a0 (wrap64 ((a0.size : Int) / 4)) (([] : List ByteArray)) 0) = some r := h
 clear h
 obtain ⟨y110, hy110⟩ : ∃ y_ : List ByteArray, y_ = (([] : List ByteArray)) := ⟨_, rfl⟩
 replace H : (saltusref06_words.l0 k a0 (wrap64 ((a0.size : Int) / 4)) y110 0) = some r := by first | (rw [hy110]; with_reducible exact H) | (have H2_ := (Option.bind_some _ _).symm.trans H; rw [hy110]; with_reducible exact H2_) | (have H2_ := (Option.bind_some _ _).symm.trans H; with_reducible exact H2_) | with_reducible exact H | (rw [hy110]; exact H) | exact H
 have Ny110 := Aside0.mk hy110
 clear hy110
 have H' := Aside0.mk H
 clear H
 go_enter Try.func54, Try.ntmps54
 go_wp2_with (first | ((with_reducible refine gate_dst (N := 11) rfl ?_); refine Kd.R_lit Kd.string _ 9 ?hg (N := 11) ?hd (xs := ([] : List ByteArray)) (inner := []) (ok := fun _ => True) (okp := fun _ => True) ?hr ?hp (fun _ hk => hk) trivial (Below.refl _ _) (Nat.le_refl _) (by simp) ?_; (case hd => rfl); (case hg => rfl); (case hr => first | (go_simp; done) | (go_simp; rfl)); (case hp => exact (Reps.none _ _)); intro v111 w2 ho3 hb hg_ hnew_; clear hg_ hnew_; (first | rw [← Ny110.out] at ho3 | (simp only [Int.reduceToNat] at ho3; rw [← Ny110.out] at ho3)); have n0_ := Aside0.mk (Kd.R_lower ho3 (below_size (by repeat (first | (with_reducible first | exact HB.out | apply below_alloc | apply pw_below_drewN | apply below_drew1) | exact HB.out)))); have n1_ := Aside0.mk (below_step (by repeat (first | (with_reducible first | exact HB.out | apply below_alloc | apply pw_below_drewN | apply below_drew1) | exact HB.out)) hb); clear HB; have HO112 := n0_; have HB := n1_; clear n0_ n1_; clear hb ho3))
 go_loopg [4, 5] k (fun kq v4 v5 w' => ∃ (x4_1 : List ByteArray) (x5_1 : Int), v5 = .int .i64 x5_1 ∧ Aside0 (saltusref06_words.l0 kq a0 (wrap64 ((a0.size : Int) / 4)) x4_1 x5_1 = some r) ∧ Aside0 (kq ≤ k) ∧ Aside0 (Kd.R Kd.string 9 w' w.heap.size (fun _ => True) v4 x4_1) ∧ Aside0 (Below w.heap.size w w'))
 case atStart => exact ⟨(y110), (0), (by first | rfl | (simp; done) | (simp [*]; done)), H', ⟨Nat.le_refl _⟩, ⟨by (with_reducible repeat (first | apply Kd.R_alloc | apply Kd.R_drewN | apply Kd.R_drew)); exact HO112.out⟩, ⟨by repeat (first | (with_reducible first | exact HB.out | apply below_alloc | apply pw_below_drewN | apply below_drew1) | exact HB.out)⟩⟩
 case round =>
  clear H'
  try clear p2
  obtain ⟨x4_1, x5_1, rfl, HA, HK1, HO_4, HB⟩ := hrel
  cases gk with
  | zero => exact absurd HA.out (by simp [saltusref06_words.l0])
  | succ k1 =>
   have H := HA.out
   clear HA
   simp only [saltusref06_words.l0] at H
   by_cases c4 : x5_1 < (wrap64 ((a0.size : Int) / 4))
   ·rw [if_pos c4] at H
    have c4b0 : decide (x5_1 < (wrap64 ((a0.size : Int) / 4))) = true := decide_eq_true c4
    clear c4
    obtain ⟨ji5, hji5⟩ : ∃ j_ : Int, (wrap64 (4 * x5_1)) = j_ := ⟨_, rfl⟩
    replace H : (if 0 ≤ (ji5) then (if (ji5) ≤ (wrap64 ((ji5) + 4)) then (if (wrap64 ((ji5) + 4)) ≤ (a0.size : Int) then (if x4_1.length < 8796093022208 then (saltusref06_words.l0 k1 a0 (wrap64 ((a0.size : Int) / 4)) (x4_1 ++ [a0.extract ((ji5) : Int).toNat ((wrap64 ((ji5) + 4)) : Int).toNat]) (wrap64 (x5_1 + 1))) else (none)) else (none)) else (none)) else (none)) = some r := by first | (rw [hji5] at H; exact H) | (simp only [hji5] at H ⊢; exact H)
    have hji5w : (IntKind.i64.wrap (4 * x5_1)) = ji5 := (i64_w _).trans hji5
    by_cases c6 : 0 ≤ (ji5)
    ·rw [if_pos c6] at H
     have c6b0 := eq_true c6
     have c6b1 : decide (0 ≤ (ji5)) = true := decide_eq_true c6
     clear c6
     by_cases c7 : (ji5) ≤ (wrap64 ((ji5) + 4))
     ·rw [if_pos c7] at H
      have c7b0 := eq_true c7
      have c7b1 : decide ((ji5) ≤ (wrap64 ((ji5) + 4))) = true := decide_eq_true c7
      by_cases c8 : (wrap64 ((ji5) + 4)) ≤ (a0.size : Int)
      ·rw [if_pos c8] at H
       have c8b0 := eq_true c8
       have c8b1 : decide ((wrap64 ((ji5) + 4)) ≤ (a0.size : Int)) = true := decide_eq_true c8
       by_cases c9 : x4_1.length < 8796093022208
       ·rw [if_pos c9] at H
        have LMc9 := Aside0.mk c9
        clear c9
        obtain ⟨y113, hy113⟩ : ∃ y_ : List ByteArray, y_ = (x4_1 ++ [a0.extract ((ji5) : Int).toNat ((wrap64 ((ji5) + 4)) : Int).toNat]) := ⟨_, rfl⟩
        replace H : (saltusref06_words.l0 k1 a0 (wrap64 ((a0.size : Int) / 4)) y113 (wrap64 (x5_1 + 1))) = some r := by first | (rw [hy113]; with_reducible exact H) | (have H2_ := (Option.bind_some _ _).symm.trans H; rw [hy113]; with_reducible exact H2_) | (have H2_ := (Option.bind_some _ _).symm.trans H; with_reducible exact H2_) | with_reducible exact H | (rw [hy113]; exact H) | exact H
        have Ny113 := Aside0.mk hy113
        clear hy113
        have H' := Aside0.mk H
        clear H
        go_wp2_with (first | ((with_reducible refine gate_builtin (b := .append) (xs := #[.tmp 17, .tmp 25]) rfl ?_); at_builtin; refine Kd.R_append Kd.string (w0 := w) w.heap.size rfl (.tmp 17) (.tmp 25) 36 9 (.string ⟨#[]⟩) 16 rfl Try.underlying36 info9 rfl (by decide) (by omega) u4 x4_1 (a0.extract ((ji5) : Int).toNat ((wrap64 ((ji5) + 4)) : Int).toNat) [.string (a0.extract ((ji5) : Int).toNat ((wrap64 ((ji5) + 4)) : Int).toNat)] (fun _ => True) (fun _ => False) rfl rfl ?aP (fun _ hk => hk.elim) ?aF ?aO ?aB ?aS ?aL ?_; (case aP => exact rfl); (case aB => exact (by repeat (first | (with_reducible first | exact HB.out | apply below_alloc | apply pw_below_drewN | apply below_drew1) | exact HB.out))); (case aF => exact (fun _ _ => trivial)); (case aO => exact (by (with_reducible repeat (first | apply Kd.R_alloc | apply Kd.R_drewN | apply Kd.R_drew)); exact HO_4.out)); (case aS => exact (below_size (by repeat (first | (with_reducible first | exact HB.out | apply below_alloc | apply pw_below_drewN | apply below_drew1) | exact HB.out)))); (case aL => have := LMc9.out; omega); intro v114 w10 ho hb hg hat; rw [← Ny113.out] at ho; have n0_ := Aside0.mk (hb); have n1_ := Aside0.mk (ho); clear HB; clear HO_4; have HB := n0_; have HO115 := n1_; clear n0_ n1_; clear ho hb hg hat))
        go_roundg k1
        case measure => have := HK1.out; omega
        case rel => exact ⟨(y113), (wrap64 (x5_1 + 1)), (by first | rfl | (simp; done) | (simp [*]; done)), H', ⟨by have := HK1.out; omega⟩, ⟨by (with_reducible repeat (first | apply Kd.R_alloc | apply Kd.R_drewN | apply Kd.R_drew)); exact HO115.out⟩, ⟨by repeat (first | (with_reducible first | exact HB.out | apply below_alloc | apply pw_below_drewN | apply below_drew1) | exact HB.out)⟩⟩
       ·rw [if_neg c9] at H
        exact absurd H (by simp)
      ·rw [if_neg c8] at H
       exact absurd H (by simp)
     ·rw [if_neg c7] at H
      exact absurd H (by simp)
    ·rw [if_neg c6] at H
     exact absurd H (by simp)
   ·rw [if_neg c4] at H
    have c4b0 : decide (x5_1 < (wrap64 ((a0.size : Int) / 4))) = false := decide_eq_false c4
    clear c4
    have H' := Aside0.mk H
    clear H
    go_wp2
    go_loopg [4, 6] k1 (fun kq v4 v6 w' => ∃ (x4_2 : List ByteArray) (x6_2 : Int), v6 = .int .i64 x6_2 ∧ Aside0 (saltusref06_words.l1 kq (wrap64 ((a0.size : Int) / 4)) x4_2 x6_2 = some r) ∧ Aside0 (kq ≤ k1) ∧ Aside0 (Kd.R Kd.string 9 w' w.heap.size (fun _ => True) v4 x4_2) ∧ Aside0 (Below w.heap.size w w'))
    case atStart => exact ⟨(x4_1), ((wrap64 ((a0.size : Int) / 4))), (by first | rfl | (simp; done) | (simp [*]; done)), H', ⟨Nat.le_refl _⟩, ⟨by (with_reducible repeat (first | apply Kd.R_alloc | apply Kd.R_drewN | apply Kd.R_drew)); exact HO_4.out⟩, ⟨by repeat (first | (with_reducible first | exact HB.out | apply below_alloc | apply pw_below_drewN | apply below_drew1) | exact HB.out)⟩⟩
    case round =>
     clear H'
     try clear p2
     try clear c4
     try clear c4b0
     try clear c5
     try clear c6
     try clear c6b0
     try clear c6b1
     try clear p6
     try clear c7
     try clear c7b0
     try clear c7b1
     try clear c8
     try clear c8b0
     try clear c8b1
     try clear c9
     try clear p2
     obtain ⟨x4_2, x6_2, rfl, HA, HK2, HO_4, HB⟩ := hrel
     cases gk with
     | zero => exact absurd HA.out (by simp [saltusref06_words.l1])
     | succ k2 =>
      have H := HA.out
      clear HA
      simp only [saltusref06_words.l1] at H
      by_cases c11 : x6_2 < (wrap64 (4 * (wrap64 ((wrap64 ((a0.size : Int) / 4)) + 7))))
      ·rw [if_pos c11] at H
       have c11b0 : decide (x6_2 < (wrap64 (4 * (wrap64 ((wrap64 ((a0.size : Int) / 4)) + 7))))) = true := decide_eq_true c11
       clear c11
       obtain ⟨ji12, hji12⟩ : ∃ j_ : Int, (wrap64 (x6_2 - 1)) = j_ := ⟨_, rfl⟩
       replace H : (if 0 ≤ (ji12) then (if (ji12) < (x4_2.length : Int) then (if (wrap64 ((a0.size : Int) / 4)) = 0 then (none) else (if (Int.tmod x6_2 (wrap64 ((a0.size : Int) / 4))) = 0 then (if 1 ≤ ((rdOf ByteArray.empty x4_2 (ji12)).size : Int) then (if 0 ≤ 1 then (if ((rdOf ByteArray.empty x4_2 (ji12)).extract 1 (rdOf ByteArray.empty x4_2 (ji12)).size).size + ((rdOf ByteArray.empty x4_2 (ji12)).extract 0 1).size ≤ 9223372036854775807 then ((saltusref06_Boxed.f (((rdOf ByteArray.empty x4_2 (ji12)).extract 1 (rdOf ByteArray.empty x4_2 (ji12)).size) ++ ((rdOf ByteArray.empty x4_2 (ji12)).extract 0 1))).bind fun t117 => (if 0 < (t117.size : Int) then ((saltusref05_Pow.f 2 (wrap64 ((wrap64 (Int.tdiv x6_2 (wrap64 ((a0.size : Int) / 4)))) - 1))).bind fun t118 => ((saltusref06_text.f (([Go.bits .xor .u8 (bt t117 0) t118] : List Int))).bind fun t122 => (if 1 ≤ (t117.size : Int) then (if t122.size + (t117.extract 1 t117.size).size ≤ 9223372036854775807 then (if 0 ≤ (wrap64 (x6_2 - (wrap64 ((a0.size : Int) / 4)))) then (if (wrap64 (x6_2 - (wrap64 ((a0.size : Int) / 4)))) < (x4_2.length : Int) then ((saltusref06_Xor.f k2 (rdOf ByteArray.empty x4_2 (wrap64 (x6_2 - (wrap64 ((a0.size : Int) / 4))))) (t122 ++ (t117.extract 1 t117.size))).bind fun t124 => (if x4_2.length < 8796093022208 then (saltusref06_words.l1 k2 (wrap64 ((a0.size : Int) / 4)) (x4_2 ++ [t124]) (wrap64 (x6_2 + 1))) else (none))) else (none)) else (none)) else (none)) else (none)))) else (none))) else (none)) else (none)) else (none)) else (if (wrap64 ((a0.size : Int) / 4)) = 8 then (saltusref06_words.j2 k2 (wrap64 ((a0.size : Int) / 4)) x4_2 x6_2 (rdOf ByteArray.empty x4_2 (ji12)) ((Int.tmod x6_2 8) == 4)) else (saltusref06_words.j2 k2 (wrap64 ((a0.size : Int) / 4)) x4_2 x6_2 (rdOf ByteArray.empty x4_2 (ji12)) false)))) else (none)) else (none)) = some r := by first | (rw [hji12] at H; exact H) | (simp only [hji12] at H ⊢; exact H)
       have hji12w : (IntKind.i64.wrap (x6_2 - 1)) = ji12 := (i64_w _).trans hji12
       by_cases c13 : 0 ≤ (ji12)
       ·rw [if_pos c13] at H
        have c13b0 : decide (0 ≤ (ji12)) = true := decide_eq_true c13
        clear c13
        by_cases c14 : (ji12) < (x4_2.length : Int)
        ·rw [if_pos c14] at H
         have c14b0 : decide ((ji12) < (x4_2.length : Int)) = true := decide_eq_true c14
         clear c14
         by_cases c15 : (wrap64 ((a0.size : Int) / 4)) = 0
         ·rw [if_pos c15] at H
          exact absurd H (by simp)
         ·rw [if_neg c15] at H
          have c15b0 : ((wrap64 ((a0.size : Int) / 4)) == 0) = false := beq_eq_false_iff_ne.mpr c15
          have c15b1 : ((wrap64 ((a0.size : Int) / 4)) != 0) = true := bne_iff_ne.mpr c15
          by_cases c16 : (Int.tmod x6_2 (wrap64 ((a0.size : Int) / 4))) = 0
          ·rw [if_pos c16] at H
           have c16b0 : ((Int.tmod x6_2 (wrap64 ((a0.size : Int) / 4))) == 0) = true := beq_iff_eq.mpr c16
           have c16b1 : ((Int.tmod x6_2 (wrap64 ((a0.size : Int) / 4))) != 0) = false := bne_eq_false_iff_eq.mpr c16
           clear c16
           by_cases c17 : 1 ≤ ((rdOf ByteArray.empty x4_2 (ji12)).size : Int)
           ·rw [if_pos c17] at H
            have c17b0 := eq_true c17
            have c17b1 : decide (1 ≤ ((rdOf ByteArray.empty x4_2 (ji12)).size : Int)) = true := decide_eq_true c17
            clear c17
            by_cases c18 : 0 ≤ 1
            ·rw [if_pos c18] at H
             have c18b0 := eq_true c18
             have c18b1 : decide (0 ≤ 1) = true := decide_eq_true c18
             clear c18
             have c19b0 := eq_true (of_decide_eq_true (by first | (with_reducible assumption) | assumption) : 1 ≤ ((rdOf ByteArray.empty x4_2 (ji12)).size : Int))
             by_cases c20 : ((rdOf ByteArray.empty x4_2 (ji12)).extract 1 (rdOf ByteArray.empty x4_2 (ji12)).size).size + ((rdOf ByteArray.empty x4_2 (ji12)).extract 0 1).size ≤ 9223372036854775807
             ·rw [if_pos c20] at H
              have c20b0 := eq_true c20
              have c20b1 : decide (((rdOf ByteArray.empty x4_2 (ji12)).extract 1 (rdOf ByteArray.empty x4_2 (ji12)).size).size + ((rdOf ByteArray.empty x4_2 (ji12)).extract 0 1).size ≤ 9223372036854775807) = true := decide_eq_true c20
              try have c20b2 : (9223372036854775807 < ((rdOf ByteArray.empty x4_2 (ji12)).extract 1 (rdOf ByteArray.empty x4_2 (ji12)).size).size + ((rdOf ByteArray.empty x4_2 (ji12)).extract 0 1).size) = False := eq_false (Nat.not_lt.2 c20)
              have c20m : (9223372036854775807 < ((rdOf ByteArray.empty x4_2 (ji12)).size - 1) + min 1 (rdOf ByteArray.empty x4_2 (ji12)).size) = False := by have h_ := c20; simp only [ByteArray.size_extract, Nat.min_self] at h_; exact eq_false (by omega)
              replace H := Option.bind_eq_some_iff.mp H
              obtain ⟨t117, A210, H⟩ := H
              (try dsimp only at H)
              have A21 := Aside0.mk A210
              clear A210
              by_cases c22 : 0 < (t117.size : Int)
              ·rw [if_pos c22] at H
               have c22b0 : decide (0 < (t117.size : Int)) = true := decide_eq_true c22
               have c22b1 : decide (0 < t117.size) = true := decide_eq_true (by omega)
               clear c22
               replace H := Option.bind_eq_some_iff.mp H
               obtain ⟨t118, A240, H⟩ := H
               (try dsimp only at H)
               have A24 := Aside0.mk A240
               clear A240
               obtain ⟨y119, hy119⟩ : ∃ y_ : List Int, y_ = (([Go.bits .xor .u8 (bt t117 0) t118] : List Int)) := ⟨_, rfl⟩
               replace H : ((saltusref06_text.f y119).bind fun t122 => (if 1 ≤ (t117.size : Int) then (if t122.size + (t117.extract 1 t117.size).size ≤ 9223372036854775807 then (if 0 ≤ (wrap64 (x6_2 - (wrap64 ((a0.size : Int) / 4)))) then (if (wrap64 (x6_2 - (wrap64 ((a0.size : Int) / 4)))) < (x4_2.length : Int) then ((saltusref06_Xor.f k2 (rdOf ByteArray.empty x4_2 (wrap64 (x6_2 - (wrap64 ((a0.size : Int) / 4))))) (t122 ++ (t117.extract 1 t117.size))).bind fun t124 => (if x4_2.length < 8796093022208 then (saltusref06_words.l1 k2 (wrap64 ((a0.size : Int) / 4)) (x4_2 ++ [t124]) (wrap64 (x6_2 + 1))) else (none))) else (none)) else (none)) else (none)) else (none))) = some r := by first | (rw [hy119]; with_reducible exact H) | (have H2_ := (Option.bind_some _ _).symm.trans H; rw [hy119]; with_reducible exact H2_) | (have H2_ := (Option.bind_some _ _).symm.trans H; with_reducible exact H2_) | with_reducible exact H | (rw [hy119]; exact H) | exact H
               have Ny119 := Aside0.mk hy119
               clear hy119
               replace H := Option.bind_eq_some_iff.mp H
               obtain ⟨t122, A250, H⟩ := H
               (try dsimp only at H)
               have A25 := Aside0.mk A250
               clear A250
               by_cases c26 : 1 ≤ (t117.size : Int)
               ·rw [if_pos c26] at H
                have c26b0 := eq_true c26
                have c26b1 : decide (1 ≤ (t117.size : Int)) = true := decide_eq_true c26
                clear c26
                by_cases c27 : t122.size + (t117.extract 1 t117.size).size ≤ 9223372036854775807
                ·rw [if_pos c27] at H
                 have c27b0 := eq_true c27
                 have c27b1 : decide (t122.size + (t117.extract 1 t117.size).size ≤ 9223372036854775807) = true := decide_eq_true c27
                 try have c27b2 : (9223372036854775807 < t122.size + (t117.extract 1 t117.size).size) = False := eq_false (Nat.not_lt.2 c27)
                 have c27m : (9223372036854775807 < t122.size + (t117.size - 1)) = False := by have h_ := c27; simp only [ByteArray.size_extract, Nat.min_self] at h_; exact eq_false (by omega)
                 obtain ⟨ji28, hji28⟩ : ∃ j_ : Int, (wrap64 (x6_2 - (wrap64 ((a0.size : Int) / 4)))) = j_ := ⟨_, rfl⟩
                 replace H : (if 0 ≤ (ji28) then (if (ji28) < (x4_2.length : Int) then ((saltusref06_Xor.f k2 (rdOf ByteArray.empty x4_2 (ji28)) (t122 ++ (t117.extract 1 t117.size))).bind fun t124 => (if x4_2.length < 8796093022208 then (saltusref06_words.l1 k2 (wrap64 ((a0.size : Int) / 4)) (x4_2 ++ [t124]) (wrap64 (x6_2 + 1))) else (none))) else (none)) else (none)) = some r := by first | (rw [hji28] at H; exact H) | (simp only [hji28] at H ⊢; exact H)
                 (try rw [hji28] at A21)
                 (try rw [hji28] at A24)
                 (try rw [hji28] at A25)
                 have hji28w : (IntKind.i64.wrap (x6_2 - (wrap64 ((a0.size : Int) / 4)))) = ji28 := (i64_w _).trans hji28
                 by_cases c29 : 0 ≤ (ji28)
                 ·rw [if_pos c29] at H
                  have c29b0 : decide (0 ≤ (ji28)) = true := decide_eq_true c29
                  clear c29
                  by_cases c30 : (ji28) < (x4_2.length : Int)
                  ·rw [if_pos c30] at H
                   have c30b0 : decide ((ji28) < (x4_2.length : Int)) = true := decide_eq_true c30
                   clear c30
                   replace H := Option.bind_eq_some_iff.mp H
                   obtain ⟨t124, A310, H⟩ := H
                   (try dsimp only at H)
                   have A31 := Aside0.mk A310
                   clear A310
                   by_cases c32 : x4_2.length < 8796093022208
                   ·rw [if_pos c32] at H
                    have LMc32 := Aside0.mk c32
                    clear c32
                    obtain ⟨y125, hy125⟩ : ∃ y_ : List ByteArray, y_ = (x4_2 ++ [t124]) := ⟨_, rfl⟩
                    replace H : (saltusref06_words.l1 k2 (wrap64 ((a0.size : Int) / 4)) y125 (wrap64 (x6_2 + 1))) = some r := by first | (rw [hy125]; with_reducible exact H) | (have H2_ := (Option.bind_some _ _).symm.trans H; rw [hy125]; with_reducible exact H2_) | (have H2_ := (Option.bind_some _ _).symm.trans H; with_reducible exact H2_) | with_reducible exact H | (rw [hy125]; exact H) | exact H
                    have Ny125 := Aside0.mk hy125
                    clear hy125
                    have H' := Aside0.mk H
                    clear H
                    obtain ⟨Ao33, co33, eo33⟩ := Kd.R_slice HO_4.out
                    subst eo33
                    have p116 : 0 ≤ ((ji12) : Int) := of_decide_eq_true (by first | (with_reducible assumption) | assumption)
                    have q116 : (ji12) < (x4_2.length : Int) := of_decide_eq_true (by first | (with_reducible assumption) | assumption)
                    obtain ⟨ad116, e116, hx116_0⟩ := Kd.at_string (Kd.R_reads' HO_4.out).2.2 (ji12) p116 q116
                    cases e116
                    replace p116 := eq_true p116
                    replace q116 := eq_true q116
                    try go_wp2
                    have n0_ := Aside0.mk (Kd.R_drew HO_4.out)
                    have n1_ := Aside0.mk (below_drew1 HB.out)
                    clear HO_4
                    clear HB
                    have HO_4 := n0_
                    have HB := n1_
                    clear n0_ n1_
                    refine start_ (n := 7) (S := fun w' => True) (ds := []) #[false, false, false, false, false, false, false] (by kernel_rfl) rfl rfl trivial (fun hHeld => ?_)
                    generalize wr.drew = w34 at HO_4 HB hHeld ⊢
                    refine pure_ (i := 0) (N := some 44) (v := ?_) (a' := ?_) #[true, false, false, false, false, false, false] rfl rfl (by kernel_rfl) (fun _ _ _ h => h) (Or.inl ⟨by rfl, ?_⟩) ?_ ?_
                    rotate_left
                    ·intro w'
                     go_simp
                     with_reducible rfl
                    rotate_left
                    ·simp only [Act.put, List.setIfInBounds_toArray, List.set_cons_zero, List.set_cons_succ, i64_w, i32_w]
                     rfl
                    refine pure_ (i := 1) (N := some 45) (v := ?_) (a' := ?_) #[true, true, false, false, false, false, false] rfl rfl (by kernel_rfl) (fun _ _ _ h => h) (Or.inl ⟨by rfl, ?_⟩) ?_ ?_
                    rotate_left
                    ·intro w'
                     go_simp
                     with_reducible rfl
                    rotate_left
                    ·simp only [Act.put, List.setIfInBounds_toArray, List.set_cons_zero, List.set_cons_succ, i64_w, i32_w]
                     rfl
                    refine pure_ (i := 2) (N := some 46) (v := ?_) (a' := ?_) #[true, true, true, false, false, false, false] rfl rfl (by kernel_rfl) (fun _ _ _ h => h) (Or.inl ⟨by rfl, ?_⟩) ?_ ?_
                    rotate_left
                    ·intro w'
                     go_simp
                     with_reducible rfl
                    rotate_left
                    ·simp only [Act.put, List.setIfInBounds_toArray, List.set_cons_zero, List.set_cons_succ, i64_w, i32_w]
                     rfl
                    refine pure_ (i := 3) (N := some 47) (v := ?_) (a' := ?_) #[true, true, true, true, false, false, false] rfl rfl (by kernel_rfl) (fun _ _ _ h => h) (Or.inl ⟨by rfl, ?_⟩) ?_ ?_
                    rotate_left
                    ·intro w'
                     go_simp
                     with_reducible rfl
                    rotate_left
                    ·simp only [Act.put, List.setIfInBounds_toArray, List.set_cons_zero, List.set_cons_succ, i64_w, i32_w]
                     rfl
                    refine pure_ (i := 4) (N := some 48) (v := ?_) (a' := ?_) #[true, true, true, true, true, false, false] rfl rfl (by kernel_rfl) (fun _ _ _ h => h) (Or.inl ⟨by rfl, ?_⟩) ?_ ?_
                    rotate_left
                    ·intro w'
                     go_simp
                     with_reducible rfl
                    rotate_left
                    ·simp only [Act.put, List.setIfInBounds_toArray, List.set_cons_zero, List.set_cons_succ, i64_w, i32_w]
                     rfl
                    refine one_ (i := 5) (N := some 49) #[true, true, true, true, true, true, false] rfl rfl (by kernel_rfl) (by decide) (fun K hK => ?_)
                    refine goes_ Try.func28 (by kernel_rfl) rfl #[.string (((rdOf ByteArray.empty x4_2 (ji12)).extract 1 (rdOf ByteArray.empty x4_2 (ji12)).size) ++ ((rdOf ByteArray.empty x4_2 (ji12)).extract 0 1))] (by rfl) rfl rfl (by (try simp only [List.map_toArray, List.map_cons, List.map_nil]); first | done | (simp only [hji12]; rfl) | rfl | (simp only [List.length_drop, List.length_take]; rfl)) ?_
                    with_reducible refine (saltusref06_Boxed.calls (((rdOf ByteArray.empty x4_2 (ji12)).extract 1 (rdOf ByteArray.empty x4_2 (ji12)).size) ++ ((rdOf ByteArray.empty x4_2 (ji12)).extract 0 1)) t117 _ A21.out).mono ?_
                    rintro e w35 ⟨rfl, hb⟩
                    refine ⟨_, rfl, ?_⟩
                    have n0_ := Aside0.mk (Kd.R_below (by (with_reducible repeat (first | apply Kd.R_alloc | apply Kd.R_drewN | apply Kd.R_drew)); exact HO_4.out) hb)
                    have n1_ := Aside0.mk (below_step (by repeat (first | (with_reducible first | exact HB.out | apply below_alloc | apply pw_below_drewN | apply below_drew1) | exact HB.out)) hb)
                    clear HO_4
                    clear HB
                    have HO_4 := n0_
                    have HB := n1_
                    clear n0_ n1_
                    (try clear hb)
                    (try clear hb2)
                    (try clear hk)
                    (try clear hi)
                    refine hK.out _ _ trivial (fun hHeld => ?_)
                    clear hK K
                    refine norm_ (a' := ?_) ?_ ?_
                    rotate_left
                    ·show Act.put _ (some 49) _ = _
                     simp only [Act.put, List.setIfInBounds_toArray, List.set_cons_zero, List.set_cons_succ, i64_w, i32_w]
                     rfl
                    refine pure_ (i := 6) (N := some 7) (v := ?_) (a' := ?_) #[true, true, true, true, true, true, true] rfl rfl (by kernel_rfl) (fun _ _ _ h => h) (Or.inl ⟨by rfl, ?_⟩) ?_ ?_
                    rotate_left
                    ·intro w'
                     go_simp
                     with_reducible rfl
                    rotate_left
                    ·simp only [Act.put, List.setIfInBounds_toArray, List.set_cons_zero, List.set_cons_succ, i64_w, i32_w]
                     rfl
                    refine done_ (by kernel_rfl) ?_
                    try go_wp2
                    have n0_ := Aside0.mk (Kd.R_drew HO_4.out)
                    have n1_ := Aside0.mk (below_drew1 HB.out)
                    clear HO_4
                    clear HB
                    have HO_4 := n0_
                    have HB := n1_
                    clear n0_ n1_
                    have p23 : 0 ≤ (0 : Int) := (by omega)
                    have q23 : 0 < t117.size := (by have : (0 : Int) < (t117.size : Int) := of_decide_eq_true (by first | (with_reducible assumption) | assumption); omega)
                    have hx23 : ∀ h : 0 < t117.size, ((t117[0]'h).toNat : Int) = bt t117 0 := bt_at t117 0
                    clear p23
                    have qi23 : (0 < (t117.size : Int)) = True := eq_true (of_decide_eq_true (by first | (with_reducible assumption) | assumption))
                    replace q23 := eq_true q23
                    refine start_ (n := 14) (S := fun w' => True) (ds := []) #[false, false, false, false, false, false, false, false, false, false, false, false, false, false] (by kernel_rfl) rfl rfl trivial (fun hHeld => ?_); refine with_tabW saltusref06_words.tab13 saltusref06_words.bits13 (fun HT_ HW_ => ?_)
                    generalize w35.drew = w36 at HO_4 HB hHeld ⊢
                    refine pure_ (i := 0) (N := some 50) (v := ?_) (a' := ?_) #[true, false, false, false, false, false, false, false, false, false, false, false, false, false] rfl rfl (any_of HT_.out (by kernel_rfl)) (fun _ _ _ h => h) (Or.inl ⟨by rfl, ?_⟩) ?_ ?_
                    rotate_left
                    ·intro w'
                     go_simp
                     with_reducible rfl
                    rotate_left
                    ·simp only [Act.put, List.setIfInBounds_toArray, List.set_cons_zero, List.set_cons_succ, i64_w, i32_w]
                     rfl
                    refine pure_ (i := 2) (N := some 52) (v := ?_) (a' := ?_) #[true, false, true, false, false, false, false, false, false, false, false, false, false, false] rfl rfl (any_of HT_.out (by kernel_rfl)) (fun _ _ _ h => h) (Or.inl ⟨by rfl, ?_⟩) ?_ ?_
                    rotate_left
                    ·intro w'
                     go_simp
                     with_reducible rfl
                    rotate_left
                    ·simp only [Act.put, List.setIfInBounds_toArray, List.set_cons_zero, List.set_cons_succ, i64_w, i32_w]
                     rfl
                    refine pure_ (i := 3) (N := some 53) (v := ?_) (a' := ?_) #[true, false, true, true, false, false, false, false, false, false, false, false, false, false] rfl rfl (any_of HT_.out (by kernel_rfl)) (fun _ _ _ h => h) (Or.inl ⟨by rfl, ?_⟩) ?_ ?_
                    rotate_left
                    ·intro w'
                     go_simp
                     with_reducible rfl
                    rotate_left
                    ·simp only [Act.put, List.setIfInBounds_toArray, List.set_cons_zero, List.set_cons_succ, i64_w, i32_w]
                     rfl
                    refine pure_ (i := 4) (N := some 54) (v := ?_) (a' := ?_) #[true, false, true, true, true, false, false, false, false, false, false, false, false, false] rfl rfl (any_of HT_.out (by kernel_rfl)) (fun _ _ _ h => h) (Or.inl ⟨by rfl, ?_⟩) ?_ ?_
                    rotate_left
                    ·intro w'
                     go_simp
                     with_reducible rfl
                    rotate_left
                    ·simp only [Act.put, List.setIfInBounds_toArray, List.set_cons_zero, List.set_cons_succ, i64_w, i32_w]
                     rfl
                    refine pure_ (i := 5) (N := some 55) (v := ?_) (a' := ?_) #[true, false, true, true, true, true, false, false, false, false, false, false, false, false] rfl rfl (any_of HT_.out (by kernel_rfl)) (fun _ _ _ h => h) (Or.inl ⟨by rfl, ?_⟩) ?_ ?_
                    rotate_left
                    ·intro w'
                     go_simp
                     with_reducible rfl
                    rotate_left
                    ·simp only [Act.put, List.setIfInBounds_toArray, List.set_cons_zero, List.set_cons_succ, i64_w, i32_w]
                     rfl
                    refine pure_ (i := 10) (N := some 60) (v := ?_) (a' := ?_) #[true, false, true, true, true, true, false, false, false, false, true, false, false, false] rfl rfl (any_of HT_.out (by kernel_rfl)) (fun _ _ _ h => h) (Or.inl ⟨by rfl, ?_⟩) ?_ ?_
                    rotate_left
                    ·intro w'
                     go_simp
                     with_reducible rfl
                    rotate_left
                    ·simp only [Act.put, List.setIfInBounds_toArray, List.set_cons_zero, List.set_cons_succ, i64_w, i32_w]
                     rfl
                    refine pure_ (i := 11) (N := some 61) (v := ?_) (a' := ?_) #[true, false, true, true, true, true, false, false, false, false, true, true, false, false] rfl rfl (any_of HT_.out (by kernel_rfl)) (fun _ _ _ h => h) (Or.inl ⟨by rfl, ?_⟩) ?_ ?_
                    rotate_left
                    ·intro w'
                     go_simp
                     with_reducible rfl
                    rotate_left
                    ·simp only [Act.put, List.setIfInBounds_toArray, List.set_cons_zero, List.set_cons_succ, i64_w, i32_w]
                     rfl
                    refine take_ (i := 1) (N := some 51) (v := ?_) (a' := ?_) #[true, true, true, true, true, true, false, false, false, false, true, true, false, false] rfl rfl (take_ofW HT_.out HW_.out (by kernel_rfl)) (fun _ _ _ h => h) (Or.inl ⟨by rfl, ?_⟩) hHeld ?_ ?_
                    rotate_left
                    ·intro w' _
                     go_simp
                     with_reducible rfl
                    rotate_left
                    ·simp only [Act.put, List.setIfInBounds_toArray, List.set_cons_zero, List.set_cons_succ, i64_w, i32_w]
                     rfl
                    refine one_ (i := 6) (N := some 56) #[true, true, true, true, true, true, true, false, false, false, true, true, false, false] rfl rfl (one_of HT_.out (by kernel_rfl)) (by decide) (fun K hK => ?_)
                    refine goes_ Try.func15 (by kernel_rfl) rfl #[.int .u8 2, .int .i64 (wrap64 ((wrap64 (Int.tdiv x6_2 (wrap64 ((a0.size : Int) / 4)))) - 1))] (by rfl) rfl rfl (by (try simp only [List.map_toArray, List.map_cons, List.map_nil]); first | done | rfl | (simp only [List.length_drop, List.length_take]; rfl)) ?_
                    with_reducible refine (saltusref05_Pow.calls 2 (wrap64 ((wrap64 (Int.tdiv x6_2 (wrap64 ((a0.size : Int) / 4)))) - 1)) t118 _ A24.out).mono ?_
                    rintro e w37 ⟨rfl, hb⟩
                    refine ⟨_, rfl, ?_⟩
                    have n0_ := Aside0.mk (Kd.R_below (by (with_reducible repeat (first | apply Kd.R_alloc | apply Kd.R_drewN | apply Kd.R_drew)); exact HO_4.out) hb)
                    have n1_ := Aside0.mk (below_step (by repeat (first | (with_reducible first | exact HB.out | apply below_alloc | apply pw_below_drewN | apply below_drew1) | exact HB.out)) hb)
                    clear HO_4
                    clear HB
                    have HO_4 := n0_
                    have HB := n1_
                    clear n0_ n1_
                    (try clear hb)
                    (try clear hb2)
                    (try clear hk)
                    (try clear hi)
                    refine hK.out _ _ trivial (fun hHeld => ?_)
                    clear hK K
                    refine norm_ (a' := ?_) ?_ ?_
                    rotate_left
                    ·show Act.put _ (some 56) _ = _
                     simp only [Act.put, List.setIfInBounds_toArray, List.set_cons_zero, List.set_cons_succ, i64_w, i32_w]
                     rfl
                    refine pure_ (i := 7) (N := some 57) (v := ?_) (a' := ?_) #[true, true, true, true, true, true, true, true, false, false, true, true, false, false] rfl rfl (any_of HT_.out (by kernel_rfl)) (fun _ _ _ h => h) (Or.inl ⟨by rfl, ?_⟩) ?_ ?_
                    rotate_left
                    ·intro w'
                     go_simp
                     with_reducible rfl
                    rotate_left
                    ·simp only [Act.put, List.setIfInBounds_toArray, List.set_cons_zero, List.set_cons_succ, i64_w, i32_w]
                     rfl
                    refine one_ (i := 8) (N := some 58) #[true, true, true, true, true, true, true, true, true, false, true, true, false, false] rfl rfl (one_of HT_.out (by kernel_rfl)) (by decide) (fun K hK => ?_)
                    refine Kd.R_lit_step (Kd.int .u8) _ 5 ?hg (N := 58) ?hd (xs := ([Go.bits .xor .u8 (bt t117 0) t118] : List Int)) (inner := [.int .u8 (Go.bits .xor .u8 (bt t117 0) t118)]) (ok := fun _ => True) (okp := fun _ => True) ?hr ?hp (fun _ hk => hk) trivial (Below.refl _ _) (Nat.le_refl _) (by simp) ?_; (case hd => rfl); (case hg => rfl); (case hr => first | (go_simp; done) | (go_simp; rfl)); (case hp => exact (Reps.one (show Kd.M (Kd.int .u8) _ _ _ (Go.bits .xor .u8 (bt t117 0) t118) [.int .u8 (Go.bits .xor .u8 (bt t117 0) t118)] from rfl) (Reps.none _ _)))
                    intro v120 w38 ho39 hb hg_ hnew_
                    clear hg_ hnew_
                    (first | rw [← Ny119.out] at ho39 | (simp only [Int.reduceToNat] at ho39; rw [← Ny119.out] at ho39))
                    have n0_ := Aside0.mk (Kd.R_below (by (with_reducible repeat (first | apply Kd.R_alloc | apply Kd.R_drewN | apply Kd.R_drew)); exact HO_4.out) hb)
                    have n1_ := Aside0.mk (Kd.R_lower ho39 (below_size (by repeat (first | (with_reducible first | exact HB.out | apply below_alloc | apply pw_below_drewN | apply below_drew1) | exact HB.out))))
                    have n2_ := Aside0.mk (below_step (by repeat (first | (with_reducible first | exact HB.out | apply below_alloc | apply pw_below_drewN | apply below_drew1) | exact HB.out)) hb)
                    clear HO_4
                    clear HB
                    have HO_4 := n0_
                    have HO121 := n1_
                    have HB := n2_
                    clear n0_ n1_ n2_
                    clear hb ho39
                    obtain ⟨Ao40, co40, eo40⟩ := Kd.R_slice HO121.out
                    (first | subst eo40 | (injection eo40 with f1_ f2_ f3_; have f4_ := f1_.symm; have f5_ := f3_.symm; clear f1_ f2_ f3_; subst f4_; subst f5_))
                    refine hK.out _ _ trivial (fun hHeld => ?_)
                    clear hK K
                    refine norm_ (a' := ?_) ?_ ?_
                    rotate_left
                    ·show Act.put _ (some 58) _ = _
                     simp only [Act.put, List.setIfInBounds_toArray, List.set_cons_zero, List.set_cons_succ, i64_w, i32_w]
                     rfl
                    refine one_ (i := 9) (N := some 59) #[true, true, true, true, true, true, true, true, true, true, true, true, false, false] rfl rfl (one_of HT_.out (by kernel_rfl)) (by decide) (fun K hK => ?_)
                    refine goes_ Try.func52 (by kernel_rfl) rfl #[.slice Ao40 y119.length co40] (by rfl) rfl rfl (by (try simp only [List.map_toArray, List.map_cons, List.map_nil]); first | done | rfl | (simp only [List.length_drop, List.length_take]; rfl)) ?_
                    with_reducible refine (saltusref06_text.calls _ _ y119 t122 _ ?side1 ?side2 A25.out).mono ?_
                    (case side1 => repeat (first | exact (Kd.R_reads' HO121.out).2.2 | (with_reducible refine Kd.C_alloc ?_ _) | (with_reducible refine Kd.C_drewN ?_ _) | (with_reducible refine Kd.C_drew ?_)))
                    (case side2 => exact (Kd.R_reads' HO121.out).2.1)
                    rintro e w' ⟨rfl, ⟨nd, rfl⟩⟩
                    refine ⟨_, rfl, ?_⟩
                    refine hK.out _ _ trivial (fun hHeld => ?_)
                    clear hK K
                    refine norm_ (a' := ?_) ?_ ?_
                    rotate_left
                    ·show Act.put _ (some 59) _ = _
                     simp only [Act.put, List.setIfInBounds_toArray, List.set_cons_zero, List.set_cons_succ, i64_w, i32_w]
                     rfl
                    refine pure_ (i := 12) (N := some 62) (v := ?_) (a' := ?_) #[true, true, true, true, true, true, true, true, true, true, true, true, true, false] rfl rfl (any_of HT_.out (by kernel_rfl)) (fun _ _ _ h => h) (Or.inl ⟨by rfl, ?_⟩) ?_ ?_
                    rotate_left
                    ·intro w'
                     go_simp
                     with_reducible rfl
                    rotate_left
                    ·simp only [Act.put, List.setIfInBounds_toArray, List.set_cons_zero, List.set_cons_succ, i64_w, i32_w]
                     rfl
                    refine pure_ (i := 13) (N := some 7) (v := ?_) (a' := ?_) #[true, true, true, true, true, true, true, true, true, true, true, true, true, true] rfl rfl (any_of HT_.out (by kernel_rfl)) (fun _ _ _ h => h) (Or.inl ⟨by rfl, ?_⟩) ?_ ?_
                    rotate_left
                    ·intro w'
                     go_simp
                     with_reducible rfl
                    rotate_left
                    ·simp only [Act.put, List.setIfInBounds_toArray, List.set_cons_zero, List.set_cons_succ, i64_w, i32_w]
                     rfl
                    refine done_ (done_of HT_.out (by kernel_rfl)) ?_
                    have p123 : 0 ≤ ((ji28) : Int) := of_decide_eq_true (by first | (with_reducible assumption) | assumption)
                    have q123 : (ji28) < (x4_2.length : Int) := of_decide_eq_true (by first | (with_reducible assumption) | assumption)
                    obtain ⟨ad123, e123, hx123_0⟩ := Kd.at_string (Kd.R_reads' HO_4.out).2.2 (ji28) p123 q123
                    obtain rfl : ad116 = ad123 := (by injection e123)
                    replace p123 := eq_true p123
                    replace q123 := eq_true q123
                    try go_wp2_with (first | ((with_reducible refine gate_callee (f := 57) rfl ?_); refine goesL_ (some 80) rfl rfl Try.func57 (by kernel_rfl) rfl #[.string (rdOf ByteArray.empty x4_2 (ji28)), .string (t122 ++ (t117.extract 1 t117.size))] rfl (by (try simp only [List.map_toArray, List.map_cons, List.map_nil]); first | done | (simp only [hji28]; rfl) | rfl | (simp only [List.length_drop, List.length_take]; rfl)) ?_; (with_reducible refine (saltusref06_Xor.calls k2 (rdOf ByteArray.empty x4_2 (ji28)) (t122 ++ (t117.extract 1 t117.size)) t124 _ A31.out).mono ?_); rintro e w41 ⟨rfl, hb⟩; refine ⟨_, rfl, ?_⟩; have n0_ := Aside0.mk (Kd.R_below (by (with_reducible repeat (first | apply Kd.R_alloc | apply Kd.R_drewN | apply Kd.R_drew)); exact HO_4.out) hb); have n1_ := Aside0.mk (Kd.R_below (by (with_reducible repeat (first | apply Kd.R_alloc | apply Kd.R_drewN | apply Kd.R_drew)); exact HO121.out) hb); have n2_ := Aside0.mk (below_step (by repeat (first | (with_reducible first | exact HB.out | apply below_alloc | apply pw_below_drewN | apply below_drew1) | exact HB.out)) hb); clear HO_4; clear HO121; clear HB; have HO_4 := n0_; have HO121 := n1_; have HB := n2_; clear n0_ n1_ n2_; (try clear hb); (try clear hb2); (try clear hk); (try clear hi)) | ((with_reducible refine gate_builtin (b := .append) (xs := #[.tmp 72, .tmp 81]) rfl ?_); at_builtin; refine Kd.R_append Kd.string (w0 := w) w.heap.size rfl (.tmp 72) (.tmp 81) 36 9 (.string ⟨#[]⟩) 16 rfl Try.underlying36 info9 rfl (by decide) (by omega) (.slice (some ad116) x4_2.length co33) x4_2 t124 [.string t124] (fun _ => True) (fun _ => False) rfl rfl ?aP (fun _ hk => hk.elim) ?aF ?aO ?aB ?aS ?aL ?_; (case aP => exact rfl); (case aB => exact (by repeat (first | (with_reducible first | exact HB.out | apply below_alloc | apply pw_below_drewN | apply below_drew1) | exact HB.out))); (case aF => exact (fun _ _ => trivial)); (case aO => exact (by (with_reducible repeat (first | apply Kd.R_alloc | apply Kd.R_drewN | apply Kd.R_drew)); exact HO_4.out)); (case aS => exact (below_size (by repeat (first | (with_reducible first | exact HB.out | apply below_alloc | apply pw_below_drewN | apply below_drew1) | exact HB.out)))); (case aL => have := LMc32.out; omega); intro v126 w42 ho hb hg hat; rw [← Ny125.out] at ho; have n0_ := Aside0.mk (Kd.R_over' (by (with_reducible repeat (first | apply Kd.R_alloc | apply Kd.R_drewN | apply Kd.R_drew)); exact HO121.out) (Kd.R_typed (by (with_reducible repeat (first | apply Kd.R_alloc | apply Kd.R_drewN | apply Kd.R_drew)); exact HO_4.out)) (by decide) hg); have n1_ := Aside0.mk (hb); have n2_ := Aside0.mk (ho); clear HO121; clear HB; clear HO_4; have HO121 := n0_; have HB := n1_; have HO127 := n2_; clear n0_ n1_ n2_; clear ho hb hg hat))
                    go_roundg k2
                    case measure => have := HK1.out; have := HK2.out; omega
                    case rel => exact ⟨(y125), (wrap64 (x6_2 + 1)), (by first | rfl | (simp; done) | (simp [*]; done)), H', ⟨by have := HK1.out; have := HK2.out; omega⟩, ⟨by (with_reducible repeat (first | apply Kd.R_alloc | apply Kd.R_drewN | apply Kd.R_drew)); exact HO127.out⟩, ⟨by repeat (first | (with_reducible first | exact HB.out | apply below_alloc | apply pw_below_drewN | apply below_drew1) | exact HB.out)⟩⟩
                   ·rw [if_neg c32] at H
                    exact absurd H (by simp)
                  ·rw [if_neg c30] at H
                   exact absurd H (by simp)
                 ·rw [if_neg c29] at H
                  exact absurd H (by simp)
                ·rw [if_neg c27] at H
                 exact absurd H (by simp)
               ·rw [if_neg c26] at H
                exact absurd H (by simp)
              ·rw [if_neg c22] at H
               exact absurd H (by simp)
             ·rw [if_neg c20] at H
              exact absurd H (by simp)
            ·rw [if_neg c18] at H
             exact absurd H (by simp)
           ·rw [if_neg c17] at H
            exact absurd H (by simp)
          ·rw [if_neg c16] at H
           have c16b0 : ((Int.tmod x6_2 (wrap64 ((a0.size : Int) / 4))) == 0) = false := beq_eq_false_iff_ne.mpr c16
           have c16b1 : ((Int.tmod x6_2 (wrap64 ((a0.size : Int) / 4))) != 0) = true := bne_iff_ne.mpr c16
           have HC43 := Aside0.mk H
           clear H
           obtain ⟨Ao44, co44, eo44⟩ := Kd.R_slice HO_4.out
           subst eo44
           have p116 : 0 ≤ ((ji12) : Int) := of_decide_eq_true (by first | (with_reducible assumption) | assumption)
           have q116 : (ji12) < (x4_2.length : Int) := of_decide_eq_true (by first | (with_reducible assumption) | assumption)
           obtain ⟨ad116, e116, hx116_0⟩ := Kd.at_string (Kd.R_reads' HO_4.out).2.2 (ji12) p116 q116
           cases e116
           replace p116 := eq_true p116
           replace q116 := eq_true q116
           go_upto_region 14 with (fail)
           go_cut [69] (fun v69 wc => ∃ (kq : Nat) (x69_42 : Bool), v69 = .bool x69_42 ∧ Aside0 (saltusref06_words.j2 kq (wrap64 ((a0.size : Int) / 4)) x4_2 x6_2 (rdOf ByteArray.empty x4_2 (ji12)) x69_42 = some r) ∧ Aside0 (kq ≤ k2) ∧ Aside0 (Kd.R Kd.string 9 wc w.heap.size (fun _ => True) (.slice (some ad116) x4_2.length co44) x4_2) ∧ Aside0 (Below w.heap.size w wc))
           case first =>
            have H := HC43.out
            clear HC43
            by_cases c45 : (wrap64 ((a0.size : Int) / 4)) = 8
            ·rw [if_pos c45] at H
             have c45b0 : ((wrap64 ((a0.size : Int) / 4)) == 8) = true := beq_iff_eq.mpr c45
             have c45b1 : ((wrap64 ((a0.size : Int) / 4)) != 8) = false := bne_eq_false_iff_eq.mpr c45
             clear c45
             (first | rw [c45b0] | (simp only [i64_w, i32_w]; rw [c45b0]) | skip)
             have H' := Aside0.mk H
             clear H
             go_wp2
             go_meet
             case rel => exact ⟨_, (((Int.tmod x6_2 8) == 4)), (by first | rfl | (simp; done) | (simp [*]; done)), H', ⟨by have := HK1.out; have := HK2.out; first | omega | exact Nat.le_refl _⟩, ⟨by (with_reducible repeat (first | apply Kd.R_alloc | apply Kd.R_drewN | apply Kd.R_drew)); exact HO_4.out⟩, ⟨by repeat (first | (with_reducible first | exact HB.out | apply below_alloc | apply pw_below_drewN | apply below_drew1) | exact HB.out)⟩⟩
            ·rw [if_neg c45] at H
             have c45b0 : ((wrap64 ((a0.size : Int) / 4)) == 8) = false := beq_eq_false_iff_ne.mpr c45
             have c45b1 : ((wrap64 ((a0.size : Int) / 4)) != 8) = true := bne_iff_ne.mpr c45
             (first | rw [c45b0] | (simp only [i64_w, i32_w]; rw [c45b0]) | skip)
             have H' := Aside0.mk H
             clear H
             go_wp2
             go_meet
             case rel => exact ⟨_, (false), (by first | rfl | (simp; done) | (simp [*]; done)), H', ⟨by have := HK1.out; have := HK2.out; first | omega | exact Nat.le_refl _⟩, ⟨by (with_reducible repeat (first | apply Kd.R_alloc | apply Kd.R_drewN | apply Kd.R_drew)); exact HO_4.out⟩, ⟨by repeat (first | (with_reducible first | exact HB.out | apply below_alloc | apply pw_below_drewN | apply below_drew1) | exact HB.out)⟩⟩
           case rest =>
            clear HC43
            try clear c1
            try clear p1
            try clear q1
            try clear hx1
            try clear c2
            try clear p2
            try clear q2
            try clear hx2
            try clear qi2
            try clear c3
            try clear c4
            try clear c4b0
            try clear c5
            try clear c6
            try clear c6b0
            try clear c6b1
            try clear p6
            try clear c7
            try clear c7b0
            try clear c7b1
            try clear c8
            try clear c8b0
            try clear c8b1
            try clear c9
            try clear c11
            try clear c11b0
            try clear p11
            try clear q11
            try clear hx11
            try clear p12
            try clear q12
            try clear hx12
            try clear c13
            try clear c13b0
            try clear c14
            try clear c14b0
            try clear c15
            try clear c15b0
            try clear c15b1
            try clear c16
            try clear c16b0
            try clear c16b1
            try clear c17
            try clear c17b0
            try clear c17b1
            try clear c18
            try clear c18b0
            try clear c18b1
            try clear c19
            try clear c19b0
            try clear c20
            try clear c20b0
            try clear c20b1
            try clear c20b2
            try clear c22
            try clear c22b0
            try clear c22b1
            try clear p23
            try clear q23
            try clear hx23
            try clear qi23
            try clear c26
            try clear c26b0
            try clear c26b1
            try clear c27
            try clear c27b0
            try clear c27b1
            try clear c27b2
            try clear c28
            try clear c29
            try clear c29b0
            try clear c30
            try clear c30b0
            try clear c32
            try clear c45
            try clear c45b0
            try clear c45b1
            try clear hx116_0
            try clear hx123_0
            try clear p116
            try clear p123
            try clear p2
            try clear p23
            try clear p6
            try clear q116
            try clear q123
            try clear q23
            obtain ⟨kq, x69_42, rfl, HA, HJ42, HO_4, HB⟩ := hcut
            cases kq with
            | zero => exact absurd HA.out (by simp [saltusref06_words.j2])
            | succ kj42 =>
             have H := HA.out
             clear HA
             simp only [saltusref06_words.j2] at H
             by_cases c46 : x69_42 = true
             ·subst c46
              have H1 : ((saltusref06_Boxed.f (rdOf ByteArray.empty x4_2 (ji12))).bind fun t128 => (if 0 ≤ (wrap64 (x6_2 - (wrap64 ((a0.size : Int) / 4)))) then (if (wrap64 (x6_2 - (wrap64 ((a0.size : Int) / 4)))) < (x4_2.length : Int) then ((saltusref06_Xor.f kj42 (rdOf ByteArray.empty x4_2 (wrap64 (x6_2 - (wrap64 ((a0.size : Int) / 4))))) t128).bind fun t130 => (if x4_2.length < 8796093022208 then (saltusref06_words.l1 kj42 (wrap64 ((a0.size : Int) / 4)) (x4_2 ++ [t130]) (wrap64 (x6_2 + 1))) else (none))) else (none)) else (none))) = some r := by rw [if_pos rfl] at H; exact H
              clear H
              have H := H1
              clear H1
              replace H := Option.bind_eq_some_iff.mp H
              obtain ⟨t128, A470, H⟩ := H
              (try dsimp only at H)
              have A47 := Aside0.mk A470
              clear A470
              obtain ⟨ji48, hji48⟩ : ∃ j_ : Int, (wrap64 (x6_2 - (wrap64 ((a0.size : Int) / 4)))) = j_ := ⟨_, rfl⟩
              replace H : (if 0 ≤ (ji48) then (if (ji48) < (x4_2.length : Int) then ((saltusref06_Xor.f kj42 (rdOf ByteArray.empty x4_2 (ji48)) t128).bind fun t130 => (if x4_2.length < 8796093022208 then (saltusref06_words.l1 kj42 (wrap64 ((a0.size : Int) / 4)) (x4_2 ++ [t130]) (wrap64 (x6_2 + 1))) else (none))) else (none)) else (none)) = some r := by first | (rw [hji48] at H; exact H) | (simp only [hji48] at H ⊢; exact H)
              (try rw [hji48] at A47)
              have hji48w : (IntKind.i64.wrap (x6_2 - (wrap64 ((a0.size : Int) / 4)))) = ji48 := (i64_w _).trans hji48
              by_cases c49 : 0 ≤ (ji48)
              ·rw [if_pos c49] at H
               have c49b0 : decide (0 ≤ (ji48)) = true := decide_eq_true c49
               clear c49
               by_cases c50 : (ji48) < (x4_2.length : Int)
               ·rw [if_pos c50] at H
                have c50b0 : decide ((ji48) < (x4_2.length : Int)) = true := decide_eq_true c50
                clear c50
                replace H := Option.bind_eq_some_iff.mp H
                obtain ⟨t130, A510, H⟩ := H
                (try dsimp only at H)
                have A51 := Aside0.mk A510
                clear A510
                by_cases c52 : x4_2.length < 8796093022208
                ·rw [if_pos c52] at H
                 have LMc52 := Aside0.mk c52
                 clear c52
                 obtain ⟨y131, hy131⟩ : ∃ y_ : List ByteArray, y_ = (x4_2 ++ [t130]) := ⟨_, rfl⟩
                 replace H : (saltusref06_words.l1 kj42 (wrap64 ((a0.size : Int) / 4)) y131 (wrap64 (x6_2 + 1))) = some r := by first | (rw [hy131]; with_reducible exact H) | (have H2_ := (Option.bind_some _ _).symm.trans H; rw [hy131]; with_reducible exact H2_) | (have H2_ := (Option.bind_some _ _).symm.trans H; with_reducible exact H2_) | with_reducible exact H | (rw [hy131]; exact H) | exact H
                 have Ny131 := Aside0.mk hy131
                 clear hy131
                 have H' := Aside0.mk H
                 clear H
                 go_wp2_with (first | ((with_reducible refine gate_callee (f := 28) rfl ?_); refine goesL_ (some 71) rfl rfl Try.func28 (by kernel_rfl) rfl #[.string (rdOf ByteArray.empty x4_2 (ji12))] rfl (by (try simp only [List.map_toArray, List.map_cons, List.map_nil]); first | done | (simp only [hji12]; rfl) | rfl | (simp only [List.length_drop, List.length_take]; rfl)) ?_; (with_reducible refine (saltusref06_Boxed.calls (rdOf ByteArray.empty x4_2 (ji12)) t128 _ A47.out).mono ?_); rintro e w53 ⟨rfl, hb⟩; refine ⟨_, rfl, ?_⟩; have n0_ := Aside0.mk (Kd.R_below (by (with_reducible repeat (first | apply Kd.R_alloc | apply Kd.R_drewN | apply Kd.R_drew)); exact HO_4.out) hb); have n1_ := Aside0.mk (below_step (by repeat (first | (with_reducible first | exact HB.out | apply below_alloc | apply pw_below_drewN | apply below_drew1) | exact HB.out)) hb); clear HO_4; clear HB; have HO_4 := n0_; have HB := n1_; clear n0_ n1_; (try clear hb); (try clear hb2); (try clear hk); (try clear hi); have p129 : 0 ≤ ((ji48) : Int) := of_decide_eq_true (by first | (with_reducible assumption) | assumption); have q129 : (ji48) < (x4_2.length : Int) := of_decide_eq_true (by first | (with_reducible assumption) | assumption); obtain ⟨ad129, e129, hx129_0⟩ := Kd.at_string (Kd.R_reads' HO_4.out).2.2 (ji48) p129 q129; obtain rfl : ad116 = ad129 := (by injection e129); replace p129 := eq_true p129; replace q129 := eq_true q129) | ((with_reducible refine gate_callee (f := 57) rfl ?_); refine goesL_ (some 80) rfl rfl Try.func57 (by kernel_rfl) rfl #[.string (rdOf ByteArray.empty x4_2 (ji48)), .string t128] rfl (by (try simp only [List.map_toArray, List.map_cons, List.map_nil]); first | done | (simp only [hji48]; rfl) | rfl | (simp only [List.length_drop, List.length_take]; rfl)) ?_; (with_reducible refine (saltusref06_Xor.calls kj42 (rdOf ByteArray.empty x4_2 (ji48)) t128 t130 _ A51.out).mono ?_); rintro e w54 ⟨rfl, hb⟩; refine ⟨_, rfl, ?_⟩; have n0_ := Aside0.mk (Kd.R_below (by (with_reducible repeat (first | apply Kd.R_alloc | apply Kd.R_drewN | apply Kd.R_drew)); exact HO_4.out) hb); have n1_ := Aside0.mk (below_step (by repeat (first | (with_reducible first | exact HB.out | apply below_alloc | apply pw_below_drewN | apply below_drew1) | exact HB.out)) hb); clear HO_4; clear HB; have HO_4 := n0_; have HB := n1_; clear n0_ n1_; (try clear hb); (try clear hb2); (try clear hk); (try clear hi)) | ((with_reducible refine gate_builtin (b := .append) (xs := #[.tmp 72, .tmp 81]) rfl ?_); at_builtin; refine Kd.R_append Kd.string (w0 := w) w.heap.size rfl (.tmp 72) (.tmp 81) 36 9 (.string ⟨#[]⟩) 16 rfl Try.underlying36 info9 rfl (by decide) (by omega) (.slice (some ad116) x4_2.length co44) x4_2 t130 [.string t130] (fun _ => True) (fun _ => False) rfl rfl ?aP (fun _ hk => hk.elim) ?aF ?aO ?aB ?aS ?aL ?_; (case aP => exact rfl); (case aB => exact (by repeat (first | (with_reducible first | exact HB.out | apply below_alloc | apply pw_below_drewN | apply below_drew1) | exact HB.out))); (case aF => exact (fun _ _ => trivial)); (case aO => exact (by (with_reducible repeat (first | apply Kd.R_alloc | apply Kd.R_drewN | apply Kd.R_drew)); exact HO_4.out)); (case aS => exact (below_size (by repeat (first | (with_reducible first | exact HB.out | apply below_alloc | apply pw_below_drewN | apply below_drew1) | exact HB.out)))); (case aL => have := LMc52.out; omega); intro v132 w55 ho hb hg hat; rw [← Ny131.out] at ho; have n0_ := Aside0.mk (hb); have n1_ := Aside0.mk (ho); clear HB; clear HO_4; have HB := n0_; have HO133 := n1_; clear n0_ n1_; clear ho hb hg hat))
                 go_roundg kj42
                 case measure => have := HK1.out; have := HK2.out; have := HJ42.out; omega
                 case rel => exact ⟨(y131), (wrap64 (x6_2 + 1)), (by first | rfl | (simp; done) | (simp [*]; done)), H', ⟨by have := HK1.out; have := HK2.out; have := HJ42.out; omega⟩, ⟨by (with_reducible repeat (first | apply Kd.R_alloc | apply Kd.R_drewN | apply Kd.R_drew)); exact HO133.out⟩, ⟨by repeat (first | (with_reducible first | exact HB.out | apply below_alloc | apply pw_below_drewN | apply below_drew1) | exact HB.out)⟩⟩
                ·rw [if_neg c52] at H
                 exact absurd H (by simp)
               ·rw [if_neg c50] at H
                exact absurd H (by simp)
              ·rw [if_neg c49] at H
               exact absurd H (by simp)
             ·replace c46 := Bool.eq_false_iff.mpr c46
              subst c46
              have H1 : (if 0 ≤ (wrap64 (x6_2 - (wrap64 ((a0.size : Int) / 4)))) then (if (wrap64 (x6_2 - (wrap64 ((a0.size : Int) / 4)))) < (x4_2.length : Int) then ((saltusref06_Xor.f kj42 (rdOf ByteArray.empty x4_2 (wrap64 (x6_2 - (wrap64 ((a0.size : Int) / 4))))) (rdOf ByteArray.empty x4_2 (ji12))).bind fun t135 => (if x4_2.length < 8796093022208 then (saltusref06_words.l1 kj42 (wrap64 ((a0.size : Int) / 4)) (x4_2 ++ [t135]) (wrap64 (x6_2 + 1))) else (none))) else (none)) else (none)) = some r := by rw [if_neg (show ¬ (false = true) by decide)] at H; exact H
              clear H
              have H := H1
              clear H1
              obtain ⟨ji56, hji56⟩ : ∃ j_ : Int, (wrap64 (x6_2 - (wrap64 ((a0.size : Int) / 4)))) = j_ := ⟨_, rfl⟩
              replace H : (if 0 ≤ (ji56) then (if (ji56) < (x4_2.length : Int) then ((saltusref06_Xor.f kj42 (rdOf ByteArray.empty x4_2 (ji56)) (rdOf ByteArray.empty x4_2 (ji12))).bind fun t135 => (if x4_2.length < 8796093022208 then (saltusref06_words.l1 kj42 (wrap64 ((a0.size : Int) / 4)) (x4_2 ++ [t135]) (wrap64 (x6_2 + 1))) else (none))) else (none)) else (none)) = some r := by first | (rw [hji56] at H; exact H) | (simp only [hji56] at H ⊢; exact H)
              have hji56w : (IntKind.i64.wrap (x6_2 - (wrap64 ((a0.size : Int) / 4)))) = ji56 := (i64_w _).trans hji56
              by_cases c57 : 0 ≤ (ji56)
              ·rw [if_pos c57] at H
               have c57b0 : decide (0 ≤ (ji56)) = true := decide_eq_true c57
               clear c57
               by_cases c58 : (ji56) < (x4_2.length : Int)
               ·rw [if_pos c58] at H
                have c58b0 : decide ((ji56) < (x4_2.length : Int)) = true := decide_eq_true c58
                clear c58
                replace H := Option.bind_eq_some_iff.mp H
                obtain ⟨t135, A590, H⟩ := H
                (try dsimp only at H)
                have A59 := Aside0.mk A590
                clear A590
                by_cases c60 : x4_2.length < 8796093022208
                ·rw [if_pos c60] at H
                 have LMc60 := Aside0.mk c60
                 clear c60
                 obtain ⟨y136, hy136⟩ : ∃ y_ : List ByteArray, y_ = (x4_2 ++ [t135]) := ⟨_, rfl⟩
                 replace H : (saltusref06_words.l1 kj42 (wrap64 ((a0.size : Int) / 4)) y136 (wrap64 (x6_2 + 1))) = some r := by first | (rw [hy136]; with_reducible exact H) | (have H2_ := (Option.bind_some _ _).symm.trans H; rw [hy136]; with_reducible exact H2_) | (have H2_ := (Option.bind_some _ _).symm.trans H; with_reducible exact H2_) | with_reducible exact H | (rw [hy136]; exact H) | exact H
                 have Ny136 := Aside0.mk hy136
                 clear hy136
                 have H' := Aside0.mk H
                 clear H
                 have p134 : 0 ≤ ((ji56) : Int) := of_decide_eq_true (by first | (with_reducible assumption) | assumption)
                 have q134 : (ji56) < (x4_2.length : Int) := of_decide_eq_true (by first | (with_reducible assumption) | assumption)
                 obtain ⟨ad134, e134, hx134_0⟩ := Kd.at_string (Kd.R_reads' HO_4.out).2.2 (ji56) p134 q134
                 obtain rfl : ad116 = ad134 := (by injection e134)
                 replace p134 := eq_true p134
                 replace q134 := eq_true q134
                 go_wp2_with (first | ((with_reducible refine gate_callee (f := 57) rfl ?_); refine goesL_ (some 80) rfl rfl Try.func57 (by kernel_rfl) rfl #[.string (rdOf ByteArray.empty x4_2 (ji56)), .string (rdOf ByteArray.empty x4_2 (ji12))] rfl (by (try simp only [List.map_toArray, List.map_cons, List.map_nil]); first | done | (simp only [hji12, hji56]; rfl) | rfl | (simp only [List.length_drop, List.length_take]; rfl)) ?_; (with_reducible refine (saltusref06_Xor.calls kj42 (rdOf ByteArray.empty x4_2 (ji56)) (rdOf ByteArray.empty x4_2 (ji12)) t135 _ A59.out).mono ?_); rintro e w61 ⟨rfl, hb⟩; refine ⟨_, rfl, ?_⟩; have n0_ := Aside0.mk (Kd.R_below (by (with_reducible repeat (first | apply Kd.R_alloc | apply Kd.R_drewN | apply Kd.R_drew)); exact HO_4.out) hb); have n1_ := Aside0.mk (below_step (by repeat (first | (with_reducible first | exact HB.out | apply below_alloc | apply pw_below_drewN | apply below_drew1) | exact HB.out)) hb); clear HO_4; clear HB; have HO_4 := n0_; have HB := n1_; clear n0_ n1_; (try clear hb); (try clear hb2); (try clear hk); (try clear hi)) | ((with_reducible refine gate_builtin (b := .append) (xs := #[.tmp 72, .tmp 81]) rfl ?_); at_builtin; refine Kd.R_append Kd.string (w0 := w) w.heap.size rfl (.tmp 72) (.tmp 81) 36 9 (.string ⟨#[]⟩) 16 rfl Try.underlying36 info9 rfl (by decide) (by omega) (.slice (some ad116) x4_2.length co44) x4_2 t135 [.string t135] (fun _ => True) (fun _ => False) rfl rfl ?aP (fun _ hk => hk.elim) ?aF ?aO ?aB ?aS ?aL ?_; (case aP => exact rfl); (case aB => exact (by repeat (first | (with_reducible first | exact HB.out | apply below_alloc | apply pw_below_drewN | apply below_drew1) | exact HB.out))); (case aF => exact (fun _ _ => trivial)); (case aO => exact (by (with_reducible repeat (first | apply Kd.R_alloc | apply Kd.R_drewN | apply Kd.R_drew)); exact HO_4.out)); (case aS => exact (below_size (by repeat (first | (with_reducible first | exact HB.out | apply below_alloc | apply pw_below_drewN | apply below_drew1) | exact HB.out)))); (case aL => have := LMc60.out; omega); intro v137 w62 ho hb hg hat; rw [← Ny136.out] at ho; have n0_ := Aside0.mk (hb); have n1_ := Aside0.mk (ho); clear HB; clear HO_4; have HB := n0_; have HO138 := n1_; clear n0_ n1_; clear ho hb hg hat))
                 go_roundg kj42
                 case measure => have := HK1.out; have := HK2.out; have := HJ42.out; omega
                 case rel => exact ⟨(y136), (wrap64 (x6_2 + 1)), (by first | rfl | (simp; done) | (simp [*]; done)), H', ⟨by have := HK1.out; have := HK2.out; have := HJ42.out; omega⟩, ⟨by (with_reducible repeat (first | apply Kd.R_alloc | apply Kd.R_drewN | apply Kd.R_drew)); exact HO138.out⟩, ⟨by repeat (first | (with_reducible first | exact HB.out | apply below_alloc | apply pw_below_drewN | apply below_drew1) | exact HB.out)⟩⟩
                ·rw [if_neg c60] at H
                 exact absurd H (by simp)
               ·rw [if_neg c58] at H
                exact absurd H (by simp)
              ·rw [if_neg c57] at H
               exact absurd H (by simp)
        ·rw [if_neg c14] at H
         exact absurd H (by simp)
       ·rw [if_neg c13] at H
        exact absurd H (by simp)
      ·rw [if_neg c11] at H
       have c11b0 : decide (x6_2 < (wrap64 (4 * (wrap64 ((wrap64 ((a0.size : Int) / 4)) + 7))))) = false := decide_eq_false c11
       clear c11
       obtain rfl := Option.some.inj H
       go_wp2
       go_ret
       exact ⟨_, by first | rfl | (simp [errW_none, errW_some] <;> rfl) | (simp [*, errW_none, errW_some] <;> rfl), by (with_reducible repeat (first | apply Kd.R_alloc | apply Kd.R_drewN | apply Kd.R_drew)); exact HO_4.out, by repeat (first | (with_reducible first | exact HB.out | apply below_alloc | apply pw_below_drewN | apply below_drew1) | exact HB.out)⟩
end Go.Proofs.Ytnaidfcehmdmcaa.QAK
end
