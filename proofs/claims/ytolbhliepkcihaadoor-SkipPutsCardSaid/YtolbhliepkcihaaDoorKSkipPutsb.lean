/- Joined by a program of this session (wip/pack.py) for this claim: QSQx2, SkipOps, SkipCon, SkipPuts. -/
import Derived.Test.YtolbhliepkcihaaDoorKSkipPutsa
section
namespace Go.Proofs.YtolbhliepkcihaaDoor.QSQ
open Go.RowKit Go.Proofs.YtolbhliepkcihaaDoor.Kinds Go.Proofs.YtolbhliepkcihaaDoorW.PrintWords Go.Proofs.YtolbhliepkcihaaDoorW.PrintLast Go.Proofs.YtolbhliepkcihaaDoorW.PrintMore
attribute [local go_sem] max2_int min2_int max_two min_two max_three min_three max_four min_four   -- for this text's walks alone
set_option linter.unusedVariables false
set_option linter.unusedSimpArgs false
attribute [local go_sem high] eqA46
/-! ### saltusref16_Same: function 39 -/
def saltusref16_Same.l0 : Nat → List (S46) → List (S46) → Int → Int → Option (Bool)
 | 0, _, _, _, _ => none
 | k + 1, x0, x1, x12, x13 => if x13 < x12 then (if 0 ≤ x13 then (if x13 < (x0.length : Int) then (if x13 < (x1.length : Int) then (if (!(((rd_T46 x0 x13).f0) == ((rd_T46 x1 x13).f0)) || (!((((rd_T46 x0 x13).f1).toList) == (((rd_T46 x1 x13).f1).toList)))) = true then (some false) else (saltusref16_Same.l0 k x0 x1 x12 (wrap64 (x13 + 1)))) else (none)) else (none)) else (none)) else (some true)
def saltusref16_Same.f (k : Nat) (l0 : List (S46)) (l1 : List (S46)) : Option (Bool) := if (l0.length : Int) = (l1.length : Int) then (saltusref16_Same.l0 k l0 l1 (l0.length : Int) 0) else (some false)
theorem saltusref16_Same.mono_l : ∀ k, (∀ y0 y1 y2 y3, LeO (saltusref16_Same.l0 k y0 y1 y2 y3) (saltusref16_Same.l0 (k + 1) y0 y1 y2 y3))
 | 0 => fun _ _ _ _ r h => by simp [saltusref16_Same.l0] at h
 | k + 1 => by
  have ih0 := saltusref16_Same.mono_l k
  ·intro y0 y1 y2 y3
   unfold saltusref16_Same.l0
   repeat' first
   | (with_reducible exact ih0 _ _ _ _)
   | (with_reducible exact LeO.refl _)
   | (with_reducible exact LeO.none _)
   | (with_reducible refine LeO.ite ?_ ?_)
   | (with_reducible refine LeO.bind ?_ (fun _ => ?_))
   | exact ih0 _ _ _ _
   | exact LeO.none _
   | refine LeO.ite ?_ ?_
   | refine LeO.bind ?_ (fun _ => ?_)
theorem saltusref16_Same.mono : ∀ a0 a1 k, LeO (saltusref16_Same.f k a0 a1) (saltusref16_Same.f (k + 1) a0 a1) := by
 intro a0 a1 k
 have ih0 := saltusref16_Same.mono_l k
 unfold saltusref16_Same.f
 repeat' first
   | (with_reducible exact ih0 _ _ _ _)
   | (with_reducible exact LeO.refl _)
   | (with_reducible exact LeO.none _)
   | (with_reducible refine LeO.ite ?_ ?_)
   | (with_reducible refine LeO.bind ?_ (fun _ => ?_))
   | exact ih0 _ _ _ _
   | exact LeO.none _
   | refine LeO.ite ?_ ?_
   | refine LeO.bind ?_ (fun _ => ?_)
set_option maxHeartbeats 8000000 in
set_option maxRecDepth 100000 in
theorem saltusref16_Same.calls (k : Nat) (A0 : Option Addr) (c0 : Nat) (l0 : List (S46)) (A1 : Option Addr) (c1 : Nat) (l1 : List (S46)) (r : Bool) (w : World) (hr0 : Kd.C k46 w A0 l0.length l0) (hc0 : l0.length ≤ c0) (hr1 : Kd.C k46 w A1 l1.length l1) (hc1 : l1.length ≤ c1) (h : saltusref16_Same.f k l0 l1 = some r) :
  Calls Tryd.prog 39 #[.slice A0 l0.length c0, .slice A1 l1.length c1] w fun e w' => e = .returned (.bool r) ∧ Drawn0 w w' := by
 have hu46 := Tryd.underlying46
 have HR0 := Aside0.mk hr0
 have HC0 := Aside0.mk hc0
 clear hr0 hc0
 have HR1 := Aside0.mk hr1
 have HC1 := Aside0.mk hc1
 clear hr1 hc1
 have H : (if (l0.length : Int) = (l1.length : Int) then (saltusref16_Same.l0 k l0 l1 (l0.length : Int) 0) else (some false)) = some r := h
 clear h
 by_cases c3 : (l0.length : Int) = (l1.length : Int)
 ·rw [if_pos c3] at H
  have c3b0 : ((l0.length : Int) == (l1.length : Int)) = true := beq_iff_eq.mpr c3
  have c3b1 : ((l0.length : Int) != (l1.length : Int)) = false := bne_eq_false_iff_eq.mpr c3
  have c3b2 : (l0.length == l1.length) = true := by first | simpa using c3 | (simp at c3 ⊢; omega)
  clear c3
  have H' := Aside0.mk H
  clear H
  go_enter Tryd.func39, Tryd.ntmps39
  go_wp2
  repeat (go_quiet (fail); try go_wp2)
  go_loopg [13] k (fun kq v13 w' => ∃ (x13_1 : Int), v13 = .int .i64 x13_1 ∧ Aside0 (saltusref16_Same.l0 kq l0 l1 (l0.length : Int) x13_1 = some r) ∧ Aside0 (kq ≤ k) ∧ Drawn0 w w')
  case atStart => exact ⟨(0), (by first | rfl | (simp; done) | (simp [*]; done)), H', ⟨Nat.le_refl _⟩, by repeat (first | exact Drawn0.refl _ | apply Drawn0.step)⟩
  case round =>
   clear H'
   try clear c1
   try clear p2
   try clear c3
   try clear c3b0
   try clear c3b1
   try clear c3b2
   obtain ⟨x13_1, rfl, HA, HK1, ⟨m1, rfl⟩⟩ := hrel
   cases gk with
   | zero => exact absurd HA.out (by simp [saltusref16_Same.l0])
   | succ k1 =>
    have H := HA.out
    clear HA
    simp only [saltusref16_Same.l0] at H
    by_cases c4 : x13_1 < (l0.length : Int)
    ·rw [if_pos c4] at H
     have c4b0 : decide (x13_1 < (l0.length : Int)) = true := decide_eq_true c4
     clear c4
     by_cases c5 : 0 ≤ x13_1
     ·rw [if_pos c5] at H
      have c5b0 : decide (0 ≤ x13_1) = true := decide_eq_true c5
      clear c5
      by_cases c6 : x13_1 < (l0.length : Int)
      ·rw [if_pos c6] at H
       have c6b0 : decide (x13_1 < (l0.length : Int)) = true := decide_eq_true c6
       clear c6
       by_cases c7 : x13_1 < (l1.length : Int)
       ·rw [if_pos c7] at H
        have c7b0 : decide (x13_1 < (l1.length : Int)) = true := decide_eq_true c7
        clear c7
        by_cases c8 : (!(((rd_T46 l0 x13_1).f0) == ((rd_T46 l1 x13_1).f0)) || (!((((rd_T46 l0 x13_1).f1).toList) == (((rd_T46 l1 x13_1).f1).toList)))) = true
        ·rw [if_pos c8] at H
         have c8b0 : (!(((rd_T46 l0 x13_1).f0) == ((rd_T46 l1 x13_1).f0)) || (!((((rd_T46 l0 x13_1).f1).toList) == (((rd_T46 l1 x13_1).f1).toList)))) = true := c8
         clear c8
         obtain rfl := Option.some.inj H
         have p101 : 0 ≤ (x13_1 : Int) := of_decide_eq_true (by first | (with_reducible assumption) | assumption)
         have q101 : x13_1 < (l0.length : Int) := of_decide_eq_true (by first | (with_reducible assumption) | assumption)
         obtain ⟨ad101, e101, hx101_0, hx101_1⟩ := at_T46 HR0.out x13_1 p101 q101
         cases e101
         replace p101 := eq_true p101
         replace q101 := eq_true q101
         have p102 : 0 ≤ (x13_1 : Int) := of_decide_eq_true (by first | (with_reducible assumption) | assumption)
         have q102 : x13_1 < (l1.length : Int) := of_decide_eq_true (by first | (with_reducible assumption) | assumption)
         obtain ⟨ad102, e102, hx102_0, hx102_1⟩ := at_T46 HR1.out x13_1 p102 q102
         cases e102
         replace p102 := eq_true p102
         replace q102 := eq_true q102
         go_wp2
         repeat (go_quiet (fail); try go_wp2)
         go_ret
         exact ⟨by first | rfl | (simp; done) | (simp [*]; done), by repeat (first | exact Drawn0.refl _ | apply Drawn0.step)⟩
        ·rw [if_neg c8] at H
         have c8b0 : (!(((rd_T46 l0 x13_1).f0) == ((rd_T46 l1 x13_1).f0)) || (!((((rd_T46 l0 x13_1).f1).toList) == (((rd_T46 l1 x13_1).f1).toList)))) = false := by simpa using c8
         clear c8
         have H' := Aside0.mk H
         clear H
         have p101 : 0 ≤ (x13_1 : Int) := of_decide_eq_true (by first | (with_reducible assumption) | assumption)
         have q101 : x13_1 < (l0.length : Int) := of_decide_eq_true (by first | (with_reducible assumption) | assumption)
         obtain ⟨ad101, e101, hx101_0, hx101_1⟩ := at_T46 HR0.out x13_1 p101 q101
         cases e101
         replace p101 := eq_true p101
         replace q101 := eq_true q101
         have p102 : 0 ≤ (x13_1 : Int) := of_decide_eq_true (by first | (with_reducible assumption) | assumption)
         have q102 : x13_1 < (l1.length : Int) := of_decide_eq_true (by first | (with_reducible assumption) | assumption)
         obtain ⟨ad102, e102, hx102_0, hx102_1⟩ := at_T46 HR1.out x13_1 p102 q102
         cases e102
         replace p102 := eq_true p102
         replace q102 := eq_true q102
         go_wp2
         repeat (go_quiet (fail); try go_wp2)
         go_roundg k1
         case measure => have := HK1.out; omega
         case rel => exact ⟨(wrap64 (x13_1 + 1)), (by first | rfl | (simp; done) | (simp [*]; done)), H', ⟨by have := HK1.out; omega⟩, by repeat (first | exact Drawn0.refl _ | apply Drawn0.step)⟩
       ·rw [if_neg c7] at H
        exact absurd H (by simp)
      ·rw [if_neg c6] at H
       exact absurd H (by simp)
     ·rw [if_neg c5] at H
      exact absurd H (by simp)
    ·rw [if_neg c4] at H
     have c4b0 : decide (x13_1 < (l0.length : Int)) = false := decide_eq_false c4
     clear c4
     obtain rfl := Option.some.inj H
     go_wp2
     repeat (go_quiet (fail); try go_wp2)
     go_ret
     exact ⟨by first | rfl | (simp; done) | (simp [*]; done), by repeat (first | exact Drawn0.refl _ | apply Drawn0.step)⟩
 ·rw [if_neg c3] at H
  have c3b0 : ((l0.length : Int) == (l1.length : Int)) = false := beq_eq_false_iff_ne.mpr c3
  have c3b1 : ((l0.length : Int) != (l1.length : Int)) = true := bne_iff_ne.mpr c3
  have c3b2 : (l0.length == l1.length) = false := by first | simpa using c3 | (simp at c3 ⊢; omega)
  obtain rfl := Option.some.inj H
  go_enter Tryd.func39, Tryd.ntmps39
  go_wp2
  repeat (go_quiet (fail); try go_wp2)
  go_ret
  exact ⟨by first | rfl | (simp; done) | (simp [*]; done), by repeat (first | exact Drawn0.refl _ | apply Drawn0.step)⟩
/-! ### api_Item: function 81 -/
def api_Item.l0 : Nat → List (S46) → List (S46) → Int → Int → Option (Bool)
 | 0, _, _, _, _ => none
 | k + 1, x0, x1, x12, x13 => if x13 < x12 then (if 0 ≤ x13 then (if x13 < (x0.length : Int) then (if x13 < (x1.length : Int) then (if (!(((rd_T46 x0 x13).f0) == ((rd_T46 x1 x13).f0)) || (!((((rd_T46 x0 x13).f1).toList) == (((rd_T46 x1 x13).f1).toList)))) = true then (some false) else (api_Item.l0 k x0 x1 x12 (wrap64 (x13 + 1)))) else (none)) else (none)) else (none)) else (some true)
def api_Item.f (k : Nat) (l0 : List (S46)) (l1 : List (S46)) : Option (Bool) := if (l0.length : Int) = (l1.length : Int) then (api_Item.l0 k l0 l1 (l0.length : Int) 0) else (some false)
theorem api_Item.mono_l : ∀ k, (∀ y0 y1 y2 y3, LeO (api_Item.l0 k y0 y1 y2 y3) (api_Item.l0 (k + 1) y0 y1 y2 y3))
 | 0 => fun _ _ _ _ r h => by simp [api_Item.l0] at h
 | k + 1 => by
  have ih0 := api_Item.mono_l k
  ·intro y0 y1 y2 y3
   unfold api_Item.l0
   repeat' first
   | (with_reducible exact ih0 _ _ _ _)
   | (with_reducible exact LeO.refl _)
   | (with_reducible exact LeO.none _)
   | (with_reducible refine LeO.ite ?_ ?_)
   | (with_reducible refine LeO.bind ?_ (fun _ => ?_))
   | exact ih0 _ _ _ _
   | exact LeO.none _
   | refine LeO.ite ?_ ?_
   | refine LeO.bind ?_ (fun _ => ?_)
theorem api_Item.mono : ∀ a0 a1 k, LeO (api_Item.f k a0 a1) (api_Item.f (k + 1) a0 a1) := by
 intro a0 a1 k
 have ih0 := api_Item.mono_l k
 unfold api_Item.f
 repeat' first
   | (with_reducible exact ih0 _ _ _ _)
   | (with_reducible exact LeO.refl _)
   | (with_reducible exact LeO.none _)
   | (with_reducible refine LeO.ite ?_ ?_)
   | (with_reducible refine LeO.bind ?_ (fun _ => ?_))
   | exact ih0 _ _ _ _
   | exact LeO.none _
   | refine LeO.ite ?_ ?_
   | refine LeO.bind ?_ (fun _ => ?_)
set_option maxHeartbeats 8000000 in
set_option maxRecDepth 100000 in
theorem api_Item.calls (k : Nat) (A0 : Option Addr) (c0 : Nat) (l0 : List (S46)) (A1 : Option Addr) (c1 : Nat) (l1 : List (S46)) (r : Bool) (w : World) (hr0 : Kd.C k46 w A0 l0.length l0) (hc0 : l0.length ≤ c0) (hr1 : Kd.C k46 w A1 l1.length l1) (hc1 : l1.length ≤ c1) (h : api_Item.f k l0 l1 = some r) :
  Calls Tryd.prog 81 #[.slice A0 l0.length c0, .slice A1 l1.length c1] w fun e w' => e = .returned (.bool r) ∧ Drawn0 w w' := by
 have hu46 := Tryd.underlying46
 have HR0 := Aside0.mk hr0
 have HC0 := Aside0.mk hc0
 clear hr0 hc0
 have HR1 := Aside0.mk hr1
 have HC1 := Aside0.mk hc1
 clear hr1 hc1
 have H : (if (l0.length : Int) = (l1.length : Int) then (api_Item.l0 k l0 l1 (l0.length : Int) 0) else (some false)) = some r := h
 clear h
 by_cases c3 : (l0.length : Int) = (l1.length : Int)
 ·rw [if_pos c3] at H
  have c3b0 : ((l0.length : Int) == (l1.length : Int)) = true := beq_iff_eq.mpr c3
  have c3b1 : ((l0.length : Int) != (l1.length : Int)) = false := bne_eq_false_iff_eq.mpr c3
  have c3b2 : (l0.length == l1.length) = true := by first | simpa using c3 | (simp at c3 ⊢; omega)
  clear c3
  have H' := Aside0.mk H
  clear H
  go_enter Tryd.func81, Tryd.ntmps81
  go_wp2
  repeat (go_quiet (fail); try go_wp2)
  go_loopg [13] k (fun kq v13 w' => ∃ (x13_1 : Int), v13 = .int .i64 x13_1 ∧ Aside0 (api_Item.l0 kq l0 l1 (l0.length : Int) x13_1 = some r) ∧ Aside0 (kq ≤ k) ∧ Drawn0 w w')
  case atStart => exact ⟨(0), (by first | rfl | (simp; done) | (simp [*]; done)), H', ⟨Nat.le_refl _⟩, by repeat (first | exact Drawn0.refl _ | apply Drawn0.step)⟩
  case round =>
   clear H'
   try clear c1
   try clear p2
   try clear c3
   try clear c3b0
   try clear c3b1
   try clear c3b2
   obtain ⟨x13_1, rfl, HA, HK1, ⟨m1, rfl⟩⟩ := hrel
   cases gk with
   | zero => exact absurd HA.out (by simp [api_Item.l0])
   | succ k1 =>
    have H := HA.out
    clear HA
    simp only [api_Item.l0] at H
    by_cases c4 : x13_1 < (l0.length : Int)
    ·rw [if_pos c4] at H
     have c4b0 : decide (x13_1 < (l0.length : Int)) = true := decide_eq_true c4
     clear c4
     by_cases c5 : 0 ≤ x13_1
     ·rw [if_pos c5] at H
      have c5b0 : decide (0 ≤ x13_1) = true := decide_eq_true c5
      clear c5
      by_cases c6 : x13_1 < (l0.length : Int)
      ·rw [if_pos c6] at H
       have c6b0 : decide (x13_1 < (l0.length : Int)) = true := decide_eq_true c6
       clear c6
       by_cases c7 : x13_1 < (l1.length : Int)
       ·rw [if_pos c7] at H
        have c7b0 : decide (x13_1 < (l1.length : Int)) = true := decide_eq_true c7
        clear c7
        by_cases c8 : (!(((rd_T46 l0 x13_1).f0) == ((rd_T46 l1 x13_1).f0)) || (!((((rd_T46 l0 x13_1).f1).toList) == (((rd_T46 l1 x13_1).f1).toList)))) = true
        ·rw [if_pos c8] at H
         have c8b0 : (!(((rd_T46 l0 x13_1).f0) == ((rd_T46 l1 x13_1).f0)) || (!((((rd_T46 l0 x13_1).f1).toList) == (((rd_T46 l1 x13_1).f1).toList)))) = true := c8
         clear c8
         obtain rfl := Option.some.inj H
         have p103 : 0 ≤ (x13_1 : Int) := of_decide_eq_true (by first | (with_reducible assumption) | assumption)
         have q103 : x13_1 < (l0.length : Int) := of_decide_eq_true (by first | (with_reducible assumption) | assumption)
         obtain ⟨ad103, e103, hx103_0, hx103_1⟩ := at_T46 HR0.out x13_1 p103 q103
         cases e103
         replace p103 := eq_true p103
         replace q103 := eq_true q103
         have p104 : 0 ≤ (x13_1 : Int) := of_decide_eq_true (by first | (with_reducible assumption) | assumption)
         have q104 : x13_1 < (l1.length : Int) := of_decide_eq_true (by first | (with_reducible assumption) | assumption)
         obtain ⟨ad104, e104, hx104_0, hx104_1⟩ := at_T46 HR1.out x13_1 p104 q104
         cases e104
         replace p104 := eq_true p104
         replace q104 := eq_true q104
         go_wp2
         repeat (go_quiet (fail); try go_wp2)
         go_ret
         exact ⟨by first | rfl | (simp; done) | (simp [*]; done), by repeat (first | exact Drawn0.refl _ | apply Drawn0.step)⟩
        ·rw [if_neg c8] at H
         have c8b0 : (!(((rd_T46 l0 x13_1).f0) == ((rd_T46 l1 x13_1).f0)) || (!((((rd_T46 l0 x13_1).f1).toList) == (((rd_T46 l1 x13_1).f1).toList)))) = false := by simpa using c8
         clear c8
         have H' := Aside0.mk H
         clear H
         have p103 : 0 ≤ (x13_1 : Int) := of_decide_eq_true (by first | (with_reducible assumption) | assumption)
         have q103 : x13_1 < (l0.length : Int) := of_decide_eq_true (by first | (with_reducible assumption) | assumption)
         obtain ⟨ad103, e103, hx103_0, hx103_1⟩ := at_T46 HR0.out x13_1 p103 q103
         cases e103
         replace p103 := eq_true p103
         replace q103 := eq_true q103
         have p104 : 0 ≤ (x13_1 : Int) := of_decide_eq_true (by first | (with_reducible assumption) | assumption)
         have q104 : x13_1 < (l1.length : Int) := of_decide_eq_true (by first | (with_reducible assumption) | assumption)
         obtain ⟨ad104, e104, hx104_0, hx104_1⟩ := at_T46 HR1.out x13_1 p104 q104
         cases e104
         replace p104 := eq_true p104
         replace q104 := eq_true q104
         go_wp2
         repeat (go_quiet (fail); try go_wp2)
         go_roundg k1
         case measure => have := HK1.out; omega
         case rel => exact ⟨(wrap64 (x13_1 + 1)), (by first | rfl | (simp; done) | (simp [*]; done)), H', ⟨by have := HK1.out; omega⟩, by repeat (first | exact Drawn0.refl _ | apply Drawn0.step)⟩
       ·rw [if_neg c7] at H
        exact absurd H (by simp)
      ·rw [if_neg c6] at H
       exact absurd H (by simp)
     ·rw [if_neg c5] at H
      exact absurd H (by simp)
    ·rw [if_neg c4] at H
     have c4b0 : decide (x13_1 < (l0.length : Int)) = false := decide_eq_false c4
     clear c4
     obtain rfl := Option.some.inj H
     go_wp2
     repeat (go_quiet (fail); try go_wp2)
     go_ret
     exact ⟨by first | rfl | (simp; done) | (simp [*]; done), by repeat (first | exact Drawn0.refl _ | apply Drawn0.step)⟩
 ·rw [if_neg c3] at H
  have c3b0 : ((l0.length : Int) == (l1.length : Int)) = false := beq_eq_false_iff_ne.mpr c3
  have c3b1 : ((l0.length : Int) != (l1.length : Int)) = true := bne_iff_ne.mpr c3
  have c3b2 : (l0.length == l1.length) = false := by first | simpa using c3 | (simp at c3 ⊢; omega)
  obtain rfl := Option.some.inj H
  go_enter Tryd.func81, Tryd.ntmps81
  go_wp2
  repeat (go_quiet (fail); try go_wp2)
  go_ret
  exact ⟨by first | rfl | (simp; done) | (simp [*]; done), by repeat (first | exact Drawn0.refl _ | apply Drawn0.step)⟩
/-! ### skip_Like: function 48 -/
def skip_Like.f (k : Nat) (l0 : List (S46)) (l1 : List (S46)) : Option (Bool) := (api_Item.f k l0 l1).bind fun t105 => (some t105)
theorem skip_Like.mono : ∀ a0 a1 k, LeO (skip_Like.f k a0 a1) (skip_Like.f (k + 1) a0 a1) := by
 intro a0 a1 k
 unfold skip_Like.f
 repeat' first
   | (with_reducible exact api_Item.mono _ _ _)
   | (with_reducible exact LeO.refl _)
   | (with_reducible exact LeO.none _)
   | (with_reducible refine LeO.ite ?_ ?_)
   | (with_reducible refine LeO.bind ?_ (fun _ => ?_))
   | exact api_Item.mono _ _ _
   | exact LeO.none _
   | refine LeO.ite ?_ ?_
   | refine LeO.bind ?_ (fun _ => ?_)
set_option maxHeartbeats 8000000 in
set_option maxRecDepth 100000 in
theorem skip_Like.calls (k : Nat) (A0 : Option Addr) (c0 : Nat) (l0 : List (S46)) (A1 : Option Addr) (c1 : Nat) (l1 : List (S46)) (r : Bool) (w : World) (hr0 : Kd.C k46 w A0 l0.length l0) (hc0 : l0.length ≤ c0) (hr1 : Kd.C k46 w A1 l1.length l1) (hc1 : l1.length ≤ c1) (h : skip_Like.f k l0 l1 = some r) :
  Calls Tryd.prog 48 #[.slice A0 l0.length c0, .slice A1 l1.length c1] w fun e w' => e = .returned (.bool r) ∧ Drawn0 w w' := by
 have HR0 := Aside0.mk hr0
 have HC0 := Aside0.mk hc0
 clear hr0 hc0
 have HR1 := Aside0.mk hr1
 have HC1 := Aside0.mk hc1
 clear hr1 hc1
 have H : ((api_Item.f k l0 l1).bind fun t105 => (some t105)) = some r := h
 clear h
 replace H := Option.bind_eq_some_iff.mp H
 obtain ⟨t105, A30, H⟩ := H
 (try dsimp only at H)
 have A3 := Aside0.mk A30
 clear A30
 obtain rfl := Option.some.inj H
 go_enter Tryd.func48, Tryd.ntmps48
 go_wp2_with (first | ((with_reducible refine gate_callee (f := 81) rfl ?_); refine goesL_ (some 7) rfl rfl Tryd.func81 (by kernel_rfl) rfl #[.slice A0 l0.length c0, .slice A1 l1.length c1] rfl (by (try simp only [List.map_toArray, List.map_cons, List.map_nil]); first | done | rfl | (simp only [List.length_drop, List.length_take]; rfl)) ?_; (with_reducible refine (api_Item.calls k _ _ l0 _ _ l1 t105 _ ?side1 ?side2 ?side3 ?side4 A3.out).mono ?_); (case side1 => repeat (first | exact HR0.out | (with_reducible refine Kd.C_alloc ?_ _) | (with_reducible refine Kd.C_drewN ?_ _) | (with_reducible refine Kd.C_drew ?_))); (case side2 => exact HC0.out); (case side3 => repeat (first | exact HR1.out | (with_reducible refine Kd.C_alloc ?_ _) | (with_reducible refine Kd.C_drewN ?_ _) | (with_reducible refine Kd.C_drew ?_))); (case side4 => exact HC1.out); rintro e w' ⟨rfl, ⟨nd, rfl⟩⟩; refine ⟨_, rfl, ?_⟩))
 go_ret
 exact ⟨by first | rfl | (simp; done) | (simp [*]; done), by repeat (first | exact Drawn0.refl _ | apply Drawn0.step)⟩
/-! ### saltusref16_At: function 49 -/
def saltusref16_At.l0 : Nat → Int → List (S46) → Int → Int → Option (Int)
 | 0, _, _, _, _ => none
 | k + 1, x1, x7, x8, x9 => if x9 < x8 then (if 0 ≤ x9 then (if x9 < (x7.length : Int) then (if ((rd_T46 x7 x9).f0) = x1 then (some x9) else (saltusref16_At.l0 k x1 x7 x8 (wrap64 (x9 + 1)))) else (none)) else (none)) else (some (-1))
def saltusref16_At.f (k : Nat) (l0 : List (S46)) (a1 : Int) : Option (Int) := saltusref16_At.l0 k a1 l0 (l0.length : Int) 0
theorem saltusref16_At.mono_l : ∀ k, (∀ y0 y1 y2 y3, LeO (saltusref16_At.l0 k y0 y1 y2 y3) (saltusref16_At.l0 (k + 1) y0 y1 y2 y3))
 | 0 => fun _ _ _ _ r h => by simp [saltusref16_At.l0] at h
 | k + 1 => by
  have ih0 := saltusref16_At.mono_l k
  ·intro y0 y1 y2 y3
   unfold saltusref16_At.l0
   repeat' first
   | (with_reducible exact ih0 _ _ _ _)
   | (with_reducible exact LeO.refl _)
   | (with_reducible exact LeO.none _)
   | (with_reducible refine LeO.ite ?_ ?_)
   | (with_reducible refine LeO.bind ?_ (fun _ => ?_))
   | exact ih0 _ _ _ _
   | exact LeO.none _
   | refine LeO.ite ?_ ?_
   | refine LeO.bind ?_ (fun _ => ?_)
theorem saltusref16_At.mono : ∀ a0 a1 k, LeO (saltusref16_At.f k a0 a1) (saltusref16_At.f (k + 1) a0 a1) := by
 intro a0 a1 k
 have ih0 := saltusref16_At.mono_l k
 unfold saltusref16_At.f
 repeat' first
   | (with_reducible exact ih0 _ _ _ _)
   | (with_reducible exact LeO.refl _)
   | (with_reducible exact LeO.none _)
   | (with_reducible refine LeO.ite ?_ ?_)
   | (with_reducible refine LeO.bind ?_ (fun _ => ?_))
   | exact ih0 _ _ _ _
   | exact LeO.none _
   | refine LeO.ite ?_ ?_
   | refine LeO.bind ?_ (fun _ => ?_)
set_option maxHeartbeats 8000000 in
set_option maxRecDepth 100000 in
theorem saltusref16_At.calls (k : Nat) (A0 : Option Addr) (c0 : Nat) (l0 : List (S46)) (a1 : Int) (r : Int) (w : World) (hr0 : Kd.C k46 w A0 l0.length l0) (hc0 : l0.length ≤ c0) (h : saltusref16_At.f k l0 a1 = some r) :
  Calls Tryd.prog 49 #[.slice A0 l0.length c0, .int .u64 a1] w fun e w' => e = .returned (.int .i64 r) ∧ Below w.heap.size w w' := by
 have hu46 := Tryd.underlying46
 have HR0 := Aside0.mk hr0
 have HC0 := Aside0.mk hc0
 clear hr0 hc0
 have HB := Aside0.mk (Below.refl w.heap.size w)
 have H : (saltusref16_At.l0 k a1 l0 (l0.length : Int) 0) = some r := h
 clear h
 have H' := Aside0.mk H
 clear H
 go_enter Tryd.func49, Tryd.ntmps49
 go_wp2
 go_loopg [9] k (fun kq v9 w' => ∃ (x9_1 : Int), v9 = .int .i64 x9_1 ∧ Aside0 (saltusref16_At.l0 kq a1 l0 (l0.length : Int) x9_1 = some r) ∧ Aside0 (kq ≤ k) ∧ Aside0 (Below w.heap.size w w'))
 case atStart => exact ⟨(0), (by first | rfl | (simp; done) | (simp [*]; done)), H', ⟨Nat.le_refl _⟩, ⟨by repeat (first | (with_reducible first | exact HB.out | apply below_alloc | apply pw_below_drewN | apply below_drew1) | exact HB.out)⟩⟩
 case round =>
  clear H'
  try clear p2
  obtain ⟨x9_1, rfl, HA, HK1, HB⟩ := hrel
  cases gk with
  | zero => exact absurd HA.out (by simp [saltusref16_At.l0])
  | succ k1 =>
   have H := HA.out
   clear HA
   simp only [saltusref16_At.l0] at H
   by_cases c3 : x9_1 < (l0.length : Int)
   ·rw [if_pos c3] at H
    have c3b0 : decide (x9_1 < (l0.length : Int)) = true := decide_eq_true c3
    clear c3
    by_cases c4 : 0 ≤ x9_1
    ·rw [if_pos c4] at H
     have c4b0 : decide (0 ≤ x9_1) = true := decide_eq_true c4
     clear c4
     by_cases c5 : x9_1 < (l0.length : Int)
     ·rw [if_pos c5] at H
      have c5b0 : decide (x9_1 < (l0.length : Int)) = true := decide_eq_true c5
      clear c5
      by_cases c6 : ((rd_T46 l0 x9_1).f0) = a1
      ·rw [if_pos c6] at H
       have c6b0 : (((rd_T46 l0 x9_1).f0) == a1) = true := beq_iff_eq.mpr c6
       have c6b1 : (((rd_T46 l0 x9_1).f0) != a1) = false := bne_eq_false_iff_eq.mpr c6
       clear c6
       obtain rfl := Option.some.inj H
       have p106 : 0 ≤ (x9_1 : Int) := of_decide_eq_true (by first | (with_reducible assumption) | assumption)
       have q106 : x9_1 < (l0.length : Int) := of_decide_eq_true (by first | (with_reducible assumption) | assumption)
       obtain ⟨ad106, e106, hx106_0, hx106_1⟩ := at_T46 HR0.out x9_1 p106 q106
       cases e106
       replace hx106_0 := (HB.out.cell (World.block_lt_of_cell? w _ hx106_0)).trans hx106_0
       replace hx106_1 := (HB.out.cell (World.block_lt_of_cell? w _ hx106_1)).trans hx106_1
       replace p106 := eq_true p106
       replace q106 := eq_true q106
       go_wp2_with (first | ((with_reducible refine gate_dst (N := 6) rfl ?_); refine box_event ?hg (N := 6) ?hd (cs := #[.int .u64 0, .string (⟨#[]⟩ : ByteArray)]) (t := 46) ?hr ?_; (case hd => rfl); (case hg => rfl); (case hr => first | (go_simp; done) | (go_simp; rfl)); intro gb107 hg w7 hbox hb; have n0_ := Aside0.mk (below_step (by repeat (first | (with_reducible first | exact HB.out | apply below_alloc | apply pw_below_drewN | apply below_drew1) | exact HB.out)) hb); have n1_ := Aside0.mk (hbox); have n2_ := Aside0.mk ((by rw [hg]; exact (below_size (by repeat (first | (with_reducible first | exact HB.out | apply below_alloc | apply pw_below_drewN | apply below_drew1) | exact HB.out))) : w.heap.size ≤ gb107)); have n3_ := Aside0.mk ((by rw [hg]; exact (below_size (by repeat (first | (with_reducible first | exact HB.out | apply below_alloc | apply pw_below_drewN | apply below_drew1) | exact HB.out))) : w.heap.size ≤ gb107)); clear HB; have HB := n0_; have BK107 := n1_; have GW107 := n2_; have GE107 := n3_; clear n0_ n1_ n2_ n3_; clear hb hbox hg; have hcz8_0 : w7.cell? ⟨gb107, 0, none⟩ = some (.int .u64 0) := (blk_cell BK107.out 0).trans rfl; have hcz8_1 : w7.cell? ⟨gb107, 1, none⟩ = some (.string (⟨#[]⟩ : ByteArray)) := (blk_cell BK107.out 1).trans rfl; have hfz8_0 := blk_frozen BK107.out 0; have hfz8_1 := blk_frozen BK107.out 1))
       go_ret
       exact ⟨by first | rfl | (simp [errW_none, errW_some] <;> rfl) | (simp [*, errW_none, errW_some] <;> rfl), by repeat (first | (with_reducible first | exact HB.out | apply below_alloc | apply pw_below_drewN | apply below_drew1 | refine below_set ?_ GE107.out) | exact HB.out)⟩
      ·rw [if_neg c6] at H
       have c6b0 : (((rd_T46 l0 x9_1).f0) == a1) = false := beq_eq_false_iff_ne.mpr c6
       have c6b1 : (((rd_T46 l0 x9_1).f0) != a1) = true := bne_iff_ne.mpr c6
       have H' := Aside0.mk H
       clear H
       have p106 : 0 ≤ (x9_1 : Int) := of_decide_eq_true (by first | (with_reducible assumption) | assumption)
       have q106 : x9_1 < (l0.length : Int) := of_decide_eq_true (by first | (with_reducible assumption) | assumption)
       obtain ⟨ad106, e106, hx106_0, hx106_1⟩ := at_T46 HR0.out x9_1 p106 q106
       cases e106
       replace hx106_0 := (HB.out.cell (World.block_lt_of_cell? w _ hx106_0)).trans hx106_0
       replace hx106_1 := (HB.out.cell (World.block_lt_of_cell? w _ hx106_1)).trans hx106_1
       replace p106 := eq_true p106
       replace q106 := eq_true q106
       go_wp2_with (first | ((with_reducible refine gate_dst (N := 6) rfl ?_); refine box_event ?hg (N := 6) ?hd (cs := #[.int .u64 0, .string (⟨#[]⟩ : ByteArray)]) (t := 46) ?hr ?_; (case hd => rfl); (case hg => rfl); (case hr => first | (go_simp; done) | (go_simp; rfl)); intro gb107 hg w9 hbox hb; have n0_ := Aside0.mk (below_step (by repeat (first | (with_reducible first | exact HB.out | apply below_alloc | apply pw_below_drewN | apply below_drew1) | exact HB.out)) hb); have n1_ := Aside0.mk (hbox); have n2_ := Aside0.mk ((by rw [hg]; exact (below_size (by repeat (first | (with_reducible first | exact HB.out | apply below_alloc | apply pw_below_drewN | apply below_drew1) | exact HB.out))) : w.heap.size ≤ gb107)); have n3_ := Aside0.mk ((by rw [hg]; exact (below_size (by repeat (first | (with_reducible first | exact HB.out | apply below_alloc | apply pw_below_drewN | apply below_drew1) | exact HB.out))) : w.heap.size ≤ gb107)); clear HB; have HB := n0_; have BK107 := n1_; have GW107 := n2_; have GE107 := n3_; clear n0_ n1_ n2_ n3_; clear hb hbox hg; have hcz10_0 : w9.cell? ⟨gb107, 0, none⟩ = some (.int .u64 0) := (blk_cell BK107.out 0).trans rfl; have hcz10_1 : w9.cell? ⟨gb107, 1, none⟩ = some (.string (⟨#[]⟩ : ByteArray)) := (blk_cell BK107.out 1).trans rfl; have hfz10_0 := blk_frozen BK107.out 0; have hfz10_1 := blk_frozen BK107.out 1))
       go_roundg k1
       case measure => have := HK1.out; omega
       case rel => exact ⟨(wrap64 (x9_1 + 1)), (by first | rfl | (simp; done) | (simp [*]; done)), H', ⟨by have := HK1.out; omega⟩, ⟨by repeat (first | (with_reducible first | exact HB.out | apply below_alloc | apply pw_below_drewN | apply below_drew1 | refine below_set ?_ GE107.out) | exact HB.out)⟩⟩
     ·rw [if_neg c5] at H
      exact absurd H (by simp)
    ·rw [if_neg c4] at H
     exact absurd H (by simp)
   ·rw [if_neg c3] at H
    have c3b0 : decide (x9_1 < (l0.length : Int)) = false := decide_eq_false c3
    clear c3
    obtain rfl := Option.some.inj H
    go_wp2
    go_ret
    exact ⟨by first | rfl | (simp [errW_none, errW_some] <;> rfl) | (simp [*, errW_none, errW_some] <;> rfl), by repeat (first | (with_reducible first | exact HB.out | apply below_alloc | apply pw_below_drewN | apply below_drew1) | exact HB.out)⟩
/-! ### saltusref16_Drop: function 50 -/
def saltusref16_Drop.l0 : Nat → Int → List (S46) → List (S46) → Int → Int → Option ((List (S46)))
 | 0, _, _, _, _, _ => none
 | k + 1, x1, x5, x9, x10, x11 => if x11 < x10 then (if 0 ≤ x11 then (if x11 < (x9.length : Int) then (if ((rd_T46 x9 x11).f0) = x1 then (saltusref16_Drop.l0 k x1 x5 x9 x10 (wrap64 (x11 + 1))) else (if x5.length < 5864062014805 then (saltusref16_Drop.l0 k x1 (x5 ++ [(⟨(rd_T46 x9 x11).f0, (rd_T46 x9 x11).f1⟩ : S46)]) x9 x10 (wrap64 (x11 + 1))) else (none))) else (none)) else (none)) else (some x5)
def saltusref16_Drop.f (k : Nat) (l0 : List (S46)) (a1 : Int) : Option ((List (S46))) := saltusref16_Drop.l0 k a1 (([] : List (S46))) l0 (l0.length : Int) 0
theorem saltusref16_Drop.mono_l : ∀ k, (∀ y0 y1 y2 y3 y4, LeO (saltusref16_Drop.l0 k y0 y1 y2 y3 y4) (saltusref16_Drop.l0 (k + 1) y0 y1 y2 y3 y4))
 | 0 => fun _ _ _ _ _ r h => by simp [saltusref16_Drop.l0] at h
 | k + 1 => by
  have ih0 := saltusref16_Drop.mono_l k
  ·intro y0 y1 y2 y3 y4
   unfold saltusref16_Drop.l0
   repeat' first
   | (with_reducible exact ih0 _ _ _ _ _)
   | (with_reducible exact LeO.refl _)
   | (with_reducible exact LeO.none _)
   | (with_reducible refine LeO.ite ?_ ?_)
   | (with_reducible refine LeO.bind ?_ (fun _ => ?_))
   | exact ih0 _ _ _ _ _
   | exact LeO.none _
   | refine LeO.ite ?_ ?_
   | refine LeO.bind ?_ (fun _ => ?_)
theorem saltusref16_Drop.mono : ∀ a0 a1 k, LeO (saltusref16_Drop.f k a0 a1) (saltusref16_Drop.f (k + 1) a0 a1) := by
 intro a0 a1 k
 have ih0 := saltusref16_Drop.mono_l k
 unfold saltusref16_Drop.f
 repeat' first
   | (with_reducible exact ih0 _ _ _ _ _)
   | (with_reducible exact LeO.refl _)
   | (with_reducible exact LeO.none _)
   | (with_reducible refine LeO.ite ?_ ?_)
   | (with_reducible refine LeO.bind ?_ (fun _ => ?_))
   | exact ih0 _ _ _ _ _
   | exact LeO.none _
   | refine LeO.ite ?_ ?_
   | refine LeO.bind ?_ (fun _ => ?_)
set_option maxHeartbeats 8000000 in
set_option maxRecDepth 100000 in
theorem saltusref16_Drop.calls (k : Nat) (A0 : Option Addr) (c0 : Nat) (l0 : List (S46)) (a1 : Int) (r : List (S46)) (w : World) (hr0 : Kd.C k46 w A0 l0.length l0) (hc0 : l0.length ≤ c0) (h : saltusref16_Drop.f k l0 a1 = some r) :
  Calls Tryd.prog 50 #[.slice A0 l0.length c0, .int .u64 a1] w fun e w' => ∃ v0_ : Value, e = .returned (v0_) ∧ Kd.R k46 46 w' w.heap.size (fun _ => True) v0_ r ∧ Below w.heap.size w w' := by
 have hu46 := Tryd.underlying46
 have HR0 := Aside0.mk hr0
 have HC0 := Aside0.mk hc0
 clear hr0 hc0
 have HB := Aside0.mk (Below.refl w.heap.size w)
 have H : (saltusref16_Drop.l0 k a1 (([] : List (S46))) l0 (l0.length : Int) 0) = some r := h
 clear h
 obtain ⟨y108, hy108⟩ : ∃ y_ : List (S46), y_ = (([] : List (S46))) := ⟨_, rfl⟩
 replace H : (saltusref16_Drop.l0 k a1 y108 l0 (l0.length : Int) 0) = some r := by first | (rw [hy108]; with_reducible exact H) | (have H2_ := (Option.bind_some _ _).symm.trans H; rw [hy108]; with_reducible exact H2_) | (have H2_ := (Option.bind_some _ _).symm.trans H; with_reducible exact H2_) | with_reducible exact H | (rw [hy108]; exact H) | exact H
 have Ny108 := Aside0.mk hy108
 clear hy108
 have H' := Aside0.mk H
 clear H
 go_enter Tryd.func50, Tryd.ntmps50
 go_wp2_with (first | ((with_reducible refine gate_dst (N := 8) rfl ?_); refine Kd.R_lit k46 _ 46 ?hg (N := 8) ?hd (xs := ([] : List (S46))) (inner := []) (ok := fun _ => True) (okp := fun _ => True) ?hr ?hp (fun _ hk => hk) trivial (Below.refl _ _) (Nat.le_refl _) (by simp) ?_; (case hd => rfl); (case hg => rfl); (case hr => first | (go_simp; done) | (go_simp; rfl)); (case hp => exact (Reps.none _ _)); intro v109 w3 ho4 hb hg_ hnew_; clear hg_ hnew_; (first | rw [← Ny108.out] at ho4 | (simp only [Int.reduceToNat] at ho4; rw [← Ny108.out] at ho4)); have n0_ := Aside0.mk (Kd.R_lower ho4 (below_size (by repeat (first | (with_reducible first | exact HB.out | apply below_alloc | apply pw_below_drewN | apply below_drew1) | exact HB.out)))); have n1_ := Aside0.mk (below_step (by repeat (first | (with_reducible first | exact HB.out | apply below_alloc | apply pw_below_drewN | apply below_drew1) | exact HB.out)) hb); clear HB; have HO110 := n0_; have HB := n1_; clear n0_ n1_; clear hb ho4))
 go_loopg [5, 11] k (fun kq v5 v11 w' => ∃ (x5_1 : List (S46)) (x11_1 : Int), v11 = .int .i64 x11_1 ∧ Aside0 (saltusref16_Drop.l0 kq a1 x5_1 l0 (l0.length : Int) x11_1 = some r) ∧ Aside0 (kq ≤ k) ∧ Aside0 (Kd.R k46 46 w' w.heap.size (fun _ => True) v5 x5_1) ∧ Aside0 (Below w.heap.size w w'))
 case atStart => exact ⟨(y108), (0), (by first | rfl | (simp; done) | (simp [*]; done)), H', ⟨Nat.le_refl _⟩, ⟨by (with_reducible repeat (first | apply Kd.R_alloc | apply Kd.R_drewN | apply Kd.R_drew)); exact HO110.out⟩, ⟨by repeat (first | (with_reducible first | exact HB.out | apply below_alloc | apply pw_below_drewN | apply below_drew1) | exact HB.out)⟩⟩
 case round =>
  clear H'
  try clear p2
  obtain ⟨x5_1, x11_1, rfl, HA, HK1, HO_5, HB⟩ := hrel
  cases gk with
  | zero => exact absurd HA.out (by simp [saltusref16_Drop.l0])
  | succ k1 =>
   have H := HA.out
   clear HA
   simp only [saltusref16_Drop.l0] at H
   by_cases c5 : x11_1 < (l0.length : Int)
   ·rw [if_pos c5] at H
    have c5b0 : decide (x11_1 < (l0.length : Int)) = true := decide_eq_true c5
    clear c5
    by_cases c6 : 0 ≤ x11_1
    ·rw [if_pos c6] at H
     have c6b0 : decide (0 ≤ x11_1) = true := decide_eq_true c6
     clear c6
     by_cases c7 : x11_1 < (l0.length : Int)
     ·rw [if_pos c7] at H
      have c7b0 : decide (x11_1 < (l0.length : Int)) = true := decide_eq_true c7
      clear c7
      by_cases c8 : ((rd_T46 l0 x11_1).f0) = a1
      ·rw [if_pos c8] at H
       have c8b0 : (((rd_T46 l0 x11_1).f0) == a1) = true := beq_iff_eq.mpr c8
       have c8b1 : (((rd_T46 l0 x11_1).f0) != a1) = false := bne_eq_false_iff_eq.mpr c8
       clear c8
       have H' := Aside0.mk H
       clear H
       have p111 : 0 ≤ (x11_1 : Int) := of_decide_eq_true (by first | (with_reducible assumption) | assumption)
       have q111 : x11_1 < (l0.length : Int) := of_decide_eq_true (by first | (with_reducible assumption) | assumption)
       obtain ⟨ad111, e111, hx111_0, hx111_1⟩ := at_T46 HR0.out x11_1 p111 q111
       cases e111
       replace hx111_0 := (HB.out.cell (World.block_lt_of_cell? w _ hx111_0)).trans hx111_0
       replace hx111_1 := (HB.out.cell (World.block_lt_of_cell? w _ hx111_1)).trans hx111_1
       replace p111 := eq_true p111
       replace q111 := eq_true q111
       go_wp2_with (first | ((with_reducible refine gate_dst (N := 7) rfl ?_); refine box_event ?hg (N := 7) ?hd (cs := #[.int .u64 0, .string (⟨#[]⟩ : ByteArray)]) (t := 46) ?hr ?_; (case hd => rfl); (case hg => rfl); (case hr => first | (go_simp; done) | (go_simp; rfl)); intro gb112 hg w9 hbox hb; have n0_ := Aside0.mk (Kd.R_below (Kd.R_elderB (by (with_reducible repeat (first | apply Kd.R_alloc | apply Kd.R_drewN | apply Kd.R_drew)); exact HO_5.out) gb112 (Nat.le_of_eq hg.symm)) hb); have n1_ := Aside0.mk (below_step (by repeat (first | (with_reducible first | exact HB.out | apply below_alloc | apply pw_below_drewN | apply below_drew1) | exact HB.out)) hb); have n2_ := Aside0.mk (hbox); have n3_ := Aside0.mk ((by rw [hg]; exact (below_size (by repeat (first | (with_reducible first | exact HB.out | apply below_alloc | apply pw_below_drewN | apply below_drew1) | exact HB.out))) : w.heap.size ≤ gb112)); have n4_ := Aside0.mk ((by rw [hg]; exact (below_size (by repeat (first | (with_reducible first | exact HB.out | apply below_alloc | apply pw_below_drewN | apply below_drew1) | exact HB.out))) : w.heap.size ≤ gb112)); clear HO_5; clear HB; have HO_5 := n0_; have HB := n1_; have BK112 := n2_; have GW112 := n3_; have GE112 := n4_; clear n0_ n1_ n2_ n3_ n4_; clear hb hbox hg; have hcz10_0 : w9.cell? ⟨gb112, 0, none⟩ = some (.int .u64 0) := (blk_cell BK112.out 0).trans rfl; have hcz10_1 : w9.cell? ⟨gb112, 1, none⟩ = some (.string (⟨#[]⟩ : ByteArray)) := (blk_cell BK112.out 1).trans rfl; have hfz10_0 := blk_frozen BK112.out 0; have hfz10_1 := blk_frozen BK112.out 1))
       go_roundg k1
       case measure => have := HK1.out; omega
       case rel => exact ⟨(x5_1), (wrap64 (x11_1 + 1)), (by first | rfl | (simp; done) | (simp [*]; done)), H', ⟨by have := HK1.out; omega⟩, ⟨by (with_reducible repeat (first | apply Kd.R_alloc | apply Kd.R_drewN | apply Kd.R_drew)); exact Kd.R_mono (Kd.R_far (p := ⟨gb112, 1, none⟩) (Kd.R_far (p := ⟨gb112, 0, none⟩) (Kd.R_mono HO_5.out (fun k_ hk => (⟨hk, hk.2⟩ : _ ∧ k_ ≠ gb112))) (fun _ hk => hk.2) (.int .u64 ((rd_T46 l0 x11_1).f0))) (fun _ hk => hk.2) (.string ((rd_T46 l0 x11_1).f1))) (fun _ hk => trivial)⟩, ⟨by repeat (first | (with_reducible first | exact HB.out | apply below_alloc | apply pw_below_drewN | apply below_drew1 | refine below_set ?_ GE112.out) | exact HB.out)⟩⟩
      ·rw [if_neg c8] at H
       have c8b0 : (((rd_T46 l0 x11_1).f0) == a1) = false := beq_eq_false_iff_ne.mpr c8
       have c8b1 : (((rd_T46 l0 x11_1).f0) != a1) = true := bne_iff_ne.mpr c8
       by_cases c11 : x5_1.length < 5864062014805
       ·rw [if_pos c11] at H
        have LMc11 := Aside0.mk c11
        clear c11
        obtain ⟨y113, hy113⟩ : ∃ y_ : List (S46), y_ = (x5_1 ++ [(⟨(rd_T46 l0 x11_1).f0, (rd_T46 l0 x11_1).f1⟩ : S46)]) := ⟨_, rfl⟩
        replace H : (saltusref16_Drop.l0 k1 a1 y113 l0 (l0.length : Int) (wrap64 (x11_1 + 1))) = some r := by first | (rw [hy113]; with_reducible exact H) | (have H2_ := (Option.bind_some _ _).symm.trans H; rw [hy113]; with_reducible exact H2_) | (have H2_ := (Option.bind_some _ _).symm.trans H; with_reducible exact H2_) | with_reducible exact H | (rw [hy113]; exact H) | exact H
        have Ny113 := Aside0.mk hy113
        clear hy113
        have H' := Aside0.mk H
        clear H
        have p111 : 0 ≤ (x11_1 : Int) := of_decide_eq_true (by first | (with_reducible assumption) | assumption)
        have q111 : x11_1 < (l0.length : Int) := of_decide_eq_true (by first | (with_reducible assumption) | assumption)
        obtain ⟨ad111, e111, hx111_0, hx111_1⟩ := at_T46 HR0.out x11_1 p111 q111
        cases e111
        replace hx111_0 := (HB.out.cell (World.block_lt_of_cell? w _ hx111_0)).trans hx111_0
        replace hx111_1 := (HB.out.cell (World.block_lt_of_cell? w _ hx111_1)).trans hx111_1
        replace p111 := eq_true p111
        replace q111 := eq_true q111
        go_wp2_with (first | ((with_reducible refine gate_dst (N := 7) rfl ?_); refine box_event ?hg (N := 7) ?hd (cs := #[.int .u64 0, .string (⟨#[]⟩ : ByteArray)]) (t := 46) ?hr ?_; (case hd => rfl); (case hg => rfl); (case hr => first | (go_simp; done) | (go_simp; rfl)); intro gb112 hg w12 hbox hb; have n0_ := Aside0.mk (Kd.R_below (Kd.R_elderB (by (with_reducible repeat (first | apply Kd.R_alloc | apply Kd.R_drewN | apply Kd.R_drew)); exact HO_5.out) gb112 (Nat.le_of_eq hg.symm)) hb); have n1_ := Aside0.mk (below_step (by repeat (first | (with_reducible first | exact HB.out | apply below_alloc | apply pw_below_drewN | apply below_drew1) | exact HB.out)) hb); have n2_ := Aside0.mk (hbox); have n3_ := Aside0.mk ((by rw [hg]; exact (below_size (by repeat (first | (with_reducible first | exact HB.out | apply below_alloc | apply pw_below_drewN | apply below_drew1) | exact HB.out))) : w.heap.size ≤ gb112)); have n4_ := Aside0.mk ((by rw [hg]; exact (below_size (by repeat (first | (with_reducible first | exact HB.out | apply below_alloc | apply pw_below_drewN | apply below_drew1) | exact HB.out))) : w.heap.size ≤ gb112)); clear HO_5; clear HB; have HO_5 := n0_; have HB := n1_; have BK112 := n2_; have GW112 := n3_; have GE112 := n4_; clear n0_ n1_ n2_ n3_ n4_; clear hb hbox hg; have hcz13_0 : w12.cell? ⟨gb112, 0, none⟩ = some (.int .u64 0) := (blk_cell BK112.out 0).trans rfl; have hcz13_1 : w12.cell? ⟨gb112, 1, none⟩ = some (.string (⟨#[]⟩ : ByteArray)) := (blk_cell BK112.out 1).trans rfl; have hfz13_0 := blk_frozen BK112.out 0; have hfz13_1 := blk_frozen BK112.out 1) | ((with_reducible refine gate_builtin (b := .append) (xs := #[.tmp 19, .tmp 21]) rfl ?_); at_builtin; refine Kd.R_append k46 (w0 := w) w.heap.size rfl (.tmp 19) (.tmp 21) 36 46 (.agg #[(.int .u64 0), (.string ⟨#[]⟩)]) 24 rfl Tryd.underlying36 info46 rfl (by decide) (by omega) u5 x5_1 (⟨(rd_T46 l0 x11_1).f0, (rd_T46 l0 x11_1).f1⟩ : S46) [.int .u64 ((rd_T46 l0 x11_1).f0), .string ((rd_T46 l0 x11_1).f1)] (fun k_ => k_ ≠ gb112) (fun _ => False) rfl (by first | (go_simp; done) | (go_simp; rfl)) ?aP (fun _ hk => hk.elim) ?aF ?aO ?aB ?aS ?aL ?_; (case aP => exact k46_mkM _ _ _ (⟨(rd_T46 l0 x11_1).f0, (rd_T46 l0 x11_1).f1⟩ : S46)); (case aB => exact (by repeat (first | (with_reducible first | exact HB.out | apply below_alloc | apply pw_below_drewN | apply below_drew1 | refine below_set ?_ GE112.out) | exact HB.out))); (case aF => exact (fun k_ hk => Kd.freshB (g := gb112) (o := .cells #[.int .u64 ((rd_T46 l0 x11_1).f0), .string ((rd_T46 l0 x11_1).f1)] 46 (0, 0)) (by (with_reducible repeat (first | refine blk_drewN ?_ _ | refine blk_drew ?_ | refine blk_alloc ?_ _)); refine blk_put (cs := #[.int .u64 ((rd_T46 l0 x11_1).f0), .string (⟨#[]⟩ : ByteArray)]) ?_ 1 _ rfl; (with_reducible repeat (first | refine blk_drewN ?_ _ | refine blk_drew ?_ | refine blk_alloc ?_ _)); refine blk_put (cs := #[.int .u64 0, .string (⟨#[]⟩ : ByteArray)]) ?_ 0 _ rfl; (with_reducible repeat (first | refine blk_drewN ?_ _ | refine blk_drew ?_ | refine blk_alloc ?_ _)); exact BK112.out) k_ hk)); (case aO => exact (by (with_reducible repeat (first | apply Kd.R_alloc | apply Kd.R_drewN | apply Kd.R_drew)); exact Kd.R_mono (Kd.R_far (p := ⟨gb112, 1, none⟩) (Kd.R_far (p := ⟨gb112, 0, none⟩) (Kd.R_mono HO_5.out (fun k_ hk => (⟨hk, hk.2⟩ : _ ∧ k_ ≠ gb112))) (fun _ hk => hk.2) (.int .u64 ((rd_T46 l0 x11_1).f0))) (fun _ hk => hk.2) (.string ((rd_T46 l0 x11_1).f1))) (fun _ hk => hk.1.2))); (case aS => exact (below_size (by repeat (first | (with_reducible first | exact HB.out | apply below_alloc | apply pw_below_drewN | apply below_drew1 | refine below_set ?_ GE112.out) | exact HB.out)))); (case aL => have := LMc11.out; omega); intro v114 w14 ho hb hg hat; rw [← Ny113.out] at ho; have n0_ := Aside0.mk (blk_grown (g := gb112) (o := .cells #[.int .u64 ((rd_T46 l0 x11_1).f0), .string ((rd_T46 l0 x11_1).f1)] 46 (0, 0)) (by (with_reducible repeat (first | refine blk_drewN ?_ _ | refine blk_drew ?_ | refine blk_alloc ?_ _)); refine blk_put (cs := #[.int .u64 ((rd_T46 l0 x11_1).f0), .string (⟨#[]⟩ : ByteArray)]) ?_ 1 _ rfl; (with_reducible repeat (first | refine blk_drewN ?_ _ | refine blk_drew ?_ | refine blk_alloc ?_ _)); refine blk_put (cs := #[.int .u64 0, .string (⟨#[]⟩ : ByteArray)]) ?_ 0 _ rfl; (with_reducible repeat (first | refine blk_drewN ?_ _ | refine blk_drew ?_ | refine blk_alloc ?_ _)); exact BK112.out) hg (Kd.R_away HO_5.out (fun _ hk => hk.2))); have n1_ := Aside0.mk (hb); have n2_ := Aside0.mk (ho); clear BK112; clear HB; clear HO_5; have BK112 := n0_; have HB := n1_; have HO115 := n2_; clear n0_ n1_ n2_; clear ho hb hg hat))
        go_roundg k1
        case measure => have := HK1.out; omega
        case rel => exact ⟨(y113), (wrap64 (x11_1 + 1)), (by first | rfl | (simp; done) | (simp [*]; done)), H', ⟨by have := HK1.out; omega⟩, ⟨by (with_reducible repeat (first | apply Kd.R_alloc | apply Kd.R_drewN | apply Kd.R_drew)); exact Kd.R_mono HO115.out (fun _ hk => trivial)⟩, ⟨by repeat (first | (with_reducible first | exact HB.out | apply below_alloc | apply pw_below_drewN | apply below_drew1 | refine below_set ?_ GE112.out) | exact HB.out)⟩⟩
       ·rw [if_neg c11] at H
        exact absurd H (by simp)
     ·rw [if_neg c7] at H
      exact absurd H (by simp)
    ·rw [if_neg c6] at H
     exact absurd H (by simp)
   ·rw [if_neg c5] at H
    have c5b0 : decide (x11_1 < (l0.length : Int)) = false := decide_eq_false c5
    clear c5
    obtain rfl := Option.some.inj H
    go_wp2
    go_ret
    exact ⟨_, by first | rfl | (simp [errW_none, errW_some] <;> rfl) | (simp [*, errW_none, errW_some] <;> rfl), by (with_reducible repeat (first | apply Kd.R_alloc | apply Kd.R_drewN | apply Kd.R_drew)); exact HO_5.out, by repeat (first | (with_reducible first | exact HB.out | apply below_alloc | apply pw_below_drewN | apply below_drew1) | exact HB.out)⟩
end Go.Proofs.YtolbhliepkcihaaDoor.QSQ
end
section
namespace Go.Proofs.YtolbhliepkcihaaDoor.SkipOps
open Go.RowKit Go.Proofs.YtolbhliepkcihaaDoor.Kinds Go.Proofs.YtolbhliepkcihaaDoor.QSF Go.Proofs.YtolbhliepkcihaaDoorW.PrintWords Go.Proofs.YtolbhliepkcihaaDoorW.PrintLast Go.Proofs.YtolbhliepkcihaaDoorW.PrintMore Go.Proofs.YtolbhliepkcihaaDoor.Sha Go.Proofs.YtolbhliepkcihaaDoor.Mac Go.Proofs.YtolbhliepkcihaaDoor.Codec Go.Proofs.YtolbhliepkcihaaDoor.Tower Go.Proofs.YtolbhliepkcihaaDoor.Skip Go.Proofs.YtolbhliepkcihaaDoor.SkipPure
abbrev It := S46
def Asc (l : List It) : Prop := l.Pairwise fun a b => a.f0 < b.f0
def has (l : List It) (q : Int) : Bool := l.any fun y => y.f0 == q
def insF (l : List It) (x : It) : List It := l.filter (fun y => decide (y.f0 < x.f0)) ++ [x] ++ l.filter (fun y => decide (x.f0 < y.f0))
def delF (l : List It) (q : Int) : List It := l.filter fun y => !(y.f0 == q)
theorem right_iff (l : List It) : RightP l ↔ Asc l ∧ (∀ y, y ∈ l → y.f1.size ≤ 64) ∧ l.length ≤ 64 := by
 constructor
 ·rintro ⟨h1, h2⟩
  refine ⟨?_, fun y hy => ?_, h2⟩
  ·refine List.pairwise_iff_getElem.2 fun i j hi hj hij => ?_
   have := asc l l.length h1 j i hij hj
   unfold ky at this
   rwa [it_mem l i hi, it_mem l j hj] at this
  ·obtain ⟨i, hi, rfl⟩ := List.mem_iff_getElem.1 hy
   have := (h1 i hi).1
   rwa [it_mem l i hi] at this
 ·rintro ⟨h1, h2, h3⟩
  refine ⟨fun i hi => ⟨?_, fun h0 => ?_⟩, h3⟩
  ·rw [it_mem l i hi]; exact h2 _ (List.getElem_mem _)
  ·unfold ky
   rw [it_mem l i hi, it_mem l (i - 1) (by omega)]
   exact List.pairwise_iff_getElem.1 h1 (i - 1) i (by omega) hi (by omega)
theorem has_iff (l : List It) (q : Int) : has l q = true ↔ ∃ y, y ∈ l ∧ y.f0 = q := by
 unfold has
 rw [List.any_eq_true]
 constructor
 ·rintro ⟨y, hy, e⟩; exact ⟨y, hy, by simpa using e⟩
 ·rintro ⟨y, hy, e⟩; exact ⟨y, hy, by simpa using e⟩
theorem not_has (l : List It) (q : Int) (h : has l q = false) (y : It) (hy : y ∈ l) : y.f0 ≠ q := by
 intro e
 have := (has_iff l q).2 ⟨y, hy, e⟩
 rw [h] at this
 cases this
/-! ### where the search by halves ends -/
theorem bs_spec (l : List It) (ha : Asc l) (q : Int) : ∀ (f i j : Nat), i ≤ j → j ≤ l.length → j - i ≤ f → (∀ a, a < i → ky l a < q) → (∀ a, j ≤ a → a < l.length → ¬ky l a < q) →
  (∀ a, a < bsI l q f i j → ky l a < q) ∧ (∀ a, bsI l q f i j ≤ a → a < l.length → ¬ky l a < q)
 | 0, i, j, hij, hj, hf, h1, h2 => by
  obtain rfl : i = j := by omega
  exact ⟨h1, h2⟩
 | f + 1, i, j, hij, hj, hf, h1, h2 => by
  have up : ∀ a b, a < b → b < l.length → ky l a < ky l b := fun a b hab hb => by
   unfold ky
   rw [it_mem l a (by omega), it_mem l b hb]
   exact List.pairwise_iff_getElem.1 ha a b (by omega) hb hab
  unfold bsI
  by_cases c : i < j
  ·rw [if_pos c]
   by_cases d : (rd_T46 l (((i + j) / 2 : Nat) : Int)).f0 < q
   ·rw [if_pos d]
    refine bs_spec l ha q f _ _ (by omega) hj (by omega) (fun a ha2 => ?_) h2
    by_cases e : a = (i + j) / 2
    ·subst e; exact d
    ·exact Int.lt_trans (up a ((i + j) / 2) (by omega) (by omega)) d
   ·rw [if_neg d]
    refine bs_spec l ha q f _ _ (by omega) (by omega) (by omega) h1 (fun a ha1 ha2 => ?_)
    by_cases e : a = (i + j) / 2
    ·subst e; exact d
    ·have := up ((i + j) / 2) a (by omega) ha2
     have d' : ¬ky l ((i + j) / 2) < q := d
     omega
  ·rw [if_neg c]
   obtain rfl : i = j := by omega
   exact ⟨h1, h2⟩
theorem place_spec (l : List It) (ha : Asc l) (q : Int) : (∀ a, a < placeN l q → ky l a < q) ∧ (∀ a, placeN l q ≤ a → a < l.length → ¬ky l a < q) :=
 bs_spec l ha q l.length 0 l.length (by omega) (Nat.le_refl _) (by omega) (fun a h => by omega) (fun a h1 h2 => by omega)
theorem take_lt (l : List It) (n : Nat) (q : Int) (h : ∀ a, a < n → ky l a < q) (y : It) (hy : y ∈ l.take n) : y.f0 < q := by
 obtain ⟨i, hi, rfl⟩ := List.mem_iff_getElem.1 hy
 rw [List.length_take] at hi
 have := h i (by omega)
 unfold ky at this
 rw [it_mem l i (by omega)] at this
 rwa [List.getElem_take]
theorem drop_ge (l : List It) (n : Nat) (q : Int) (h : ∀ a, n ≤ a → a < l.length → ¬ky l a < q) (y : It) (hy : y ∈ l.drop n) : ¬y.f0 < q := by
 obtain ⟨i, hi, rfl⟩ := List.mem_iff_getElem.1 hy
 rw [List.length_drop] at hi
 have := h (n + i) (by omega) (by omega)
 unfold ky at this
 rw [it_mem l (n + i) (by omega)] at this
 rwa [List.getElem_drop]
theorem place_take (l : List It) (ha : Asc l) (q : Int) : l.take (placeN l q) = l.filter fun y => decide (y.f0 < q) := by
 obtain ⟨h1, h2⟩ := place_spec l ha q
 conv => rhs; rw [← List.take_append_drop (placeN l q) l]
 rw [List.filter_append, List.filter_eq_self.2 (fun y hy => decide_eq_true (take_lt l _ q h1 y hy)), List.filter_eq_nil_iff.2 (fun y hy => by simpa using drop_ge l _ q h2 y hy), List.append_nil]
theorem place_is (l : List It) (ha : Asc l) (q : Int) : placeIs l q = has l q := by
 obtain ⟨h1, h2⟩ := place_spec l ha q
 rw [Bool.eq_iff_iff, has_iff]
 unfold placeIs
 rw [decide_eq_true_iff]
 constructor
 ·rintro ⟨h3, h4⟩
  exact ⟨it l (placeN l q), by rw [it_mem l _ h3]; exact List.getElem_mem _, h4⟩
 ·rintro ⟨y, hy, e⟩
  obtain ⟨i, hi, rfl⟩ := List.mem_iff_getElem.1 hy
  have hk : ky l i = q := by unfold ky; rw [it_mem l i hi]; exact e
  have hn : placeN l q ≤ i := by
   rcases Nat.lt_or_ge i (placeN l q) with h | h
   ·have := h1 i h; omega
   ·exact h
  refine ⟨by omega, ?_⟩
  show ky l (placeN l q) = q
  by_cases hin : placeN l q = i
  ·rw [hin]; exact hk
  ·have h5 := h2 (placeN l q) (Nat.le_refl _) (by omega)
   have h6 : ky l (placeN l q) < ky l i := by
    unfold ky
    rw [it_mem l i hi, it_mem l (placeN l q) (by omega)]
    exact List.pairwise_iff_getElem.1 ha _ i (by omega) hi (by omega)
   omega
theorem place_drop_no (l : List It) (ha : Asc l) (q : Int) (h : has l q = false) : l.drop (placeN l q) = l.filter fun y => decide (q < y.f0) := by
 obtain ⟨h1, h2⟩ := place_spec l ha q
 conv => rhs; rw [← List.take_append_drop (placeN l q) l]
 rw [List.filter_append, List.filter_eq_nil_iff.2 (fun y hy => by have := take_lt l _ q h1 y hy; simp; omega), List.nil_append, List.filter_eq_self.2]
 intro y hy
 have h3 := drop_ge l _ q h2 y hy
 have h4 := not_has l q h y (List.mem_of_mem_drop hy)
 exact decide_eq_true (by omega)
theorem place_drop_yes (l : List It) (ha : Asc l) (q : Int) (h : has l q = true) : placeN l q < l.length ∧ l.drop (placeN l q + 1) = l.filter fun y => decide (q < y.f0) := by
 have h0 := place_is l ha q
 rw [h] at h0
 unfold placeIs at h0
 rw [decide_eq_true_iff] at h0
 obtain ⟨h3, h4⟩ := h0
 obtain ⟨h1, h2⟩ := place_spec l ha q
 refine ⟨h3, ?_⟩
 have e : l.drop (placeN l q) = l[placeN l q] :: l.drop (placeN l q + 1) := List.drop_eq_getElem_cons h3
 have h5 : l[placeN l q].f0 = q := by rw [← it_mem l _ h3]; exact h4
 conv => rhs; rw [← List.take_append_drop (placeN l q) l, e]
 rw [List.filter_append, List.filter_eq_nil_iff.2 (fun y hy => by have := take_lt l _ q h1 y hy; simp; omega), List.nil_append, List.filter_cons_of_neg (by simp; omega), List.filter_eq_self.2]
 intro y hy
 have hp := List.pairwise_cons.1 (e ▸ (List.Pairwise.drop ha : (l.drop (placeN l q)).Pairwise _))
 have := hp.1 y hy
 exact decide_eq_true (by omega)
/-! ### put and drop -/
theorem put_yes (l : List It) (ha : Asc l) (x : It) (h : has l x.f0 = true) : l.take (placeN l x.f0) ++ [x] ++ l.drop (placeN l x.f0 + 1) = insF l x := by
 rw [place_take l ha, (place_drop_yes l ha _ h).2]; rfl
theorem put_no (l : List It) (ha : Asc l) (x : It) (h : has l x.f0 = false) : l.take (placeN l x.f0) ++ [x] ++ l.drop (placeN l x.f0) = insF l x := by
 rw [place_take l ha, place_drop_no l ha _ h]; rfl
theorem del_split (l : List It) (ha : Asc l) (q : Int) : delF l q = l.filter (fun y => decide (y.f0 < q)) ++ l.filter (fun y => decide (q < y.f0)) := by
 induction l with
 | nil => rfl
 | cons x l ih =>
  obtain ⟨hx, hl⟩ := List.pairwise_cons.1 ha
  have ih := ih hl
  unfold delF at ih ⊢
  by_cases h1 : x.f0 < q
  ·rw [List.filter_cons_of_pos (by simp; omega), List.filter_cons_of_pos (by simpa using h1), List.filter_cons_of_neg (by simp; omega), ih]; rfl
  ·have hz : l.filter (fun y => decide (y.f0 < q)) = [] := List.filter_eq_nil_iff.2 (fun y hy => by have := hx y hy; simp; omega)
   by_cases h2 : q < x.f0
   ·rw [List.filter_cons_of_pos (by simp; omega), List.filter_cons_of_neg (by simpa using h1), List.filter_cons_of_pos (by simpa using h2), ih, hz]; rfl
   ·rw [List.filter_cons_of_neg (by simp; omega), List.filter_cons_of_neg (by simpa using h1), List.filter_cons_of_neg (by simpa using h2), ih]
theorem drop_yes (l : List It) (ha : Asc l) (q : Int) (h : has l q = true) : l.take (placeN l q) ++ l.drop (placeN l q + 1) = delF l q := by
 rw [place_take l ha, (place_drop_yes l ha _ h).2, del_split l ha]
theorem ins_len (l : List It) (ha : Asc l) (x : It) : (insF l x).length = if has l x.f0 = true then l.length else l.length + 1 := by
 cases h : has l x.f0 with
 | true =>
  rw [if_pos rfl, ← put_yes l ha x h]
  have := (place_drop_yes l ha _ h).1
  rw [List.length_append, List.length_append, List.length_take, List.length_drop, List.length_singleton]; omega
 | false =>
  rw [if_neg (by decide), ← put_no l ha x h]
  have := placeN_le l x.f0
  rw [List.length_append, List.length_append, List.length_take, List.length_drop, List.length_singleton]; omega
theorem ins_le (l : List It) (ha : Asc l) (x : It) : (insF l x).length ≤ l.length + 1 := by
 rw [ins_len l ha]; split <;> omega
theorem del_le (l : List It) (q : Int) : (delF l q).length ≤ l.length := List.length_filter_le _ _
end Go.Proofs.YtolbhliepkcihaaDoor.SkipOps
end
section
namespace Go.Proofs.YtolbhliepkcihaaDoor.SkipOps
open Go.RowKit Go.Proofs.YtolbhliepkcihaaDoor.Kinds Go.Proofs.YtolbhliepkcihaaDoor.QSF Go.Proofs.YtolbhliepkcihaaDoor.QSQ Go.Proofs.YtolbhliepkcihaaDoorW.PrintWords Go.Proofs.YtolbhliepkcihaaDoorW.PrintLast Go.Proofs.YtolbhliepkcihaaDoorW.PrintMore Go.Proofs.YtolbhliepkcihaaDoor.Sha Go.Proofs.YtolbhliepkcihaaDoor.Mac Go.Proofs.YtolbhliepkcihaaDoor.Codec Go.Proofs.YtolbhliepkcihaaDoor.Tower Go.Proofs.YtolbhliepkcihaaDoor.Skip Go.Proofs.YtolbhliepkcihaaDoor.SkipPure
theorem at_l0 (l : List It) (hn : l.length ≤ 100000) (q : Int) (d : Nat) : ∀ i, i + d = l.length → (∀ j, j < i → ky l j ≠ q) →
  ∃ r : Int, Ev (fun k => saltusref16_At.l0 k q l (l.length : Int) (i : Int)) r ∧ (has l q = true → 0 ≤ r) ∧ (has l q = false → r < 0) := by
 induction d with
 | zero =>
  intro i hi hp
  refine ⟨-1, Ev.step (fun k => ?_) (Ev.now _), fun h => ?_, fun _ => by decide⟩
  ·rw [saltusref16_At.l0, if_neg (by omega)]
  ·obtain ⟨y, hy, e⟩ := (has_iff l q).1 h
   obtain ⟨j, hj, rfl⟩ := List.mem_iff_getElem.1 hy
   refine absurd ?_ (hp j (by omega))
   unfold ky
   rw [it_mem l j hj]
   exact e
 | succ d ih =>
  intro i hi hp
  by_cases c : ky l i = q
  ·refine ⟨(i : Int), Ev.step (fun k => ?_) (Ev.now _), fun _ => by omega, fun h => ?_⟩
   ·rw [saltusref16_At.l0, if_pos (by omega), if_pos (by omega), if_pos (by omega), if_pos (show (rd_T46 l (i : Int)).f0 = q from c)]
   ·refine absurd ?_ (not_has l q h _ (List.getElem_mem (show i < l.length by omega)))
    rw [← it_mem l i (by omega)]
    exact c
  ·obtain ⟨r, h1, h2⟩ := ih (i + 1) (by omega) (fun j hj => by
    by_cases e : j = i
    ·subst e; exact c
    ·exact hp j (by omega))
   refine ⟨r, Ev.step (fun k => ?_) h1, h2⟩
   rw [saltusref16_At.l0, if_pos (by omega), if_pos (by omega), if_pos (by omega), if_neg (show ¬(rd_T46 l (i : Int)).f0 = q from c), w_succ i l.length (by omega) (by omega)]
theorem at_ev (l : List It) (hn : l.length ≤ 100000) (q : Int) : ∃ r : Int, Ev (fun k => saltusref16_At.f k l q) r ∧ (has l q = true → 0 ≤ r) ∧ (has l q = false → r < 0) :=
 at_l0 l hn q l.length 0 (by omega) (fun j h => absurd h (by omega))
theorem rdrop_l0 (l : List It) (hn : l.length ≤ 100000) (q : Int) (d : Nat) : ∀ i acc, i + d = l.length → acc.length + d ≤ 100000 →
  Ev (fun k => saltusref16_Drop.l0 k q acc l (l.length : Int) (i : Int)) (acc ++ delF (l.drop i) q) := by
 induction d with
 | zero =>
  intro i acc hi ha
  refine Ev.step (fun k => ?_) (Ev.now _)
  rw [saltusref16_Drop.l0, if_neg (by omega), List.drop_eq_nil_of_le (by omega)]
  unfold delF
  rw [List.filter_nil, List.append_nil]
 | succ d ih =>
  intro i acc hi ha
  have hlt : i < l.length := by omega
  rw [List.drop_eq_getElem_cons hlt]
  have hi0 : rd_T46 l (i : Int) = l[i] := it_mem l i hlt
  by_cases c : l[i].f0 = q
  ·have e : delF (l[i] :: l.drop (i + 1)) q = delF (l.drop (i + 1)) q := by unfold delF; rw [List.filter_cons_of_neg (by simpa using c)]
   rw [e]
   refine Ev.step (fun k => ?_) (ih (i + 1) acc (by omega) (by omega))
   rw [saltusref16_Drop.l0, if_pos (by omega), if_pos (by omega), if_pos (by omega), hi0, if_pos c, w_succ i l.length (by omega) (by omega)]
  ·have e : delF (l[i] :: l.drop (i + 1)) q = l[i] :: delF (l.drop (i + 1)) q := by unfold delF; rw [List.filter_cons_of_pos (by simpa using c)]
   have h := ih (i + 1) (acc ++ [l[i]]) (by omega) (by rw [List.length_append, List.length_singleton]; omega)
   rw [List.append_assoc] at h
   rw [e]
   refine Ev.step (fun k => ?_) h
   rw [saltusref16_Drop.l0, if_pos (by omega), if_pos (by omega), if_pos (by omega), hi0, if_neg c, if_pos (by omega), w_succ i l.length (by omega) (by omega)]
theorem rdrop_ev (l : List It) (hn : l.length ≤ 100000) (q : Int) : Ev (fun k => saltusref16_Drop.f k l q) (delF l q) := by
 have h := rdrop_l0 l hn q l.length 0 [] (by omega) (by simp; omega)
 rw [List.nil_append, List.drop_zero] at h
 exact h
theorem rput_l1 (l : List It) (hn : l.length ≤ 100000) (x : It) (d : Nat) : ∀ i acc, i + d = l.length → acc.length + d ≤ 1000000 →
  Ev (fun k => saltusref16_Put.l1 k acc l (l.length : Int) (i : Int) x.f0 x.f1) (acc ++ (l.drop i).filter fun y => decide (x.f0 < y.f0)) := by
 induction d with
 | zero =>
  intro i acc hi ha
  refine Ev.step (fun k => ?_) (Ev.now _)
  rw [saltusref16_Put.l1, if_neg (by omega), List.drop_eq_nil_of_le (by omega), List.filter_nil, List.append_nil]
 | succ d ih =>
  intro i acc hi ha
  have hlt : i < l.length := by omega
  rw [List.drop_eq_getElem_cons hlt]
  have hi0 : rd_T46 l (i : Int) = l[i] := it_mem l i hlt
  by_cases c : x.f0 < l[i].f0
  ·have h := ih (i + 1) (acc ++ [l[i]]) (by omega) (by rw [List.length_append, List.length_singleton]; omega)
   rw [List.append_assoc] at h
   rw [List.filter_cons_of_pos (by simpa using c)]
   refine Ev.step (fun k => ?_) h
   rw [saltusref16_Put.l1, if_pos (by omega), if_pos (by omega), if_pos (by omega), hi0, if_pos c, if_pos (by omega), w_succ i l.length (by omega) (by omega)]
  ·rw [List.filter_cons_of_neg (by simpa using c)]
   refine Ev.step (fun k => ?_) (ih (i + 1) acc (by omega) (by omega))
   rw [saltusref16_Put.l1, if_pos (by omega), if_pos (by omega), if_pos (by omega), hi0, if_neg c, w_succ i l.length (by omega) (by omega)]
theorem rput_l0 (l : List It) (hn : l.length ≤ 100000) (x : It) (d : Nat) : ∀ i acc, i + d = l.length → acc.length + d ≤ 200000 →
  Ev (fun k => saltusref16_Put.l0 k l acc l (l.length : Int) (i : Int) x.f0 x.f1) (acc ++ (l.drop i).filter (fun y => decide (y.f0 < x.f0)) ++ [x] ++ l.filter fun y => decide (x.f0 < y.f0)) := by
 induction d with
 | zero =>
  intro i acc hi ha
  have h := rput_l1 l hn x l.length 0 (acc ++ [x]) (by omega) (by rw [List.length_append, List.length_singleton]; omega)
  rw [List.drop_zero] at h
  rw [List.drop_eq_nil_of_le (by omega), List.filter_nil, List.append_nil]
  refine Ev.step (fun k => ?_) h
  rw [saltusref16_Put.l0, if_neg (by omega), if_pos (by omega)]
  rfl
 | succ d ih =>
  intro i acc hi ha
  have hlt : i < l.length := by omega
  rw [List.drop_eq_getElem_cons hlt]
  have hi0 : rd_T46 l (i : Int) = l[i] := it_mem l i hlt
  by_cases c : l[i].f0 < x.f0
  ·have h := ih (i + 1) (acc ++ [l[i]]) (by omega) (by rw [List.length_append, List.length_singleton]; omega)
   rw [List.append_assoc acc] at h
   rw [List.filter_cons_of_pos (by simpa using c)]
   refine Ev.step (fun k => ?_) h
   rw [saltusref16_Put.l0, if_pos (by omega), if_pos (by omega), if_pos (by omega), hi0, if_pos c, if_pos (by omega), w_succ i l.length (by omega) (by omega)]
  ·rw [List.filter_cons_of_neg (by simpa using c)]
   refine Ev.step (fun k => ?_) (ih (i + 1) acc (by omega) (by omega))
   rw [saltusref16_Put.l0, if_pos (by omega), if_pos (by omega), if_pos (by omega), hi0, if_neg c, w_succ i l.length (by omega) (by omega)]
theorem rput_ev (l : List It) (hn : l.length ≤ 100000) (x : It) : Ev (fun k => saltusref16_Put.f k l x.f0 x.f1) (insF l x) := by
 have h := rput_l0 l hn x l.length 0 [] (by omega) (by simp; omega)
 rw [List.nil_append, List.drop_zero] at h
 exact h
theorem same_l0 (a b : List It) (hn : a.length ≤ 100000) (hb : b.length = a.length) (d : Nat) : ∀ i, i + d = a.length →
  ∃ r, Ev (fun k => saltusref16_Same.l0 k a b (a.length : Int) (i : Int)) r ∧ Ev (fun k => api_Item.l0 k a b (a.length : Int) (i : Int)) r ∧ (a = b → r = true) := by
 induction d with
 | zero =>
  intro i hi
  refine ⟨true, Ev.step (fun k => ?_) (Ev.now _), Ev.step (fun k => ?_) (Ev.now _), fun _ => rfl⟩
  ·rw [saltusref16_Same.l0, if_neg (by omega)]
  ·rw [api_Item.l0, if_neg (by omega)]
 | succ d ih =>
  intro i hi
  by_cases c : (!(((rd_T46 a (i : Int)).f0) == ((rd_T46 b (i : Int)).f0)) || (!((((rd_T46 a (i : Int)).f1).toList) == (((rd_T46 b (i : Int)).f1).toList)))) = true
  ·refine ⟨false, Ev.step (fun k => ?_) (Ev.now _), Ev.step (fun k => ?_) (Ev.now _), fun e => ?_⟩
   ·rw [saltusref16_Same.l0, if_pos (by omega), if_pos (by omega), if_pos (by omega), if_pos (by omega), if_pos c]
   ·rw [api_Item.l0, if_pos (by omega), if_pos (by omega), if_pos (by omega), if_pos (by omega), if_pos c]
   ·subst e
    rw [beq_self_eq_true, beq_self_eq_true] at c
    cases c
  ·obtain ⟨r, h1, h2, h3⟩ := ih (i + 1) (by omega)
   refine ⟨r, Ev.step (fun k => ?_) h1, Ev.step (fun k => ?_) h2, h3⟩
   ·rw [saltusref16_Same.l0, if_pos (by omega), if_pos (by omega), if_pos (by omega), if_pos (by omega), if_neg c, w_succ i a.length (by omega) (by omega)]
   ·rw [api_Item.l0, if_pos (by omega), if_pos (by omega), if_pos (by omega), if_pos (by omega), if_neg c, w_succ i a.length (by omega) (by omega)]
theorem same_ev (a b : List It) (hn : a.length ≤ 100000) : ∃ r, Ev (fun k => saltusref16_Same.f k a b) r ∧ Ev (fun k => skip_Like.f k a b) r ∧ (a = b → r = true) := by
 by_cases hb : b.length = a.length
 ·obtain ⟨r, h1, h2, h3⟩ := same_l0 a b hn hb a.length 0 (by omega)
  refine ⟨r, Ev.congr (fun k => ?_) h1, Ev.bind (Ev.congr (fun k => ?_) h2) (Ev.now _), h3⟩
  ·unfold saltusref16_Same.f; rw [if_pos (by omega)]; rfl
  ·unfold api_Item.f; rw [if_pos (by omega)]; rfl
 ·refine ⟨false, Ev.congr (fun k => ?_) (Ev.now _), Ev.bind (Ev.congr (fun k => ?_) (Ev.now _)) (Ev.now _), fun e => absurd (by rw [e]) hb⟩
  ·unfold saltusref16_Same.f; rw [if_neg (by omega)]
  ·unfold api_Item.f; rw [if_neg (by omega)]
/-! ### the callees, at plain functions -/
theorem c_same (A B : Option Addr) (c d : Nat) (a b : List It) (hn : a.length ≤ 100000) : ∃ r, (a = b → r = true) ∧
  (∀ w, Kd.C k46 w A a.length a → a.length ≤ c → Kd.C k46 w B b.length b → b.length ≤ d → Calls Tryd.prog 39 #[.slice A a.length c, .slice B b.length d] w fun e w' => e = .returned (.bool r) ∧ Below w.heap.size w w') ∧
  (∀ w, Kd.C k46 w A a.length a → a.length ≤ c → Kd.C k46 w B b.length b → b.length ≤ d → Calls Tryd.prog 48 #[.slice A a.length c, .slice B b.length d] w fun e w' => e = .returned (.bool r) ∧ Below w.heap.size w w') := by
 obtain ⟨r, h1, h2, h3⟩ := same_ev a b hn
 obtain ⟨k1, e1⟩ := h1.rounds
 obtain ⟨k2, e2⟩ := h2.rounds
 exact ⟨r, h3, fun w q1 q2 q3 q4 => (saltusref16_Same.calls k1 A c a B d b r w q1 q2 q3 q4 e1).mono fun e w' h => ⟨h.1, h.2.below⟩, fun w q1 q2 q3 q4 => (skip_Like.calls k2 A c a B d b r w q1 q2 q3 q4 e2).mono fun e w' h => ⟨h.1, h.2.below⟩⟩
theorem c_right (A : Option Addr) (c : Nat) (l : List It) (hn : l.length ≤ 100000) : ∃ r, (r = true ↔ RightP l) ∧
  (∀ w, Kd.C k46 w A l.length l → l.length ≤ c → Calls Tryd.prog 38 #[.slice A l.length c] w fun e w' => e = .returned (.bool r) ∧ Below w.heap.size w w') ∧
  (∀ w, Kd.C k46 w A l.length l → l.length ≤ c → Calls Tryd.prog 25 #[.slice A l.length c] w fun e w' => e = .returned (.bool r) ∧ Below w.heap.size w w') := by
 rcases right_ev l hn with ⟨p1, h1⟩ | ⟨p1, h1⟩
 ·rcases refright_ev l hn with ⟨p2, h2⟩ | ⟨p2, h2⟩
  ·obtain ⟨k1, e1⟩ := h1.rounds
   obtain ⟨k2, e2⟩ := h2.rounds
   exact ⟨true, ⟨fun _ => p1, fun _ => rfl⟩, fun w q1 q2 => skip_Right.calls k1 A c l true w q1 q2 e1, fun w q1 q2 => saltusref16_Right.calls k2 A c l true w q1 q2 e2⟩
  ·exact absurd p1 p2
 ·rcases refright_ev l hn with ⟨p2, h2⟩ | ⟨p2, h2⟩
  ·exact absurd p2 p1
  ·obtain ⟨k1, e1⟩ := h1.rounds
   obtain ⟨k2, e2⟩ := h2.rounds
   exact ⟨false, ⟨(fun h => by cases h), fun h => absurd h p1⟩, fun w q1 q2 => skip_Right.calls k1 A c l false w q1 q2 e1, fun w q1 q2 => saltusref16_Right.calls k2 A c l false w q1 q2 e2⟩
theorem c_at (A : Option Addr) (c : Nat) (l : List It) (hn : l.length ≤ 100000) (q : Int) : ∃ r : Int, (has l q = true → 0 ≤ r) ∧ (has l q = false → r < 0) ∧
  (∀ w, Kd.C k46 w A l.length l → l.length ≤ c → Calls Tryd.prog 49 #[.slice A l.length c, .int .u64 q] w fun e w' => e = .returned (.int .i64 r) ∧ Below w.heap.size w w') := by
 obtain ⟨r, h1, h2, h3⟩ := at_ev l hn q
 obtain ⟨k1, e1⟩ := h1.rounds
 exact ⟨r, h2, h3, fun w q1 q2 => saltusref16_At.calls k1 A c l q r w q1 q2 e1⟩
def Lft (w w' : World) (v : Value) (l : List It) : Prop := ∃ A c, v = .slice A l.length c ∧ l.length ≤ c ∧ Kd.C k46 w' A l.length l ∧ Below w.heap.size w w'
theorem lft_of {w w' : World} {base : Nat} {v : Value} {l : List It} (h : Kd.R k46 46 w' base (fun _ => True) v l) (hb : Below w.heap.size w w') : Lft w w' v l := by
 obtain ⟨A, c, rfl⟩ := Kd.R_slice h
 have h2 := Kd.R_reads' h
 exact ⟨A, c, rfl, h2.2.1, h2.2.2, hb⟩
theorem c_rdrop (A : Option Addr) (c : Nat) (l : List It) (hn : l.length ≤ 100000) (q : Int) (w : World) (q1 : Kd.C k46 w A l.length l) (q2 : l.length ≤ c) :
  Calls Tryd.prog 50 #[.slice A l.length c, .int .u64 q] w fun e w' => ∃ v, e = .returned v ∧ Lft w w' v (delF l q) := by
 obtain ⟨k1, e1⟩ := (rdrop_ev l hn q).rounds
 exact (saltusref16_Drop.calls k1 A c l q _ w q1 q2 e1).mono fun e w' ⟨v, h1, h2, h3⟩ => ⟨v, h1, lft_of h2 h3⟩
theorem c_rput (A : Option Addr) (c : Nat) (l : List It) (hn : l.length ≤ 100000) (x : It) (w : World) (q1 : Kd.C k46 w A l.length l) (q2 : l.length ≤ c) :
  Calls Tryd.prog 51 #[.slice A l.length c, .agg #[.int .u64 x.f0, .string x.f1]] w fun e w' => ∃ v, e = .returned v ∧ Lft w w' v (insF l x) := by
 obtain ⟨k1, e1⟩ := (rput_ev l hn x).rounds
 exact (saltusref16_Put.calls k1 A c l x.f0 x.f1 _ w q1 q2 e1).mono fun e w' ⟨v, h1, h2, h3⟩ => ⟨v, h1, lft_of h2 h3⟩
theorem lft_nil {w w' : World} (hb : Below w.heap.size w w') : Lft w w' (.slice none 0 0) [] := ⟨none, 0, rfl, Nat.le_refl _, Kd.C_nil _ _, hb⟩
theorem c_put (A : Option Addr) (c : Nat) (l : List It) (hn : l.length ≤ 100000) (x : It) (pl : List It) (er : Int)
  (hc : (¬RightP l ∧ pl = [] ∧ er = 1) ∨ (RightP l ∧ 64 < x.f1.size ∧ pl = [] ∧ er = 4) ∨ (RightP l ∧ ¬64 < x.f1.size ∧ (has l x.f0 = false ∧ l.length = 64) ∧ pl = [] ∧ er = 6) ∨ (RightP l ∧ ¬64 < x.f1.size ∧ ¬(has l x.f0 = false ∧ l.length = 64) ∧ pl = insF l x ∧ er = 0))
  (w : World) (q1 : Kd.C k46 w A l.length l) (q2 : l.length ≤ c) :
  Calls Tryd.prog 36 #[.slice A l.length c, .agg #[.int .u64 x.f0, .string x.f1]] w fun e w' => ∃ v, e = .returned (.tuple #[v, .int .i64 er]) ∧ Lft w w' v pl := by
 rcases right_ev l hn with ⟨p1, h1⟩ | ⟨p1, h1⟩
 ·obtain ⟨k1, e1⟩ := h1.rounds
  have ha := ((right_iff l).1 p1).1
  have hpi := place_is l ha x.f0
  rcases hc with ⟨p2, _⟩ | ⟨_, hz, rfl, rfl⟩ | ⟨_, hz, ⟨hh, h64⟩, rfl, rfl⟩ | ⟨_, hz, hh, rfl, rfl⟩
  ·exact absurd p1 p2
  ·exact (put_size A c l x k1 w q1 q2 hn e1 hz).mono fun e w' ⟨h1, h2⟩ => ⟨_, h1, lft_nil h2⟩
  ·exact (put_space A c l x k1 w q1 q2 hn e1 hz (hpi.trans hh) h64).mono fun e w' ⟨h1, h2⟩ => ⟨_, h1, lft_nil h2⟩
  ·cases hs : has l x.f0 with
   | true =>
    rw [hs] at hpi
    obtain ⟨g1, g2⟩ := place_drop_yes l ha _ hs
    obtain ⟨ad, rfl⟩ : ∃ ad, A = some ad := by
     obtain ⟨ad, e, _⟩ := q1.2.2 (by omega)
     exact ⟨ad, e⟩
    have e0 := put_yes l ha x hs
    by_cases hl : placeN l x.f0 + 1 = l.length
    ·rw [hl, List.drop_eq_nil_of_le (Nat.le_refl _), List.append_nil] at e0
     rw [← e0]
     exact (put_overend ad c l x k1 w q1 q2 hn e1 hz hpi hl).mono fun e w' ⟨v, h1, h2, h3⟩ => ⟨v, h1, lft_of h2 h3⟩
    ·rw [← e0]
     exact (put_over ad c l x k1 w q1 q2 hn e1 hz hpi (by omega)).mono fun e w' ⟨v, h1, h2, h3⟩ => ⟨v, h1, lft_of h2 h3⟩
   | false =>
    rw [hs] at hpi
    have h64 : ¬l.length = 64 := fun h => hh ⟨hs, h⟩
    have hle := placeN_le l x.f0
    have e0 := put_no l ha x hs
    by_cases hl : placeN l x.f0 = l.length
    ·rw [hl, List.drop_eq_nil_of_le (Nat.le_refl _), List.append_nil, ← hl] at e0
     rw [← e0]
     cases A with
     | none => exact (put_nil c l x k1 w q1 q2 hn e1 hz hpi h64 hl).mono fun e w' ⟨v, h1, h2, h3⟩ => ⟨v, h1, lft_of h2 h3⟩
     | some ad => exact (put_end ad c l x k1 w q1 q2 hn e1 hz hpi h64 hl).mono fun e w' ⟨v, h1, h2, h3⟩ => ⟨v, h1, lft_of h2 h3⟩
    ·obtain ⟨ad, rfl⟩ : ∃ ad, A = some ad := by
      obtain ⟨ad, e, _⟩ := q1.2.2 (by omega)
      exact ⟨ad, e⟩
     rw [← e0]
     exact (put_new ad c l x k1 w q1 q2 hn e1 hz hpi h64 (by omega)).mono fun e w' ⟨v, h1, h2, h3⟩ => ⟨v, h1, lft_of h2 h3⟩
 ·obtain ⟨k1, e1⟩ := h1.rounds
  rcases hc with ⟨_, rfl, rfl⟩ | ⟨p2, _⟩ | ⟨p2, _⟩ | ⟨p2, _⟩
  ·exact (put_bad A c l x k1 w q1 q2 hn e1).mono fun e w' ⟨h1, h2⟩ => ⟨_, h1, lft_nil h2⟩
  ·exact absurd p2 p1
  ·exact absurd p2 p1
  ·exact absurd p2 p1
theorem lft_take {w w' : World} {ad : Addr} {n : Nat} {l : List It} (hn : n ≤ l.length) (q1 : Kd.C k46 w (some ad) l.length l) (hb : Below w.heap.size w w') : Lft w w' (.slice (some ad) n n) (l.take n) := by
 have hz : (l.take n).length = n := by rw [List.length_take]; omega
 have h := Kd.C_below q1 hb
 refine ⟨some ad, n, by rw [hz], by omega, ?_, hb⟩
 refine ⟨rfl, by have := h.2.1; omega, fun h0 => ?_⟩
 obtain ⟨ad', e, hc⟩ := h.2.2 (by omega)
 refine ⟨ad', e, fun j p hp => hc j p ?_⟩
 rw [List.getElem?_take] at hp
 split at hp
 ·exact hp
 ·cases hp
theorem c_drop (A : Option Addr) (c : Nat) (l : List It) (hn : l.length ≤ 100000) (q : Int) (dl : List It) (er : Int)
  (hc : (¬RightP l ∧ dl = [] ∧ er = 1) ∨ (RightP l ∧ has l q = false ∧ dl = [] ∧ er = 3) ∨ (RightP l ∧ has l q = true ∧ dl = delF l q ∧ er = 0))
  (w : World) (q1 : Kd.C k46 w A l.length l) (q2 : l.length ≤ c) :
  Calls Tryd.prog 37 #[.slice A l.length c, .int .u64 q] w fun e w' => ∃ v, e = .returned (.tuple #[v, .int .i64 er]) ∧ Lft w w' v dl := by
 rcases right_ev l hn with ⟨p1, h1⟩ | ⟨p1, h1⟩
 ·obtain ⟨k1, e1⟩ := h1.rounds
  have ha := ((right_iff l).1 p1).1
  have hpi := place_is l ha q
  rcases hc with ⟨p2, _⟩ | ⟨_, hs, rfl, rfl⟩ | ⟨_, hs, rfl, rfl⟩
  ·exact absurd p1 p2
  ·exact (drop_none A c l q k1 w q1 q2 hn e1 (hpi.trans hs)).mono fun e w' ⟨h1, h2⟩ => ⟨_, h1, lft_nil h2⟩
  ·rw [hs] at hpi
   obtain ⟨g1, g2⟩ := place_drop_yes l ha _ hs
   obtain ⟨ad, rfl⟩ : ∃ ad, A = some ad := by
    obtain ⟨ad, e, _⟩ := q1.2.2 (by omega)
    exact ⟨ad, e⟩
   have e0 := drop_yes l ha q hs
   by_cases hl : placeN l q + 1 = l.length
   ·rw [hl, List.drop_eq_nil_of_le (Nat.le_refl _), List.append_nil] at e0
    rw [← e0]
    exact (drop_last ad c l q k1 w q1 q2 hn e1 hpi hl).mono fun e w' ⟨h1, h2⟩ => ⟨_, h1, lft_take (by omega) q1 h2⟩
   ·rw [← e0]
    exact (drop_grow ad c l q k1 w q1 q2 hn e1 hpi (by omega)).mono fun e w' ⟨v, h1, h2, h3⟩ => ⟨v, h1, lft_of h2 h3⟩
 ·obtain ⟨k1, e1⟩ := h1.rounds
  rcases hc with ⟨_, rfl, rfl⟩ | ⟨p2, _⟩ | ⟨p2, _⟩
  ·exact (drop_bad A c l q k1 w q1 q2 hn e1).mono fun e w' ⟨h1, h2⟩ => ⟨_, h1, lft_nil h2⟩
  ·exact absurd p2 p1
  ·exact absurd p2 p1
end Go.Proofs.YtolbhliepkcihaaDoor.SkipOps
end
section
namespace Go.Proofs.YtolbhliepkcihaaDoor.SkipOps
open Go.RowKit Go.Proofs.YtolbhliepkcihaaDoor.Kinds Go.Proofs.YtolbhliepkcihaaDoor.QSF Go.Proofs.YtolbhliepkcihaaDoor.QSQ Go.Proofs.YtolbhliepkcihaaDoorW.PrintWords Go.Proofs.YtolbhliepkcihaaDoorW.PrintLast Go.Proofs.YtolbhliepkcihaaDoorW.PrintMore Go.Proofs.YtolbhliepkcihaaDoor.Sha Go.Proofs.YtolbhliepkcihaaDoor.Mac Go.Proofs.YtolbhliepkcihaaDoor.Codec Go.Proofs.YtolbhliepkcihaaDoor.Tower Go.Proofs.YtolbhliepkcihaaDoor.Skip Go.Proofs.YtolbhliepkcihaaDoor.SkipPure
set_option linter.unusedVariables false
set_option linter.unusedSimpArgs false
theorem few_any (A : Option Addr) (c : Nat) (l : List It) (w : World) (hc : l.length ≤ c) :
  Calls Tryd.prog 47 #[.slice A l.length c] w fun e w' => e = .returned (.slice A (l.take 66).length c) ∧ w' = w := by
 have hz : (l.take 66).length = min l.length 66 := by rw [List.length_take, Nat.min_comm]
 rw [hz]
 have hm : (min (l.length : Int) 66) = ((min l.length 66 : Nat) : Int) := by omega
 have h1 : min l.length 66 ≤ c := by omega
 have h2 : min l.length 66 ≤ 66 := by omega
 obtain ⟨n, hn⟩ : ∃ n, min l.length 66 = n := ⟨_, rfl⟩
 rw [hn] at hm h1 h2 ⊢
 clear hn hz
 go_enter Tryd.func47, Tryd.ntmps47
 go_wp2
 go_ret
 exact ⟨rfl, rfl⟩
theorem c_put_err (A : Option Addr) (c : Nat) (l : List It) (hn : l.length ≤ 100000) (x : It) (er : Int)
  (hc : (¬RightP l ∧ er = 1) ∨ (RightP l ∧ 64 < x.f1.size ∧ er = 4) ∨ (RightP l ∧ ¬64 < x.f1.size ∧ (has l x.f0 = false ∧ l.length = 64) ∧ er = 6))
  (w : World) (q1 : Kd.C k46 w A l.length l) (q2 : l.length ≤ c) :
  Calls Tryd.prog 36 #[.slice A l.length c, .agg #[.int .u64 x.f0, .string x.f1]] w fun e w' => ∃ A' c', e = .returned (.tuple #[.slice A' 0 c', .int .i64 er]) ∧ Below w.heap.size w w' := by
 refine (c_put A c l hn x [] er ?_ w q1 q2).mono fun e w' ⟨v, h1, A', c', h2, _, _, h3⟩ => ⟨A', c', by rw [h1, h2]; rfl, h3⟩
 rcases hc with ⟨h1, h2⟩ | ⟨h1, h2, h3⟩ | ⟨h1, h2, h3, h4⟩
 ·exact .inl ⟨h1, rfl, h2⟩
 ·exact .inr (.inl ⟨h1, h2, rfl, h3⟩)
 ·exact .inr (.inr (.inl ⟨h1, h2, h3, rfl, h4⟩))
theorem c_drop_err (A : Option Addr) (c : Nat) (l : List It) (hn : l.length ≤ 100000) (q : Int) (er : Int)
  (hc : (¬RightP l ∧ er = 1) ∨ (RightP l ∧ has l q = false ∧ er = 3))
  (w : World) (q1 : Kd.C k46 w A l.length l) (q2 : l.length ≤ c) :
  Calls Tryd.prog 37 #[.slice A l.length c, .int .u64 q] w fun e w' => ∃ A' c', e = .returned (.tuple #[.slice A' 0 c', .int .i64 er]) ∧ Below w.heap.size w w' := by
 refine (c_drop A c l hn q [] er ?_ w q1 q2).mono fun e w' ⟨v, h1, A', c', h2, _, _, h3⟩ => ⟨A', c', by rw [h1, h2]; rfl, h3⟩
 rcases hc with ⟨h1, h2⟩ | ⟨h1, h2, h3⟩
 ·exact .inl ⟨h1, rfl, h2⟩
 ·exact .inr (.inl ⟨h1, h2, rfl, h3⟩)
theorem c_same_true (A B : Option Addr) (c d : Nat) (a : List It) (hn : a.length ≤ 100000) (w : World) (q1 : Kd.C k46 w A a.length a) (q2 : a.length ≤ c) (q3 : Kd.C k46 w B a.length a) (q4 : a.length ≤ d) :
  Calls Tryd.prog 39 #[.slice A a.length c, .slice B a.length d] w fun e w' => e = .returned (.bool true) ∧ Below w.heap.size w w' := by
 obtain ⟨r, h1, h2, _⟩ := c_same A B c d a a hn
 have := h2 w q1 q2 q3 q4
 rwa [h1 rfl] at this
theorem c_like_true (A : Option Addr) (c : Nat) (a : List It) (hn : a.length ≤ 100000) (w : World) (q1 : Kd.C k46 w A a.length a) (q2 : a.length ≤ c) :
  Calls Tryd.prog 48 #[.slice A a.length c, .slice A a.length c] w fun e w' => e = .returned (.bool true) ∧ Below w.heap.size w w' := by
 obtain ⟨r, h1, _, h2⟩ := c_same A A c c a a hn
 have := h2 w q1 q2 q1 q2
 rwa [h1 rfl] at this
theorem c_alive (w : World) (hT : TabW w) : Calls Tryd.prog 26 #[] w fun e w' => e = .returned (.bool true) ∧ Below w.heap.size w w' := by
 obtain ⟨k, h⟩ := alive16.rounds
 exact QSF.saltuslaw16_alive.calls k true w h hT
theorem itbox (w : World) (x : It) : ∀ (j : Nat) (u : Value), [Value.int .u64 x.f0, Value.string x.f1][j]? = some u → (w.alloc (.cells #[.int .u64 x.f0, .string x.f1] 46)).cell? ((⟨w.heap.size, 0, none⟩ : Addr).add j) = some u := two_new w x.f0 x.f1
theorem take_min {α : Type} (l : List α) : l.take (min l.length 66) = l.take 66 := by
 rcases Nat.le_total l.length 66 with h | h
 ·rw [Nat.min_eq_left h, List.take_length, List.take_of_length_le h]
 ·rw [Nat.min_eq_right h]
set_option maxRecDepth 100000 in
set_option maxHeartbeats 8000000 in
theorem puts_bad (A0 : Option Addr) (c0 : Nat) (l0 : List It) (A1 : Option Addr) (c1 : Nat) (l1 : List It) (x : It) (q : Int) (w : World) (hr0 : Kd.C k46 w A0 l0.length l0) (hc0 : l0.length ≤ c0) (hr1 : Kd.C k46 w A1 l1.length l1) (hc1 : l1.length ≤ c1) (hT0 : TabW w)
  (hR : ¬RightP (l0.take 66)) :
  Calls Tryd.prog 11 #[.slice A0 l0.length c0, .slice A1 l1.length c1, .agg #[.int .u64 x.f0, .string x.f1], .int .u64 q] w fun e w' => e = .returned (.bool true) ∧ Below w.heap.size w w' := by
 have F0 := Lib.hid (fun w => few_any A0 c0 l0 w hc0)
 have F1 := Lib.hid (fun w => few_any A1 c1 l1 w hc1)
 have z0 : (l0.take 66).length ≤ 66 := by rw [List.length_take]; omega
 have z1 : (l1.take 66).length ≤ 66 := by rw [List.length_take]; omega
 have y0 : (l0.take 66).length ≤ c0 := by rw [List.length_take]; omega
 have y1 : (l1.take 66).length ≤ c1 := by rw [List.length_take]; omega
 have HL := Aside0.mk (Kd.C_take (m := min l0.length 66) hr0 (by omega))
 have HM := Aside0.mk (Kd.C_take (m := min l1.length 66) hr1 (by omega))
 rw [take_min] at HL HM
 clear hr0 hr1 hc0 hc1
 generalize l0.take 66 = l at *
 generalize l1.take 66 = m at *
 obtain ⟨rr, gr0, gr1, gr2⟩ := c_right A0 c0 l (by omega)
 obtain ⟨rs, _, gs1, gs2⟩ := c_same A0 A1 c0 c1 l m (by omega)
 obtain rfl : rr = false := by
  cases rr with
  | false => rfl
  | true => exact absurd (gr0.1 rfl) hR
 have GP := Lib.hid (c_put_err A0 c0 l (by omega) x 1 (.inl ⟨hR, rfl⟩))
 have GD := Lib.hid (c_drop_err A0 c0 l (by omega) q 1 (.inl ⟨hR, rfl⟩))
 clear hR
 have GR1 := Lib.hid gr1
 have GR2 := Lib.hid gr2
 have GS1 := Lib.hid gs1
 have GS2 := Lib.hid gs2
 have GT := Lib.hid (c_like_true A0 c0 l (by omega))
 have GA := Lib.hid c_alive
 have GZ := Lib.hid c_same_true
 have YL := Aside0.mk y0
 have YM := Aside0.mk y1
 have ZL := Aside0.mk z0
 have HT := Lib.hid hT0
 clear gr0 gr1 gr2 gs1 gs2 hT0 y0 y1 z0 z1
 have HB := Aside0.mk (below_alloc (Below.refl w.heap.size w) (.cells #[.int .u64 x.f0, .string x.f1] 46))
 replace HL := Aside0.mk (Kd.C_alloc HL.out (.cells #[.int .u64 x.f0, .string x.f1] 46))
 replace HM := Aside0.mk (Kd.C_alloc HM.out (.cells #[.int .u64 x.f0, .string x.f1] 46))
 have X0 := Aside0.mk (itbox w x 0 _ rfl)
 have X1 := Aside0.mk (itbox w x 1 _ rfl)
 simp only [Addr.add_lit] at X0 X1
 go_enter Tryd.func11, Tryd.ntmps11
 go_wp2_with (first | (go_at_call 47; ((with_reducible refine (F0.out _).mono ?_); rintro e w1 ⟨rfl, rfl⟩)) | (go_at_call 47; ((with_reducible refine (F1.out _).mono ?_); rintro e w1 ⟨rfl, rfl⟩)) | (go_at_call 38; ((with_reducible refine (GR1.out _ HL.out YL.out).mono ?_); rintro e w1 ⟨rfl, hb1⟩; replace HB := Aside0.mk (below_step HB.out hb1); replace X0 := Aside0.mk ((hb1.cell (World.block_lt_of_cell? _ _ X0.out)).trans X0.out); replace X1 := Aside0.mk ((hb1.cell (World.block_lt_of_cell? _ _ X1.out)).trans X1.out); (try clear hx0 hx1); have hx0 := X0.out; have hx1 := X1.out; replace HL := Aside0.mk (Kd.C_below HL.out hb1); replace HM := Aside0.mk (Kd.C_below HM.out hb1); (try replace HP := Aside0.mk (Kd.C_below HP.out hb1)); (try replace HD := Aside0.mk (Kd.C_below HD.out hb1)); (try replace HR := Aside0.mk (Kd.C_below HR.out hb1)); clear hb1)) | (go_at_call 25; ((with_reducible refine (GR2.out _ HL.out YL.out).mono ?_); rintro e w1 ⟨rfl, hb1⟩; replace HB := Aside0.mk (below_step HB.out hb1); replace X0 := Aside0.mk ((hb1.cell (World.block_lt_of_cell? _ _ X0.out)).trans X0.out); replace X1 := Aside0.mk ((hb1.cell (World.block_lt_of_cell? _ _ X1.out)).trans X1.out); (try clear hx0 hx1); have hx0 := X0.out; have hx1 := X1.out; replace HL := Aside0.mk (Kd.C_below HL.out hb1); replace HM := Aside0.mk (Kd.C_below HM.out hb1); (try replace HP := Aside0.mk (Kd.C_below HP.out hb1)); (try replace HD := Aside0.mk (Kd.C_below HD.out hb1)); (try replace HR := Aside0.mk (Kd.C_below HR.out hb1)); clear hb1)) | (go_at_call 48; ((with_reducible refine (GS2.out _ HL.out YL.out HM.out YM.out).mono ?_); rintro e w1 ⟨rfl, hb1⟩; replace HB := Aside0.mk (below_step HB.out hb1); replace X0 := Aside0.mk ((hb1.cell (World.block_lt_of_cell? _ _ X0.out)).trans X0.out); replace X1 := Aside0.mk ((hb1.cell (World.block_lt_of_cell? _ _ X1.out)).trans X1.out); (try clear hx0 hx1); have hx0 := X0.out; have hx1 := X1.out; replace HL := Aside0.mk (Kd.C_below HL.out hb1); replace HM := Aside0.mk (Kd.C_below HM.out hb1); (try replace HP := Aside0.mk (Kd.C_below HP.out hb1)); (try replace HD := Aside0.mk (Kd.C_below HD.out hb1)); (try replace HR := Aside0.mk (Kd.C_below HR.out hb1)); clear hb1)) | (go_at_call 48; ((with_reducible refine (GT.out _ HL.out YL.out).mono ?_); rintro e w1 ⟨rfl, hb1⟩; replace HB := Aside0.mk (below_step HB.out hb1); replace X0 := Aside0.mk ((hb1.cell (World.block_lt_of_cell? _ _ X0.out)).trans X0.out); replace X1 := Aside0.mk ((hb1.cell (World.block_lt_of_cell? _ _ X1.out)).trans X1.out); (try clear hx0 hx1); have hx0 := X0.out; have hx1 := X1.out; replace HL := Aside0.mk (Kd.C_below HL.out hb1); replace HM := Aside0.mk (Kd.C_below HM.out hb1); (try replace HP := Aside0.mk (Kd.C_below HP.out hb1)); (try replace HD := Aside0.mk (Kd.C_below HD.out hb1)); (try replace HR := Aside0.mk (Kd.C_below HR.out hb1)); clear hb1)) | (go_at_call 39; ((with_reducible refine (GS1.out _ HL.out YL.out HM.out YM.out).mono ?_); rintro e w1 ⟨rfl, hb1⟩; replace HB := Aside0.mk (below_step HB.out hb1); replace X0 := Aside0.mk ((hb1.cell (World.block_lt_of_cell? _ _ X0.out)).trans X0.out); replace X1 := Aside0.mk ((hb1.cell (World.block_lt_of_cell? _ _ X1.out)).trans X1.out); (try clear hx0 hx1); have hx0 := X0.out; have hx1 := X1.out; replace HL := Aside0.mk (Kd.C_below HL.out hb1); replace HM := Aside0.mk (Kd.C_below HM.out hb1); (try replace HP := Aside0.mk (Kd.C_below HP.out hb1)); (try replace HD := Aside0.mk (Kd.C_below HD.out hb1)); (try replace HR := Aside0.mk (Kd.C_below HR.out hb1)); clear hb1)) | (go_at_call 26; ((with_reducible refine (GA.out _ (tab_below HT.out HB.out (Nat.le_refl _))).mono ?_); rintro e w1 ⟨rfl, hb1⟩; replace HB := Aside0.mk (below_step HB.out hb1); replace X0 := Aside0.mk ((hb1.cell (World.block_lt_of_cell? _ _ X0.out)).trans X0.out); replace X1 := Aside0.mk ((hb1.cell (World.block_lt_of_cell? _ _ X1.out)).trans X1.out); (try clear hx0 hx1); have hx0 := X0.out; have hx1 := X1.out; replace HL := Aside0.mk (Kd.C_below HL.out hb1); replace HM := Aside0.mk (Kd.C_below HM.out hb1); (try replace HP := Aside0.mk (Kd.C_below HP.out hb1)); (try replace HD := Aside0.mk (Kd.C_below HD.out hb1)); (try replace HR := Aside0.mk (Kd.C_below HR.out hb1)); clear hb1)) | (go_at_call 36; ((with_reducible refine (GP.out _ HL.out YL.out).mono ?_); rintro e w1 ⟨A9, c9, rfl, hb1⟩; replace HB := Aside0.mk (below_step HB.out hb1); replace X0 := Aside0.mk ((hb1.cell (World.block_lt_of_cell? _ _ X0.out)).trans X0.out); replace X1 := Aside0.mk ((hb1.cell (World.block_lt_of_cell? _ _ X1.out)).trans X1.out); (try clear hx0 hx1); have hx0 := X0.out; have hx1 := X1.out; replace HL := Aside0.mk (Kd.C_below HL.out hb1); replace HM := Aside0.mk (Kd.C_below HM.out hb1); (try replace HP := Aside0.mk (Kd.C_below HP.out hb1)); (try replace HD := Aside0.mk (Kd.C_below HD.out hb1)); (try replace HR := Aside0.mk (Kd.C_below HR.out hb1)); clear hb1)) | (go_at_call 37; ((with_reducible refine (GD.out _ HL.out YL.out).mono ?_); rintro e w1 ⟨A9, c9, rfl, hb1⟩; replace HB := Aside0.mk (below_step HB.out hb1); replace X0 := Aside0.mk ((hb1.cell (World.block_lt_of_cell? _ _ X0.out)).trans X0.out); replace X1 := Aside0.mk ((hb1.cell (World.block_lt_of_cell? _ _ X1.out)).trans X1.out); (try clear hx0 hx1); have hx0 := X0.out; have hx1 := X1.out; replace HL := Aside0.mk (Kd.C_below HL.out hb1); replace HM := Aside0.mk (Kd.C_below HM.out hb1); (try replace HP := Aside0.mk (Kd.C_below HP.out hb1)); (try replace HD := Aside0.mk (Kd.C_below HD.out hb1)); (try replace HR := Aside0.mk (Kd.C_below HR.out hb1)); clear hb1)))
 go_ret
 exact ⟨by first | rfl | (simp; done) | (simp [*]; done), HB.out⟩
set_option maxRecDepth 100000 in
set_option maxHeartbeats 8000000 in
theorem puts_size_y (A0 : Option Addr) (c0 : Nat) (l0 : List It) (A1 : Option Addr) (c1 : Nat) (l1 : List It) (x : It) (q : Int) (w : World) (hr0 : Kd.C k46 w A0 l0.length l0) (hc0 : l0.length ≤ c0) (hr1 : Kd.C k46 w A1 l1.length l1) (hc1 : l1.length ≤ c1) (hT0 : TabW w)
  (hR : RightP (l0.take 66)) (hz : 64 < x.f1.size) (hH : has (l0.take 66) q = true) :
  Calls Tryd.prog 11 #[.slice A0 l0.length c0, .slice A1 l1.length c1, .agg #[.int .u64 x.f0, .string x.f1], .int .u64 q] w fun e w' => e = .returned (.bool true) ∧ Below w.heap.size w w' := by
 have F0 := Lib.hid (fun w => few_any A0 c0 l0 w hc0)
 have F1 := Lib.hid (fun w => few_any A1 c1 l1 w hc1)
 have z0 : (l0.take 66).length ≤ 66 := by rw [List.length_take]; omega
 have z1 : (l1.take 66).length ≤ 66 := by rw [List.length_take]; omega
 have y0 : (l0.take 66).length ≤ c0 := by rw [List.length_take]; omega
 have y1 : (l1.take 66).length ≤ c1 := by rw [List.length_take]; omega
 have HL := Aside0.mk (Kd.C_take (m := min l0.length 66) hr0 (by omega))
 have HM := Aside0.mk (Kd.C_take (m := min l1.length 66) hr1 (by omega))
 rw [take_min] at HL HM
 clear hr0 hr1 hc0 hc1
 generalize l0.take 66 = l at *
 generalize l1.take 66 = m at *
 obtain ⟨rr, gr0, gr1, gr2⟩ := c_right A0 c0 l (by omega)
 obtain ⟨rs, _, gs1, gs2⟩ := c_same A0 A1 c0 c1 l m (by omega)
 obtain rfl : rr = true := gr0.2 hR
 have GP := Lib.hid (c_put_err A0 c0 l (by omega) x 4 (.inr (.inl ⟨hR, hz, rfl⟩)))
 have hz2 : decide (64 < (x.f1.size : Int)) = true := decide_eq_true (by omega)
 have hz3 : decide (64 < x.f1.size) = true := decide_eq_true hz
 clear hz
 have GD := Lib.hid (c_drop A0 c0 l (by omega) q _ 0 (.inr (.inr ⟨hR, hH, rfl, rfl⟩)))
 have GE := Lib.hid (c_rdrop A0 c0 l (by omega) q)
 obtain ⟨ra, ga1, _, ga2⟩ := c_at A0 c0 l (by omega) q
 have hra := ga1 hH
 have GI := Lib.hid ga2
 have ZD := Aside0.mk (del_le l q)
 clear ga1 ga2 hH
 generalize delF l q = dl at *
 clear hR
 have GR1 := Lib.hid gr1
 have GR2 := Lib.hid gr2
 have GS1 := Lib.hid gs1
 have GS2 := Lib.hid gs2
 have GT := Lib.hid (c_like_true A0 c0 l (by omega))
 have GA := Lib.hid c_alive
 have GZ := Lib.hid c_same_true
 have YL := Aside0.mk y0
 have YM := Aside0.mk y1
 have ZL := Aside0.mk z0
 have HT := Lib.hid hT0
 clear gr0 gr1 gr2 gs1 gs2 hT0 y0 y1 z0 z1
 have HB := Aside0.mk (below_alloc (Below.refl w.heap.size w) (.cells #[.int .u64 x.f0, .string x.f1] 46))
 replace HL := Aside0.mk (Kd.C_alloc HL.out (.cells #[.int .u64 x.f0, .string x.f1] 46))
 replace HM := Aside0.mk (Kd.C_alloc HM.out (.cells #[.int .u64 x.f0, .string x.f1] 46))
 have X0 := Aside0.mk (itbox w x 0 _ rfl)
 have X1 := Aside0.mk (itbox w x 1 _ rfl)
 simp only [Addr.add_lit] at X0 X1
 go_enter Tryd.func11, Tryd.ntmps11
 go_wp2_with (first | (go_at_call 47; ((with_reducible refine (F0.out _).mono ?_); rintro e w1 ⟨rfl, rfl⟩)) | (go_at_call 47; ((with_reducible refine (F1.out _).mono ?_); rintro e w1 ⟨rfl, rfl⟩)) | (go_at_call 38; ((with_reducible refine (GR1.out _ HL.out YL.out).mono ?_); rintro e w1 ⟨rfl, hb1⟩; replace HB := Aside0.mk (below_step HB.out hb1); replace X0 := Aside0.mk ((hb1.cell (World.block_lt_of_cell? _ _ X0.out)).trans X0.out); replace X1 := Aside0.mk ((hb1.cell (World.block_lt_of_cell? _ _ X1.out)).trans X1.out); (try clear hx0 hx1); have hx0 := X0.out; have hx1 := X1.out; replace HL := Aside0.mk (Kd.C_below HL.out hb1); replace HM := Aside0.mk (Kd.C_below HM.out hb1); (try replace HP := Aside0.mk (Kd.C_below HP.out hb1)); (try replace HD := Aside0.mk (Kd.C_below HD.out hb1)); (try replace HR := Aside0.mk (Kd.C_below HR.out hb1)); clear hb1)) | (go_at_call 25; ((with_reducible refine (GR2.out _ HL.out YL.out).mono ?_); rintro e w1 ⟨rfl, hb1⟩; replace HB := Aside0.mk (below_step HB.out hb1); replace X0 := Aside0.mk ((hb1.cell (World.block_lt_of_cell? _ _ X0.out)).trans X0.out); replace X1 := Aside0.mk ((hb1.cell (World.block_lt_of_cell? _ _ X1.out)).trans X1.out); (try clear hx0 hx1); have hx0 := X0.out; have hx1 := X1.out; replace HL := Aside0.mk (Kd.C_below HL.out hb1); replace HM := Aside0.mk (Kd.C_below HM.out hb1); (try replace HP := Aside0.mk (Kd.C_below HP.out hb1)); (try replace HD := Aside0.mk (Kd.C_below HD.out hb1)); (try replace HR := Aside0.mk (Kd.C_below HR.out hb1)); clear hb1)) | (go_at_call 48; ((with_reducible refine (GS2.out _ HL.out YL.out HM.out YM.out).mono ?_); rintro e w1 ⟨rfl, hb1⟩; replace HB := Aside0.mk (below_step HB.out hb1); replace X0 := Aside0.mk ((hb1.cell (World.block_lt_of_cell? _ _ X0.out)).trans X0.out); replace X1 := Aside0.mk ((hb1.cell (World.block_lt_of_cell? _ _ X1.out)).trans X1.out); (try clear hx0 hx1); have hx0 := X0.out; have hx1 := X1.out; replace HL := Aside0.mk (Kd.C_below HL.out hb1); replace HM := Aside0.mk (Kd.C_below HM.out hb1); (try replace HP := Aside0.mk (Kd.C_below HP.out hb1)); (try replace HD := Aside0.mk (Kd.C_below HD.out hb1)); (try replace HR := Aside0.mk (Kd.C_below HR.out hb1)); clear hb1)) | (go_at_call 48; ((with_reducible refine (GT.out _ HL.out YL.out).mono ?_); rintro e w1 ⟨rfl, hb1⟩; replace HB := Aside0.mk (below_step HB.out hb1); replace X0 := Aside0.mk ((hb1.cell (World.block_lt_of_cell? _ _ X0.out)).trans X0.out); replace X1 := Aside0.mk ((hb1.cell (World.block_lt_of_cell? _ _ X1.out)).trans X1.out); (try clear hx0 hx1); have hx0 := X0.out; have hx1 := X1.out; replace HL := Aside0.mk (Kd.C_below HL.out hb1); replace HM := Aside0.mk (Kd.C_below HM.out hb1); (try replace HP := Aside0.mk (Kd.C_below HP.out hb1)); (try replace HD := Aside0.mk (Kd.C_below HD.out hb1)); (try replace HR := Aside0.mk (Kd.C_below HR.out hb1)); clear hb1)) | (go_at_call 39; ((with_reducible refine (GS1.out _ HL.out YL.out HM.out YM.out).mono ?_); rintro e w1 ⟨rfl, hb1⟩; replace HB := Aside0.mk (below_step HB.out hb1); replace X0 := Aside0.mk ((hb1.cell (World.block_lt_of_cell? _ _ X0.out)).trans X0.out); replace X1 := Aside0.mk ((hb1.cell (World.block_lt_of_cell? _ _ X1.out)).trans X1.out); (try clear hx0 hx1); have hx0 := X0.out; have hx1 := X1.out; replace HL := Aside0.mk (Kd.C_below HL.out hb1); replace HM := Aside0.mk (Kd.C_below HM.out hb1); (try replace HP := Aside0.mk (Kd.C_below HP.out hb1)); (try replace HD := Aside0.mk (Kd.C_below HD.out hb1)); (try replace HR := Aside0.mk (Kd.C_below HR.out hb1)); clear hb1)) | (go_at_call 26; ((with_reducible refine (GA.out _ (tab_below HT.out HB.out (Nat.le_refl _))).mono ?_); rintro e w1 ⟨rfl, hb1⟩; replace HB := Aside0.mk (below_step HB.out hb1); replace X0 := Aside0.mk ((hb1.cell (World.block_lt_of_cell? _ _ X0.out)).trans X0.out); replace X1 := Aside0.mk ((hb1.cell (World.block_lt_of_cell? _ _ X1.out)).trans X1.out); (try clear hx0 hx1); have hx0 := X0.out; have hx1 := X1.out; replace HL := Aside0.mk (Kd.C_below HL.out hb1); replace HM := Aside0.mk (Kd.C_below HM.out hb1); (try replace HP := Aside0.mk (Kd.C_below HP.out hb1)); (try replace HD := Aside0.mk (Kd.C_below HD.out hb1)); (try replace HR := Aside0.mk (Kd.C_below HR.out hb1)); clear hb1)) | (go_at_call 36; ((with_reducible refine (GP.out _ HL.out YL.out).mono ?_); rintro e w1 ⟨A9, c9, rfl, hb1⟩; replace HB := Aside0.mk (below_step HB.out hb1); replace X0 := Aside0.mk ((hb1.cell (World.block_lt_of_cell? _ _ X0.out)).trans X0.out); replace X1 := Aside0.mk ((hb1.cell (World.block_lt_of_cell? _ _ X1.out)).trans X1.out); (try clear hx0 hx1); have hx0 := X0.out; have hx1 := X1.out; replace HL := Aside0.mk (Kd.C_below HL.out hb1); replace HM := Aside0.mk (Kd.C_below HM.out hb1); (try replace HP := Aside0.mk (Kd.C_below HP.out hb1)); (try replace HD := Aside0.mk (Kd.C_below HD.out hb1)); (try replace HR := Aside0.mk (Kd.C_below HR.out hb1)); clear hb1)) | (go_at_call 37; ((with_reducible refine (GD.out _ HL.out YL.out).mono ?_); rintro e w1 ⟨v, rfl, AHD, cHD, rfl, hcHD, hrHD, hb1⟩; replace HB := Aside0.mk (below_step HB.out hb1); replace X0 := Aside0.mk ((hb1.cell (World.block_lt_of_cell? _ _ X0.out)).trans X0.out); replace X1 := Aside0.mk ((hb1.cell (World.block_lt_of_cell? _ _ X1.out)).trans X1.out); (try clear hx0 hx1); have hx0 := X0.out; have hx1 := X1.out; replace HL := Aside0.mk (Kd.C_below HL.out hb1); replace HM := Aside0.mk (Kd.C_below HM.out hb1); (try replace HP := Aside0.mk (Kd.C_below HP.out hb1)); (try replace HD := Aside0.mk (Kd.C_below HD.out hb1)); (try replace HR := Aside0.mk (Kd.C_below HR.out hb1)); have HD := Aside0.mk hrHD; have HDC := Aside0.mk hcHD; clear hb1 hrHD hcHD)) | (go_at_call 50; ((with_reducible refine (GE.out _ HL.out YL.out).mono ?_); rintro e w1 ⟨v, rfl, AHR, cHR, rfl, hcHR, hrHR, hb1⟩; replace HB := Aside0.mk (below_step HB.out hb1); replace X0 := Aside0.mk ((hb1.cell (World.block_lt_of_cell? _ _ X0.out)).trans X0.out); replace X1 := Aside0.mk ((hb1.cell (World.block_lt_of_cell? _ _ X1.out)).trans X1.out); (try clear hx0 hx1); have hx0 := X0.out; have hx1 := X1.out; replace HL := Aside0.mk (Kd.C_below HL.out hb1); replace HM := Aside0.mk (Kd.C_below HM.out hb1); (try replace HP := Aside0.mk (Kd.C_below HP.out hb1)); (try replace HD := Aside0.mk (Kd.C_below HD.out hb1)); (try replace HR := Aside0.mk (Kd.C_below HR.out hb1)); have HR := Aside0.mk hrHR; have HRC := Aside0.mk hcHR; clear hb1 hrHR hcHR)) | (go_at_call 49; ((with_reducible refine (GI.out _ HL.out YL.out).mono ?_); rintro e w1 ⟨rfl, hb1⟩; replace HB := Aside0.mk (below_step HB.out hb1); replace X0 := Aside0.mk ((hb1.cell (World.block_lt_of_cell? _ _ X0.out)).trans X0.out); replace X1 := Aside0.mk ((hb1.cell (World.block_lt_of_cell? _ _ X1.out)).trans X1.out); (try clear hx0 hx1); have hx0 := X0.out; have hx1 := X1.out; replace HL := Aside0.mk (Kd.C_below HL.out hb1); replace HM := Aside0.mk (Kd.C_below HM.out hb1); (try replace HP := Aside0.mk (Kd.C_below HP.out hb1)); (try replace HD := Aside0.mk (Kd.C_below HD.out hb1)); (try replace HR := Aside0.mk (Kd.C_below HR.out hb1)); clear hb1)) | (go_at_call 39; ((with_reducible refine (GZ.out _ _ _ _ _ (Nat.le_trans ZD.out (Nat.le_trans ZL.out (by decide))) _ HD.out HDC.out HR.out HRC.out).mono ?_); rintro e w1 ⟨rfl, hb1⟩; replace HB := Aside0.mk (below_step HB.out hb1); replace X0 := Aside0.mk ((hb1.cell (World.block_lt_of_cell? _ _ X0.out)).trans X0.out); replace X1 := Aside0.mk ((hb1.cell (World.block_lt_of_cell? _ _ X1.out)).trans X1.out); (try clear hx0 hx1); have hx0 := X0.out; have hx1 := X1.out; replace HL := Aside0.mk (Kd.C_below HL.out hb1); replace HM := Aside0.mk (Kd.C_below HM.out hb1); (try replace HP := Aside0.mk (Kd.C_below HP.out hb1)); (try replace HD := Aside0.mk (Kd.C_below HD.out hb1)); (try replace HR := Aside0.mk (Kd.C_below HR.out hb1)); clear hb1)))
 go_ret
 exact ⟨by first | rfl | (simp; done) | (simp [*]; done), HB.out⟩
set_option maxRecDepth 100000 in
set_option maxHeartbeats 8000000 in
theorem puts_space_y (A0 : Option Addr) (c0 : Nat) (l0 : List It) (A1 : Option Addr) (c1 : Nat) (l1 : List It) (x : It) (q : Int) (w : World) (hr0 : Kd.C k46 w A0 l0.length l0) (hc0 : l0.length ≤ c0) (hr1 : Kd.C k46 w A1 l1.length l1) (hc1 : l1.length ≤ c1) (hT0 : TabW w)
  (hR : RightP (l0.take 66)) (hz : ¬64 < x.f1.size) (h64 : has (l0.take 66) x.f0 = false ∧ (l0.take 66).length = 64) (hH : has (l0.take 66) q = true) :
  Calls Tryd.prog 11 #[.slice A0 l0.length c0, .slice A1 l1.length c1, .agg #[.int .u64 x.f0, .string x.f1], .int .u64 q] w fun e w' => e = .returned (.bool true) ∧ Below w.heap.size w w' := by
 have F0 := Lib.hid (fun w => few_any A0 c0 l0 w hc0)
 have F1 := Lib.hid (fun w => few_any A1 c1 l1 w hc1)
 have z0 : (l0.take 66).length ≤ 66 := by rw [List.length_take]; omega
 have z1 : (l1.take 66).length ≤ 66 := by rw [List.length_take]; omega
 have y0 : (l0.take 66).length ≤ c0 := by rw [List.length_take]; omega
 have y1 : (l1.take 66).length ≤ c1 := by rw [List.length_take]; omega
 have HL := Aside0.mk (Kd.C_take (m := min l0.length 66) hr0 (by omega))
 have HM := Aside0.mk (Kd.C_take (m := min l1.length 66) hr1 (by omega))
 rw [take_min] at HL HM
 clear hr0 hr1 hc0 hc1
 generalize l0.take 66 = l at *
 generalize l1.take 66 = m at *
 obtain ⟨rr, gr0, gr1, gr2⟩ := c_right A0 c0 l (by omega)
 obtain ⟨rs, _, gs1, gs2⟩ := c_same A0 A1 c0 c1 l m (by omega)
 obtain rfl : rr = true := gr0.2 hR
 have GP := Lib.hid (c_put_err A0 c0 l (by omega) x 6 (.inr (.inr ⟨hR, hz, h64, rfl⟩)))
 have hz2 : decide (64 < (x.f1.size : Int)) = false := decide_eq_false (by omega)
 have hz3 : decide (64 < x.f1.size) = false := decide_eq_false hz
 have h65 : ((l.length : Int) == 64) = true := by rw [beq_iff_eq]; omega
 obtain ⟨rb, _, gb1, gb2⟩ := c_at A0 c0 l (by omega) x.f0
 have hrb1 := gb1 h64.1
 have GX := Lib.hid gb2
 clear gb1 gb2 h64 hz
 have GD := Lib.hid (c_drop A0 c0 l (by omega) q _ 0 (.inr (.inr ⟨hR, hH, rfl, rfl⟩)))
 have GE := Lib.hid (c_rdrop A0 c0 l (by omega) q)
 obtain ⟨ra, ga1, _, ga2⟩ := c_at A0 c0 l (by omega) q
 have hra := ga1 hH
 have GI := Lib.hid ga2
 have ZD := Aside0.mk (del_le l q)
 clear ga1 ga2 hH
 generalize delF l q = dl at *
 clear hR
 have GR1 := Lib.hid gr1
 have GR2 := Lib.hid gr2
 have GS1 := Lib.hid gs1
 have GS2 := Lib.hid gs2
 have GT := Lib.hid (c_like_true A0 c0 l (by omega))
 have GA := Lib.hid c_alive
 have GZ := Lib.hid c_same_true
 have YL := Aside0.mk y0
 have YM := Aside0.mk y1
 have ZL := Aside0.mk z0
 have HT := Lib.hid hT0
 clear gr0 gr1 gr2 gs1 gs2 hT0 y0 y1 z0 z1
 have HB := Aside0.mk (below_alloc (Below.refl w.heap.size w) (.cells #[.int .u64 x.f0, .string x.f1] 46))
 replace HL := Aside0.mk (Kd.C_alloc HL.out (.cells #[.int .u64 x.f0, .string x.f1] 46))
 replace HM := Aside0.mk (Kd.C_alloc HM.out (.cells #[.int .u64 x.f0, .string x.f1] 46))
 have X0 := Aside0.mk (itbox w x 0 _ rfl)
 have X1 := Aside0.mk (itbox w x 1 _ rfl)
 simp only [Addr.add_lit] at X0 X1
 go_enter Tryd.func11, Tryd.ntmps11
 go_wp2_with (first | (go_at_call 47; ((with_reducible refine (F0.out _).mono ?_); rintro e w1 ⟨rfl, rfl⟩)) | (go_at_call 47; ((with_reducible refine (F1.out _).mono ?_); rintro e w1 ⟨rfl, rfl⟩)) | (go_at_call 38; ((with_reducible refine (GR1.out _ HL.out YL.out).mono ?_); rintro e w1 ⟨rfl, hb1⟩; replace HB := Aside0.mk (below_step HB.out hb1); replace X0 := Aside0.mk ((hb1.cell (World.block_lt_of_cell? _ _ X0.out)).trans X0.out); replace X1 := Aside0.mk ((hb1.cell (World.block_lt_of_cell? _ _ X1.out)).trans X1.out); (try clear hx0 hx1); have hx0 := X0.out; have hx1 := X1.out; replace HL := Aside0.mk (Kd.C_below HL.out hb1); replace HM := Aside0.mk (Kd.C_below HM.out hb1); (try replace HP := Aside0.mk (Kd.C_below HP.out hb1)); (try replace HD := Aside0.mk (Kd.C_below HD.out hb1)); (try replace HR := Aside0.mk (Kd.C_below HR.out hb1)); clear hb1)) | (go_at_call 25; ((with_reducible refine (GR2.out _ HL.out YL.out).mono ?_); rintro e w1 ⟨rfl, hb1⟩; replace HB := Aside0.mk (below_step HB.out hb1); replace X0 := Aside0.mk ((hb1.cell (World.block_lt_of_cell? _ _ X0.out)).trans X0.out); replace X1 := Aside0.mk ((hb1.cell (World.block_lt_of_cell? _ _ X1.out)).trans X1.out); (try clear hx0 hx1); have hx0 := X0.out; have hx1 := X1.out; replace HL := Aside0.mk (Kd.C_below HL.out hb1); replace HM := Aside0.mk (Kd.C_below HM.out hb1); (try replace HP := Aside0.mk (Kd.C_below HP.out hb1)); (try replace HD := Aside0.mk (Kd.C_below HD.out hb1)); (try replace HR := Aside0.mk (Kd.C_below HR.out hb1)); clear hb1)) | (go_at_call 48; ((with_reducible refine (GS2.out _ HL.out YL.out HM.out YM.out).mono ?_); rintro e w1 ⟨rfl, hb1⟩; replace HB := Aside0.mk (below_step HB.out hb1); replace X0 := Aside0.mk ((hb1.cell (World.block_lt_of_cell? _ _ X0.out)).trans X0.out); replace X1 := Aside0.mk ((hb1.cell (World.block_lt_of_cell? _ _ X1.out)).trans X1.out); (try clear hx0 hx1); have hx0 := X0.out; have hx1 := X1.out; replace HL := Aside0.mk (Kd.C_below HL.out hb1); replace HM := Aside0.mk (Kd.C_below HM.out hb1); (try replace HP := Aside0.mk (Kd.C_below HP.out hb1)); (try replace HD := Aside0.mk (Kd.C_below HD.out hb1)); (try replace HR := Aside0.mk (Kd.C_below HR.out hb1)); clear hb1)) | (go_at_call 48; ((with_reducible refine (GT.out _ HL.out YL.out).mono ?_); rintro e w1 ⟨rfl, hb1⟩; replace HB := Aside0.mk (below_step HB.out hb1); replace X0 := Aside0.mk ((hb1.cell (World.block_lt_of_cell? _ _ X0.out)).trans X0.out); replace X1 := Aside0.mk ((hb1.cell (World.block_lt_of_cell? _ _ X1.out)).trans X1.out); (try clear hx0 hx1); have hx0 := X0.out; have hx1 := X1.out; replace HL := Aside0.mk (Kd.C_below HL.out hb1); replace HM := Aside0.mk (Kd.C_below HM.out hb1); (try replace HP := Aside0.mk (Kd.C_below HP.out hb1)); (try replace HD := Aside0.mk (Kd.C_below HD.out hb1)); (try replace HR := Aside0.mk (Kd.C_below HR.out hb1)); clear hb1)) | (go_at_call 39; ((with_reducible refine (GS1.out _ HL.out YL.out HM.out YM.out).mono ?_); rintro e w1 ⟨rfl, hb1⟩; replace HB := Aside0.mk (below_step HB.out hb1); replace X0 := Aside0.mk ((hb1.cell (World.block_lt_of_cell? _ _ X0.out)).trans X0.out); replace X1 := Aside0.mk ((hb1.cell (World.block_lt_of_cell? _ _ X1.out)).trans X1.out); (try clear hx0 hx1); have hx0 := X0.out; have hx1 := X1.out; replace HL := Aside0.mk (Kd.C_below HL.out hb1); replace HM := Aside0.mk (Kd.C_below HM.out hb1); (try replace HP := Aside0.mk (Kd.C_below HP.out hb1)); (try replace HD := Aside0.mk (Kd.C_below HD.out hb1)); (try replace HR := Aside0.mk (Kd.C_below HR.out hb1)); clear hb1)) | (go_at_call 26; ((with_reducible refine (GA.out _ (tab_below HT.out HB.out (Nat.le_refl _))).mono ?_); rintro e w1 ⟨rfl, hb1⟩; replace HB := Aside0.mk (below_step HB.out hb1); replace X0 := Aside0.mk ((hb1.cell (World.block_lt_of_cell? _ _ X0.out)).trans X0.out); replace X1 := Aside0.mk ((hb1.cell (World.block_lt_of_cell? _ _ X1.out)).trans X1.out); (try clear hx0 hx1); have hx0 := X0.out; have hx1 := X1.out; replace HL := Aside0.mk (Kd.C_below HL.out hb1); replace HM := Aside0.mk (Kd.C_below HM.out hb1); (try replace HP := Aside0.mk (Kd.C_below HP.out hb1)); (try replace HD := Aside0.mk (Kd.C_below HD.out hb1)); (try replace HR := Aside0.mk (Kd.C_below HR.out hb1)); clear hb1)) | (go_at_call 36; ((with_reducible refine (GP.out _ HL.out YL.out).mono ?_); rintro e w1 ⟨A9, c9, rfl, hb1⟩; replace HB := Aside0.mk (below_step HB.out hb1); replace X0 := Aside0.mk ((hb1.cell (World.block_lt_of_cell? _ _ X0.out)).trans X0.out); replace X1 := Aside0.mk ((hb1.cell (World.block_lt_of_cell? _ _ X1.out)).trans X1.out); (try clear hx0 hx1); have hx0 := X0.out; have hx1 := X1.out; replace HL := Aside0.mk (Kd.C_below HL.out hb1); replace HM := Aside0.mk (Kd.C_below HM.out hb1); (try replace HP := Aside0.mk (Kd.C_below HP.out hb1)); (try replace HD := Aside0.mk (Kd.C_below HD.out hb1)); (try replace HR := Aside0.mk (Kd.C_below HR.out hb1)); clear hb1)) | (go_at_call 49; ((with_reducible refine (GX.out _ HL.out YL.out).mono ?_); rintro e w1 ⟨rfl, hb1⟩; replace HB := Aside0.mk (below_step HB.out hb1); replace X0 := Aside0.mk ((hb1.cell (World.block_lt_of_cell? _ _ X0.out)).trans X0.out); replace X1 := Aside0.mk ((hb1.cell (World.block_lt_of_cell? _ _ X1.out)).trans X1.out); (try clear hx0 hx1); have hx0 := X0.out; have hx1 := X1.out; replace HL := Aside0.mk (Kd.C_below HL.out hb1); replace HM := Aside0.mk (Kd.C_below HM.out hb1); (try replace HP := Aside0.mk (Kd.C_below HP.out hb1)); (try replace HD := Aside0.mk (Kd.C_below HD.out hb1)); (try replace HR := Aside0.mk (Kd.C_below HR.out hb1)); clear hb1)) | (go_at_call 37; ((with_reducible refine (GD.out _ HL.out YL.out).mono ?_); rintro e w1 ⟨v, rfl, AHD, cHD, rfl, hcHD, hrHD, hb1⟩; replace HB := Aside0.mk (below_step HB.out hb1); replace X0 := Aside0.mk ((hb1.cell (World.block_lt_of_cell? _ _ X0.out)).trans X0.out); replace X1 := Aside0.mk ((hb1.cell (World.block_lt_of_cell? _ _ X1.out)).trans X1.out); (try clear hx0 hx1); have hx0 := X0.out; have hx1 := X1.out; replace HL := Aside0.mk (Kd.C_below HL.out hb1); replace HM := Aside0.mk (Kd.C_below HM.out hb1); (try replace HP := Aside0.mk (Kd.C_below HP.out hb1)); (try replace HD := Aside0.mk (Kd.C_below HD.out hb1)); (try replace HR := Aside0.mk (Kd.C_below HR.out hb1)); have HD := Aside0.mk hrHD; have HDC := Aside0.mk hcHD; clear hb1 hrHD hcHD)) | (go_at_call 50; ((with_reducible refine (GE.out _ HL.out YL.out).mono ?_); rintro e w1 ⟨v, rfl, AHR, cHR, rfl, hcHR, hrHR, hb1⟩; replace HB := Aside0.mk (below_step HB.out hb1); replace X0 := Aside0.mk ((hb1.cell (World.block_lt_of_cell? _ _ X0.out)).trans X0.out); replace X1 := Aside0.mk ((hb1.cell (World.block_lt_of_cell? _ _ X1.out)).trans X1.out); (try clear hx0 hx1); have hx0 := X0.out; have hx1 := X1.out; replace HL := Aside0.mk (Kd.C_below HL.out hb1); replace HM := Aside0.mk (Kd.C_below HM.out hb1); (try replace HP := Aside0.mk (Kd.C_below HP.out hb1)); (try replace HD := Aside0.mk (Kd.C_below HD.out hb1)); (try replace HR := Aside0.mk (Kd.C_below HR.out hb1)); have HR := Aside0.mk hrHR; have HRC := Aside0.mk hcHR; clear hb1 hrHR hcHR)) | (go_at_call 49; ((with_reducible refine (GI.out _ HL.out YL.out).mono ?_); rintro e w1 ⟨rfl, hb1⟩; replace HB := Aside0.mk (below_step HB.out hb1); replace X0 := Aside0.mk ((hb1.cell (World.block_lt_of_cell? _ _ X0.out)).trans X0.out); replace X1 := Aside0.mk ((hb1.cell (World.block_lt_of_cell? _ _ X1.out)).trans X1.out); (try clear hx0 hx1); have hx0 := X0.out; have hx1 := X1.out; replace HL := Aside0.mk (Kd.C_below HL.out hb1); replace HM := Aside0.mk (Kd.C_below HM.out hb1); (try replace HP := Aside0.mk (Kd.C_below HP.out hb1)); (try replace HD := Aside0.mk (Kd.C_below HD.out hb1)); (try replace HR := Aside0.mk (Kd.C_below HR.out hb1)); clear hb1)) | (go_at_call 39; ((with_reducible refine (GZ.out _ _ _ _ _ (Nat.le_trans ZD.out (Nat.le_trans ZL.out (by decide))) _ HD.out HDC.out HR.out HRC.out).mono ?_); rintro e w1 ⟨rfl, hb1⟩; replace HB := Aside0.mk (below_step HB.out hb1); replace X0 := Aside0.mk ((hb1.cell (World.block_lt_of_cell? _ _ X0.out)).trans X0.out); replace X1 := Aside0.mk ((hb1.cell (World.block_lt_of_cell? _ _ X1.out)).trans X1.out); (try clear hx0 hx1); have hx0 := X0.out; have hx1 := X1.out; replace HL := Aside0.mk (Kd.C_below HL.out hb1); replace HM := Aside0.mk (Kd.C_below HM.out hb1); (try replace HP := Aside0.mk (Kd.C_below HP.out hb1)); (try replace HD := Aside0.mk (Kd.C_below HD.out hb1)); (try replace HR := Aside0.mk (Kd.C_below HR.out hb1)); clear hb1)))
 go_ret
 exact ⟨by first | rfl | (simp; done) | (simp [*]; done), HB.out⟩
set_option maxRecDepth 100000 in
set_option maxHeartbeats 8000000 in
theorem puts_okfull_y (A0 : Option Addr) (c0 : Nat) (l0 : List It) (A1 : Option Addr) (c1 : Nat) (l1 : List It) (x : It) (q : Int) (w : World) (hr0 : Kd.C k46 w A0 l0.length l0) (hc0 : l0.length ≤ c0) (hr1 : Kd.C k46 w A1 l1.length l1) (hc1 : l1.length ≤ c1) (hT0 : TabW w)
  (hR : RightP (l0.take 66)) (hz : ¬64 < x.f1.size) (h64 : has (l0.take 66) x.f0 = true ∧ (l0.take 66).length = 64) (hH : has (l0.take 66) q = true) :
  Calls Tryd.prog 11 #[.slice A0 l0.length c0, .slice A1 l1.length c1, .agg #[.int .u64 x.f0, .string x.f1], .int .u64 q] w fun e w' => e = .returned (.bool true) ∧ Below w.heap.size w w' := by
 have F0 := Lib.hid (fun w => few_any A0 c0 l0 w hc0)
 have F1 := Lib.hid (fun w => few_any A1 c1 l1 w hc1)
 have z0 : (l0.take 66).length ≤ 66 := by rw [List.length_take]; omega
 have z1 : (l1.take 66).length ≤ 66 := by rw [List.length_take]; omega
 have y0 : (l0.take 66).length ≤ c0 := by rw [List.length_take]; omega
 have y1 : (l1.take 66).length ≤ c1 := by rw [List.length_take]; omega
 have HL := Aside0.mk (Kd.C_take (m := min l0.length 66) hr0 (by omega))
 have HM := Aside0.mk (Kd.C_take (m := min l1.length 66) hr1 (by omega))
 rw [take_min] at HL HM
 clear hr0 hr1 hc0 hc1
 generalize l0.take 66 = l at *
 generalize l1.take 66 = m at *
 obtain ⟨rr, gr0, gr1, gr2⟩ := c_right A0 c0 l (by omega)
 obtain ⟨rs, _, gs1, gs2⟩ := c_same A0 A1 c0 c1 l m (by omega)
 obtain rfl : rr = true := gr0.2 hR
 have GP := Lib.hid (c_put A0 c0 l (by omega) x _ 0 (.inr (.inr (.inr ⟨hR, hz, (fun h => by rw [h64.1] at h; cases h.1), rfl, rfl⟩))))
 have GQ := Lib.hid (c_rput A0 c0 l (by omega) x)
 have hz2 : decide (64 < (x.f1.size : Int)) = false := decide_eq_false (by omega)
 have hz3 : decide (64 < x.f1.size) = false := decide_eq_false hz
 have h65 : ((l.length : Int) == 64) = true := by rw [beq_iff_eq]; omega
 obtain ⟨rb, gb1, _, gb2⟩ := c_at A0 c0 l (by omega) x.f0
 have hrb1 := gb1 h64.1
 have hrb2 : decide (rb < 0) = false := decide_eq_false (by omega)
 have GX := Lib.hid gb2
 have ZP := Aside0.mk (ins_le l ((right_iff l).1 hR).1 x)
 clear gb1 gb2 h64 hz
 generalize insF l x = pl at *
 have GD := Lib.hid (c_drop A0 c0 l (by omega) q _ 0 (.inr (.inr ⟨hR, hH, rfl, rfl⟩)))
 have GE := Lib.hid (c_rdrop A0 c0 l (by omega) q)
 obtain ⟨ra, ga1, _, ga2⟩ := c_at A0 c0 l (by omega) q
 have hra := ga1 hH
 have GI := Lib.hid ga2
 have ZD := Aside0.mk (del_le l q)
 clear ga1 ga2 hH
 generalize delF l q = dl at *
 clear hR
 have GR1 := Lib.hid gr1
 have GR2 := Lib.hid gr2
 have GS1 := Lib.hid gs1
 have GS2 := Lib.hid gs2
 have GT := Lib.hid (c_like_true A0 c0 l (by omega))
 have GA := Lib.hid c_alive
 have GZ := Lib.hid c_same_true
 have YL := Aside0.mk y0
 have YM := Aside0.mk y1
 have ZL := Aside0.mk z0
 have HT := Lib.hid hT0
 clear gr0 gr1 gr2 gs1 gs2 hT0 y0 y1 z0 z1
 have HB := Aside0.mk (below_alloc (Below.refl w.heap.size w) (.cells #[.int .u64 x.f0, .string x.f1] 46))
 replace HL := Aside0.mk (Kd.C_alloc HL.out (.cells #[.int .u64 x.f0, .string x.f1] 46))
 replace HM := Aside0.mk (Kd.C_alloc HM.out (.cells #[.int .u64 x.f0, .string x.f1] 46))
 have X0 := Aside0.mk (itbox w x 0 _ rfl)
 have X1 := Aside0.mk (itbox w x 1 _ rfl)
 simp only [Addr.add_lit] at X0 X1
 go_enter Tryd.func11, Tryd.ntmps11
 go_wp2_with (first | (go_at_call 47; ((with_reducible refine (F0.out _).mono ?_); rintro e w1 ⟨rfl, rfl⟩)) | (go_at_call 47; ((with_reducible refine (F1.out _).mono ?_); rintro e w1 ⟨rfl, rfl⟩)) | (go_at_call 38; ((with_reducible refine (GR1.out _ HL.out YL.out).mono ?_); rintro e w1 ⟨rfl, hb1⟩; replace HB := Aside0.mk (below_step HB.out hb1); replace X0 := Aside0.mk ((hb1.cell (World.block_lt_of_cell? _ _ X0.out)).trans X0.out); replace X1 := Aside0.mk ((hb1.cell (World.block_lt_of_cell? _ _ X1.out)).trans X1.out); (try clear hx0 hx1); have hx0 := X0.out; have hx1 := X1.out; replace HL := Aside0.mk (Kd.C_below HL.out hb1); replace HM := Aside0.mk (Kd.C_below HM.out hb1); (try replace HP := Aside0.mk (Kd.C_below HP.out hb1)); (try replace HD := Aside0.mk (Kd.C_below HD.out hb1)); (try replace HR := Aside0.mk (Kd.C_below HR.out hb1)); clear hb1)) | (go_at_call 25; ((with_reducible refine (GR2.out _ HL.out YL.out).mono ?_); rintro e w1 ⟨rfl, hb1⟩; replace HB := Aside0.mk (below_step HB.out hb1); replace X0 := Aside0.mk ((hb1.cell (World.block_lt_of_cell? _ _ X0.out)).trans X0.out); replace X1 := Aside0.mk ((hb1.cell (World.block_lt_of_cell? _ _ X1.out)).trans X1.out); (try clear hx0 hx1); have hx0 := X0.out; have hx1 := X1.out; replace HL := Aside0.mk (Kd.C_below HL.out hb1); replace HM := Aside0.mk (Kd.C_below HM.out hb1); (try replace HP := Aside0.mk (Kd.C_below HP.out hb1)); (try replace HD := Aside0.mk (Kd.C_below HD.out hb1)); (try replace HR := Aside0.mk (Kd.C_below HR.out hb1)); clear hb1)) | (go_at_call 48; ((with_reducible refine (GS2.out _ HL.out YL.out HM.out YM.out).mono ?_); rintro e w1 ⟨rfl, hb1⟩; replace HB := Aside0.mk (below_step HB.out hb1); replace X0 := Aside0.mk ((hb1.cell (World.block_lt_of_cell? _ _ X0.out)).trans X0.out); replace X1 := Aside0.mk ((hb1.cell (World.block_lt_of_cell? _ _ X1.out)).trans X1.out); (try clear hx0 hx1); have hx0 := X0.out; have hx1 := X1.out; replace HL := Aside0.mk (Kd.C_below HL.out hb1); replace HM := Aside0.mk (Kd.C_below HM.out hb1); (try replace HP := Aside0.mk (Kd.C_below HP.out hb1)); (try replace HD := Aside0.mk (Kd.C_below HD.out hb1)); (try replace HR := Aside0.mk (Kd.C_below HR.out hb1)); clear hb1)) | (go_at_call 48; ((with_reducible refine (GT.out _ HL.out YL.out).mono ?_); rintro e w1 ⟨rfl, hb1⟩; replace HB := Aside0.mk (below_step HB.out hb1); replace X0 := Aside0.mk ((hb1.cell (World.block_lt_of_cell? _ _ X0.out)).trans X0.out); replace X1 := Aside0.mk ((hb1.cell (World.block_lt_of_cell? _ _ X1.out)).trans X1.out); (try clear hx0 hx1); have hx0 := X0.out; have hx1 := X1.out; replace HL := Aside0.mk (Kd.C_below HL.out hb1); replace HM := Aside0.mk (Kd.C_below HM.out hb1); (try replace HP := Aside0.mk (Kd.C_below HP.out hb1)); (try replace HD := Aside0.mk (Kd.C_below HD.out hb1)); (try replace HR := Aside0.mk (Kd.C_below HR.out hb1)); clear hb1)) | (go_at_call 39; ((with_reducible refine (GS1.out _ HL.out YL.out HM.out YM.out).mono ?_); rintro e w1 ⟨rfl, hb1⟩; replace HB := Aside0.mk (below_step HB.out hb1); replace X0 := Aside0.mk ((hb1.cell (World.block_lt_of_cell? _ _ X0.out)).trans X0.out); replace X1 := Aside0.mk ((hb1.cell (World.block_lt_of_cell? _ _ X1.out)).trans X1.out); (try clear hx0 hx1); have hx0 := X0.out; have hx1 := X1.out; replace HL := Aside0.mk (Kd.C_below HL.out hb1); replace HM := Aside0.mk (Kd.C_below HM.out hb1); (try replace HP := Aside0.mk (Kd.C_below HP.out hb1)); (try replace HD := Aside0.mk (Kd.C_below HD.out hb1)); (try replace HR := Aside0.mk (Kd.C_below HR.out hb1)); clear hb1)) | (go_at_call 26; ((with_reducible refine (GA.out _ (tab_below HT.out HB.out (Nat.le_refl _))).mono ?_); rintro e w1 ⟨rfl, hb1⟩; replace HB := Aside0.mk (below_step HB.out hb1); replace X0 := Aside0.mk ((hb1.cell (World.block_lt_of_cell? _ _ X0.out)).trans X0.out); replace X1 := Aside0.mk ((hb1.cell (World.block_lt_of_cell? _ _ X1.out)).trans X1.out); (try clear hx0 hx1); have hx0 := X0.out; have hx1 := X1.out; replace HL := Aside0.mk (Kd.C_below HL.out hb1); replace HM := Aside0.mk (Kd.C_below HM.out hb1); (try replace HP := Aside0.mk (Kd.C_below HP.out hb1)); (try replace HD := Aside0.mk (Kd.C_below HD.out hb1)); (try replace HR := Aside0.mk (Kd.C_below HR.out hb1)); clear hb1)) | (go_at_call 36; ((with_reducible refine (GP.out _ HL.out YL.out).mono ?_); rintro e w1 ⟨v, rfl, AHP, cHP, rfl, hcHP, hrHP, hb1⟩; replace HB := Aside0.mk (below_step HB.out hb1); replace X0 := Aside0.mk ((hb1.cell (World.block_lt_of_cell? _ _ X0.out)).trans X0.out); replace X1 := Aside0.mk ((hb1.cell (World.block_lt_of_cell? _ _ X1.out)).trans X1.out); (try clear hx0 hx1); have hx0 := X0.out; have hx1 := X1.out; replace HL := Aside0.mk (Kd.C_below HL.out hb1); replace HM := Aside0.mk (Kd.C_below HM.out hb1); (try replace HP := Aside0.mk (Kd.C_below HP.out hb1)); (try replace HD := Aside0.mk (Kd.C_below HD.out hb1)); (try replace HR := Aside0.mk (Kd.C_below HR.out hb1)); have HP := Aside0.mk hrHP; have HPC := Aside0.mk hcHP; clear hb1 hrHP hcHP)) | (go_at_call 49; ((with_reducible refine (GX.out _ HL.out YL.out).mono ?_); rintro e w1 ⟨rfl, hb1⟩; replace HB := Aside0.mk (below_step HB.out hb1); replace X0 := Aside0.mk ((hb1.cell (World.block_lt_of_cell? _ _ X0.out)).trans X0.out); replace X1 := Aside0.mk ((hb1.cell (World.block_lt_of_cell? _ _ X1.out)).trans X1.out); (try clear hx0 hx1); have hx0 := X0.out; have hx1 := X1.out; replace HL := Aside0.mk (Kd.C_below HL.out hb1); replace HM := Aside0.mk (Kd.C_below HM.out hb1); (try replace HP := Aside0.mk (Kd.C_below HP.out hb1)); (try replace HD := Aside0.mk (Kd.C_below HD.out hb1)); (try replace HR := Aside0.mk (Kd.C_below HR.out hb1)); clear hb1)) | (go_at_call 51; ((with_reducible refine (GQ.out _ HL.out YL.out).mono ?_); rintro e w1 ⟨v, rfl, AHQ, cHQ, rfl, hcHQ, hrHQ, hb1⟩; replace HB := Aside0.mk (below_step HB.out hb1); replace X0 := Aside0.mk ((hb1.cell (World.block_lt_of_cell? _ _ X0.out)).trans X0.out); replace X1 := Aside0.mk ((hb1.cell (World.block_lt_of_cell? _ _ X1.out)).trans X1.out); (try clear hx0 hx1); have hx0 := X0.out; have hx1 := X1.out; replace HL := Aside0.mk (Kd.C_below HL.out hb1); replace HM := Aside0.mk (Kd.C_below HM.out hb1); (try replace HP := Aside0.mk (Kd.C_below HP.out hb1)); (try replace HD := Aside0.mk (Kd.C_below HD.out hb1)); (try replace HR := Aside0.mk (Kd.C_below HR.out hb1)); have HQ := Aside0.mk hrHQ; have HQC := Aside0.mk hcHQ; clear hb1 hrHQ hcHQ)) | (go_at_call 39; ((with_reducible refine (GZ.out _ _ _ _ _ (Nat.le_trans ZP.out (Nat.le_trans (Nat.succ_le_succ ZL.out) (by decide))) _ HP.out HPC.out HQ.out HQC.out).mono ?_); rintro e w1 ⟨rfl, hb1⟩; replace HB := Aside0.mk (below_step HB.out hb1); replace X0 := Aside0.mk ((hb1.cell (World.block_lt_of_cell? _ _ X0.out)).trans X0.out); replace X1 := Aside0.mk ((hb1.cell (World.block_lt_of_cell? _ _ X1.out)).trans X1.out); (try clear hx0 hx1); have hx0 := X0.out; have hx1 := X1.out; replace HL := Aside0.mk (Kd.C_below HL.out hb1); replace HM := Aside0.mk (Kd.C_below HM.out hb1); (try replace HP := Aside0.mk (Kd.C_below HP.out hb1)); (try replace HD := Aside0.mk (Kd.C_below HD.out hb1)); (try replace HR := Aside0.mk (Kd.C_below HR.out hb1)); clear hb1)) | (go_at_call 37; ((with_reducible refine (GD.out _ HL.out YL.out).mono ?_); rintro e w1 ⟨v, rfl, AHD, cHD, rfl, hcHD, hrHD, hb1⟩; replace HB := Aside0.mk (below_step HB.out hb1); replace X0 := Aside0.mk ((hb1.cell (World.block_lt_of_cell? _ _ X0.out)).trans X0.out); replace X1 := Aside0.mk ((hb1.cell (World.block_lt_of_cell? _ _ X1.out)).trans X1.out); (try clear hx0 hx1); have hx0 := X0.out; have hx1 := X1.out; replace HL := Aside0.mk (Kd.C_below HL.out hb1); replace HM := Aside0.mk (Kd.C_below HM.out hb1); (try replace HP := Aside0.mk (Kd.C_below HP.out hb1)); (try replace HD := Aside0.mk (Kd.C_below HD.out hb1)); (try replace HR := Aside0.mk (Kd.C_below HR.out hb1)); have HD := Aside0.mk hrHD; have HDC := Aside0.mk hcHD; clear hb1 hrHD hcHD)) | (go_at_call 50; ((with_reducible refine (GE.out _ HL.out YL.out).mono ?_); rintro e w1 ⟨v, rfl, AHR, cHR, rfl, hcHR, hrHR, hb1⟩; replace HB := Aside0.mk (below_step HB.out hb1); replace X0 := Aside0.mk ((hb1.cell (World.block_lt_of_cell? _ _ X0.out)).trans X0.out); replace X1 := Aside0.mk ((hb1.cell (World.block_lt_of_cell? _ _ X1.out)).trans X1.out); (try clear hx0 hx1); have hx0 := X0.out; have hx1 := X1.out; replace HL := Aside0.mk (Kd.C_below HL.out hb1); replace HM := Aside0.mk (Kd.C_below HM.out hb1); (try replace HP := Aside0.mk (Kd.C_below HP.out hb1)); (try replace HD := Aside0.mk (Kd.C_below HD.out hb1)); (try replace HR := Aside0.mk (Kd.C_below HR.out hb1)); have HR := Aside0.mk hrHR; have HRC := Aside0.mk hcHR; clear hb1 hrHR hcHR)) | (go_at_call 49; ((with_reducible refine (GI.out _ HL.out YL.out).mono ?_); rintro e w1 ⟨rfl, hb1⟩; replace HB := Aside0.mk (below_step HB.out hb1); replace X0 := Aside0.mk ((hb1.cell (World.block_lt_of_cell? _ _ X0.out)).trans X0.out); replace X1 := Aside0.mk ((hb1.cell (World.block_lt_of_cell? _ _ X1.out)).trans X1.out); (try clear hx0 hx1); have hx0 := X0.out; have hx1 := X1.out; replace HL := Aside0.mk (Kd.C_below HL.out hb1); replace HM := Aside0.mk (Kd.C_below HM.out hb1); (try replace HP := Aside0.mk (Kd.C_below HP.out hb1)); (try replace HD := Aside0.mk (Kd.C_below HD.out hb1)); (try replace HR := Aside0.mk (Kd.C_below HR.out hb1)); clear hb1)) | (go_at_call 39; ((with_reducible refine (GZ.out _ _ _ _ _ (Nat.le_trans ZD.out (Nat.le_trans ZL.out (by decide))) _ HD.out HDC.out HR.out HRC.out).mono ?_); rintro e w1 ⟨rfl, hb1⟩; replace HB := Aside0.mk (below_step HB.out hb1); replace X0 := Aside0.mk ((hb1.cell (World.block_lt_of_cell? _ _ X0.out)).trans X0.out); replace X1 := Aside0.mk ((hb1.cell (World.block_lt_of_cell? _ _ X1.out)).trans X1.out); (try clear hx0 hx1); have hx0 := X0.out; have hx1 := X1.out; replace HL := Aside0.mk (Kd.C_below HL.out hb1); replace HM := Aside0.mk (Kd.C_below HM.out hb1); (try replace HP := Aside0.mk (Kd.C_below HP.out hb1)); (try replace HD := Aside0.mk (Kd.C_below HD.out hb1)); (try replace HR := Aside0.mk (Kd.C_below HR.out hb1)); clear hb1)))
 go_ret
 exact ⟨by first | rfl | (simp; done) | (simp [*]; done), HB.out⟩
set_option maxRecDepth 100000 in
set_option maxHeartbeats 8000000 in
theorem puts_ok_y (A0 : Option Addr) (c0 : Nat) (l0 : List It) (A1 : Option Addr) (c1 : Nat) (l1 : List It) (x : It) (q : Int) (w : World) (hr0 : Kd.C k46 w A0 l0.length l0) (hc0 : l0.length ≤ c0) (hr1 : Kd.C k46 w A1 l1.length l1) (hc1 : l1.length ≤ c1) (hT0 : TabW w)
  (hR : RightP (l0.take 66)) (hz : ¬64 < x.f1.size) (h64 : ¬(l0.take 66).length = 64) (hH : has (l0.take 66) q = true) :
  Calls Tryd.prog 11 #[.slice A0 l0.length c0, .slice A1 l1.length c1, .agg #[.int .u64 x.f0, .string x.f1], .int .u64 q] w fun e w' => e = .returned (.bool true) ∧ Below w.heap.size w w' := by
 have F0 := Lib.hid (fun w => few_any A0 c0 l0 w hc0)
 have F1 := Lib.hid (fun w => few_any A1 c1 l1 w hc1)
 have z0 : (l0.take 66).length ≤ 66 := by rw [List.length_take]; omega
 have z1 : (l1.take 66).length ≤ 66 := by rw [List.length_take]; omega
 have y0 : (l0.take 66).length ≤ c0 := by rw [List.length_take]; omega
 have y1 : (l1.take 66).length ≤ c1 := by rw [List.length_take]; omega
 have HL := Aside0.mk (Kd.C_take (m := min l0.length 66) hr0 (by omega))
 have HM := Aside0.mk (Kd.C_take (m := min l1.length 66) hr1 (by omega))
 rw [take_min] at HL HM
 clear hr0 hr1 hc0 hc1
 generalize l0.take 66 = l at *
 generalize l1.take 66 = m at *
 obtain ⟨rr, gr0, gr1, gr2⟩ := c_right A0 c0 l (by omega)
 obtain ⟨rs, _, gs1, gs2⟩ := c_same A0 A1 c0 c1 l m (by omega)
 obtain rfl : rr = true := gr0.2 hR
 have GP := Lib.hid (c_put A0 c0 l (by omega) x _ 0 (.inr (.inr (.inr ⟨hR, hz, fun h => h64 h.2, rfl, rfl⟩))))
 have GQ := Lib.hid (c_rput A0 c0 l (by omega) x)
 have hz2 : decide (64 < (x.f1.size : Int)) = false := decide_eq_false (by omega)
 have hz3 : decide (64 < x.f1.size) = false := decide_eq_false hz
 have h65 : ((l.length : Int) == 64) = false := by rw [beq_eq_false_iff_ne]; omega
 have h66 : (l.length == 64) = false := by rw [beq_eq_false_iff_ne]; omega
 have ZP := Aside0.mk (ins_le l ((right_iff l).1 hR).1 x)
 clear h64 hz
 generalize insF l x = pl at *
 have GD := Lib.hid (c_drop A0 c0 l (by omega) q _ 0 (.inr (.inr ⟨hR, hH, rfl, rfl⟩)))
 have GE := Lib.hid (c_rdrop A0 c0 l (by omega) q)
 obtain ⟨ra, ga1, _, ga2⟩ := c_at A0 c0 l (by omega) q
 have hra := ga1 hH
 have GI := Lib.hid ga2
 have ZD := Aside0.mk (del_le l q)
 clear ga1 ga2 hH
 generalize delF l q = dl at *
 clear hR
 have GR1 := Lib.hid gr1
 have GR2 := Lib.hid gr2
 have GS1 := Lib.hid gs1
 have GS2 := Lib.hid gs2
 have GT := Lib.hid (c_like_true A0 c0 l (by omega))
 have GA := Lib.hid c_alive
 have GZ := Lib.hid c_same_true
 have YL := Aside0.mk y0
 have YM := Aside0.mk y1
 have ZL := Aside0.mk z0
 have HT := Lib.hid hT0
 clear gr0 gr1 gr2 gs1 gs2 hT0 y0 y1 z0 z1
 have HB := Aside0.mk (below_alloc (Below.refl w.heap.size w) (.cells #[.int .u64 x.f0, .string x.f1] 46))
 replace HL := Aside0.mk (Kd.C_alloc HL.out (.cells #[.int .u64 x.f0, .string x.f1] 46))
 replace HM := Aside0.mk (Kd.C_alloc HM.out (.cells #[.int .u64 x.f0, .string x.f1] 46))
 have X0 := Aside0.mk (itbox w x 0 _ rfl)
 have X1 := Aside0.mk (itbox w x 1 _ rfl)
 simp only [Addr.add_lit] at X0 X1
 go_enter Tryd.func11, Tryd.ntmps11
 go_wp2_with (first | (go_at_call 47; ((with_reducible refine (F0.out _).mono ?_); rintro e w1 ⟨rfl, rfl⟩)) | (go_at_call 47; ((with_reducible refine (F1.out _).mono ?_); rintro e w1 ⟨rfl, rfl⟩)) | (go_at_call 38; ((with_reducible refine (GR1.out _ HL.out YL.out).mono ?_); rintro e w1 ⟨rfl, hb1⟩; replace HB := Aside0.mk (below_step HB.out hb1); replace X0 := Aside0.mk ((hb1.cell (World.block_lt_of_cell? _ _ X0.out)).trans X0.out); replace X1 := Aside0.mk ((hb1.cell (World.block_lt_of_cell? _ _ X1.out)).trans X1.out); (try clear hx0 hx1); have hx0 := X0.out; have hx1 := X1.out; replace HL := Aside0.mk (Kd.C_below HL.out hb1); replace HM := Aside0.mk (Kd.C_below HM.out hb1); (try replace HP := Aside0.mk (Kd.C_below HP.out hb1)); (try replace HD := Aside0.mk (Kd.C_below HD.out hb1)); (try replace HR := Aside0.mk (Kd.C_below HR.out hb1)); clear hb1)) | (go_at_call 25; ((with_reducible refine (GR2.out _ HL.out YL.out).mono ?_); rintro e w1 ⟨rfl, hb1⟩; replace HB := Aside0.mk (below_step HB.out hb1); replace X0 := Aside0.mk ((hb1.cell (World.block_lt_of_cell? _ _ X0.out)).trans X0.out); replace X1 := Aside0.mk ((hb1.cell (World.block_lt_of_cell? _ _ X1.out)).trans X1.out); (try clear hx0 hx1); have hx0 := X0.out; have hx1 := X1.out; replace HL := Aside0.mk (Kd.C_below HL.out hb1); replace HM := Aside0.mk (Kd.C_below HM.out hb1); (try replace HP := Aside0.mk (Kd.C_below HP.out hb1)); (try replace HD := Aside0.mk (Kd.C_below HD.out hb1)); (try replace HR := Aside0.mk (Kd.C_below HR.out hb1)); clear hb1)) | (go_at_call 48; ((with_reducible refine (GS2.out _ HL.out YL.out HM.out YM.out).mono ?_); rintro e w1 ⟨rfl, hb1⟩; replace HB := Aside0.mk (below_step HB.out hb1); replace X0 := Aside0.mk ((hb1.cell (World.block_lt_of_cell? _ _ X0.out)).trans X0.out); replace X1 := Aside0.mk ((hb1.cell (World.block_lt_of_cell? _ _ X1.out)).trans X1.out); (try clear hx0 hx1); have hx0 := X0.out; have hx1 := X1.out; replace HL := Aside0.mk (Kd.C_below HL.out hb1); replace HM := Aside0.mk (Kd.C_below HM.out hb1); (try replace HP := Aside0.mk (Kd.C_below HP.out hb1)); (try replace HD := Aside0.mk (Kd.C_below HD.out hb1)); (try replace HR := Aside0.mk (Kd.C_below HR.out hb1)); clear hb1)) | (go_at_call 48; ((with_reducible refine (GT.out _ HL.out YL.out).mono ?_); rintro e w1 ⟨rfl, hb1⟩; replace HB := Aside0.mk (below_step HB.out hb1); replace X0 := Aside0.mk ((hb1.cell (World.block_lt_of_cell? _ _ X0.out)).trans X0.out); replace X1 := Aside0.mk ((hb1.cell (World.block_lt_of_cell? _ _ X1.out)).trans X1.out); (try clear hx0 hx1); have hx0 := X0.out; have hx1 := X1.out; replace HL := Aside0.mk (Kd.C_below HL.out hb1); replace HM := Aside0.mk (Kd.C_below HM.out hb1); (try replace HP := Aside0.mk (Kd.C_below HP.out hb1)); (try replace HD := Aside0.mk (Kd.C_below HD.out hb1)); (try replace HR := Aside0.mk (Kd.C_below HR.out hb1)); clear hb1)) | (go_at_call 39; ((with_reducible refine (GS1.out _ HL.out YL.out HM.out YM.out).mono ?_); rintro e w1 ⟨rfl, hb1⟩; replace HB := Aside0.mk (below_step HB.out hb1); replace X0 := Aside0.mk ((hb1.cell (World.block_lt_of_cell? _ _ X0.out)).trans X0.out); replace X1 := Aside0.mk ((hb1.cell (World.block_lt_of_cell? _ _ X1.out)).trans X1.out); (try clear hx0 hx1); have hx0 := X0.out; have hx1 := X1.out; replace HL := Aside0.mk (Kd.C_below HL.out hb1); replace HM := Aside0.mk (Kd.C_below HM.out hb1); (try replace HP := Aside0.mk (Kd.C_below HP.out hb1)); (try replace HD := Aside0.mk (Kd.C_below HD.out hb1)); (try replace HR := Aside0.mk (Kd.C_below HR.out hb1)); clear hb1)) | (go_at_call 26; ((with_reducible refine (GA.out _ (tab_below HT.out HB.out (Nat.le_refl _))).mono ?_); rintro e w1 ⟨rfl, hb1⟩; replace HB := Aside0.mk (below_step HB.out hb1); replace X0 := Aside0.mk ((hb1.cell (World.block_lt_of_cell? _ _ X0.out)).trans X0.out); replace X1 := Aside0.mk ((hb1.cell (World.block_lt_of_cell? _ _ X1.out)).trans X1.out); (try clear hx0 hx1); have hx0 := X0.out; have hx1 := X1.out; replace HL := Aside0.mk (Kd.C_below HL.out hb1); replace HM := Aside0.mk (Kd.C_below HM.out hb1); (try replace HP := Aside0.mk (Kd.C_below HP.out hb1)); (try replace HD := Aside0.mk (Kd.C_below HD.out hb1)); (try replace HR := Aside0.mk (Kd.C_below HR.out hb1)); clear hb1)) | (go_at_call 36; ((with_reducible refine (GP.out _ HL.out YL.out).mono ?_); rintro e w1 ⟨v, rfl, AHP, cHP, rfl, hcHP, hrHP, hb1⟩; replace HB := Aside0.mk (below_step HB.out hb1); replace X0 := Aside0.mk ((hb1.cell (World.block_lt_of_cell? _ _ X0.out)).trans X0.out); replace X1 := Aside0.mk ((hb1.cell (World.block_lt_of_cell? _ _ X1.out)).trans X1.out); (try clear hx0 hx1); have hx0 := X0.out; have hx1 := X1.out; replace HL := Aside0.mk (Kd.C_below HL.out hb1); replace HM := Aside0.mk (Kd.C_below HM.out hb1); (try replace HP := Aside0.mk (Kd.C_below HP.out hb1)); (try replace HD := Aside0.mk (Kd.C_below HD.out hb1)); (try replace HR := Aside0.mk (Kd.C_below HR.out hb1)); have HP := Aside0.mk hrHP; have HPC := Aside0.mk hcHP; clear hb1 hrHP hcHP)) | (go_at_call 51; ((with_reducible refine (GQ.out _ HL.out YL.out).mono ?_); rintro e w1 ⟨v, rfl, AHQ, cHQ, rfl, hcHQ, hrHQ, hb1⟩; replace HB := Aside0.mk (below_step HB.out hb1); replace X0 := Aside0.mk ((hb1.cell (World.block_lt_of_cell? _ _ X0.out)).trans X0.out); replace X1 := Aside0.mk ((hb1.cell (World.block_lt_of_cell? _ _ X1.out)).trans X1.out); (try clear hx0 hx1); have hx0 := X0.out; have hx1 := X1.out; replace HL := Aside0.mk (Kd.C_below HL.out hb1); replace HM := Aside0.mk (Kd.C_below HM.out hb1); (try replace HP := Aside0.mk (Kd.C_below HP.out hb1)); (try replace HD := Aside0.mk (Kd.C_below HD.out hb1)); (try replace HR := Aside0.mk (Kd.C_below HR.out hb1)); have HQ := Aside0.mk hrHQ; have HQC := Aside0.mk hcHQ; clear hb1 hrHQ hcHQ)) | (go_at_call 39; ((with_reducible refine (GZ.out _ _ _ _ _ (Nat.le_trans ZP.out (Nat.le_trans (Nat.succ_le_succ ZL.out) (by decide))) _ HP.out HPC.out HQ.out HQC.out).mono ?_); rintro e w1 ⟨rfl, hb1⟩; replace HB := Aside0.mk (below_step HB.out hb1); replace X0 := Aside0.mk ((hb1.cell (World.block_lt_of_cell? _ _ X0.out)).trans X0.out); replace X1 := Aside0.mk ((hb1.cell (World.block_lt_of_cell? _ _ X1.out)).trans X1.out); (try clear hx0 hx1); have hx0 := X0.out; have hx1 := X1.out; replace HL := Aside0.mk (Kd.C_below HL.out hb1); replace HM := Aside0.mk (Kd.C_below HM.out hb1); (try replace HP := Aside0.mk (Kd.C_below HP.out hb1)); (try replace HD := Aside0.mk (Kd.C_below HD.out hb1)); (try replace HR := Aside0.mk (Kd.C_below HR.out hb1)); clear hb1)) | (go_at_call 37; ((with_reducible refine (GD.out _ HL.out YL.out).mono ?_); rintro e w1 ⟨v, rfl, AHD, cHD, rfl, hcHD, hrHD, hb1⟩; replace HB := Aside0.mk (below_step HB.out hb1); replace X0 := Aside0.mk ((hb1.cell (World.block_lt_of_cell? _ _ X0.out)).trans X0.out); replace X1 := Aside0.mk ((hb1.cell (World.block_lt_of_cell? _ _ X1.out)).trans X1.out); (try clear hx0 hx1); have hx0 := X0.out; have hx1 := X1.out; replace HL := Aside0.mk (Kd.C_below HL.out hb1); replace HM := Aside0.mk (Kd.C_below HM.out hb1); (try replace HP := Aside0.mk (Kd.C_below HP.out hb1)); (try replace HD := Aside0.mk (Kd.C_below HD.out hb1)); (try replace HR := Aside0.mk (Kd.C_below HR.out hb1)); have HD := Aside0.mk hrHD; have HDC := Aside0.mk hcHD; clear hb1 hrHD hcHD)) | (go_at_call 50; ((with_reducible refine (GE.out _ HL.out YL.out).mono ?_); rintro e w1 ⟨v, rfl, AHR, cHR, rfl, hcHR, hrHR, hb1⟩; replace HB := Aside0.mk (below_step HB.out hb1); replace X0 := Aside0.mk ((hb1.cell (World.block_lt_of_cell? _ _ X0.out)).trans X0.out); replace X1 := Aside0.mk ((hb1.cell (World.block_lt_of_cell? _ _ X1.out)).trans X1.out); (try clear hx0 hx1); have hx0 := X0.out; have hx1 := X1.out; replace HL := Aside0.mk (Kd.C_below HL.out hb1); replace HM := Aside0.mk (Kd.C_below HM.out hb1); (try replace HP := Aside0.mk (Kd.C_below HP.out hb1)); (try replace HD := Aside0.mk (Kd.C_below HD.out hb1)); (try replace HR := Aside0.mk (Kd.C_below HR.out hb1)); have HR := Aside0.mk hrHR; have HRC := Aside0.mk hcHR; clear hb1 hrHR hcHR)) | (go_at_call 49; ((with_reducible refine (GI.out _ HL.out YL.out).mono ?_); rintro e w1 ⟨rfl, hb1⟩; replace HB := Aside0.mk (below_step HB.out hb1); replace X0 := Aside0.mk ((hb1.cell (World.block_lt_of_cell? _ _ X0.out)).trans X0.out); replace X1 := Aside0.mk ((hb1.cell (World.block_lt_of_cell? _ _ X1.out)).trans X1.out); (try clear hx0 hx1); have hx0 := X0.out; have hx1 := X1.out; replace HL := Aside0.mk (Kd.C_below HL.out hb1); replace HM := Aside0.mk (Kd.C_below HM.out hb1); (try replace HP := Aside0.mk (Kd.C_below HP.out hb1)); (try replace HD := Aside0.mk (Kd.C_below HD.out hb1)); (try replace HR := Aside0.mk (Kd.C_below HR.out hb1)); clear hb1)) | (go_at_call 39; ((with_reducible refine (GZ.out _ _ _ _ _ (Nat.le_trans ZD.out (Nat.le_trans ZL.out (by decide))) _ HD.out HDC.out HR.out HRC.out).mono ?_); rintro e w1 ⟨rfl, hb1⟩; replace HB := Aside0.mk (below_step HB.out hb1); replace X0 := Aside0.mk ((hb1.cell (World.block_lt_of_cell? _ _ X0.out)).trans X0.out); replace X1 := Aside0.mk ((hb1.cell (World.block_lt_of_cell? _ _ X1.out)).trans X1.out); (try clear hx0 hx1); have hx0 := X0.out; have hx1 := X1.out; replace HL := Aside0.mk (Kd.C_below HL.out hb1); replace HM := Aside0.mk (Kd.C_below HM.out hb1); (try replace HP := Aside0.mk (Kd.C_below HP.out hb1)); (try replace HD := Aside0.mk (Kd.C_below HD.out hb1)); (try replace HR := Aside0.mk (Kd.C_below HR.out hb1)); clear hb1)))
 go_ret
 exact ⟨by first | rfl | (simp; done) | (simp [*]; done), HB.out⟩
set_option maxRecDepth 100000 in
set_option maxHeartbeats 8000000 in
theorem puts_size_n (A0 : Option Addr) (c0 : Nat) (l0 : List It) (A1 : Option Addr) (c1 : Nat) (l1 : List It) (x : It) (q : Int) (w : World) (hr0 : Kd.C k46 w A0 l0.length l0) (hc0 : l0.length ≤ c0) (hr1 : Kd.C k46 w A1 l1.length l1) (hc1 : l1.length ≤ c1) (hT0 : TabW w)
  (hR : RightP (l0.take 66)) (hz : 64 < x.f1.size) (hH : has (l0.take 66) q = false) :
  Calls Tryd.prog 11 #[.slice A0 l0.length c0, .slice A1 l1.length c1, .agg #[.int .u64 x.f0, .string x.f1], .int .u64 q] w fun e w' => e = .returned (.bool true) ∧ Below w.heap.size w w' := by
 have F0 := Lib.hid (fun w => few_any A0 c0 l0 w hc0)
 have F1 := Lib.hid (fun w => few_any A1 c1 l1 w hc1)
 have z0 : (l0.take 66).length ≤ 66 := by rw [List.length_take]; omega
 have z1 : (l1.take 66).length ≤ 66 := by rw [List.length_take]; omega
 have y0 : (l0.take 66).length ≤ c0 := by rw [List.length_take]; omega
 have y1 : (l1.take 66).length ≤ c1 := by rw [List.length_take]; omega
 have HL := Aside0.mk (Kd.C_take (m := min l0.length 66) hr0 (by omega))
 have HM := Aside0.mk (Kd.C_take (m := min l1.length 66) hr1 (by omega))
 rw [take_min] at HL HM
 clear hr0 hr1 hc0 hc1
 generalize l0.take 66 = l at *
 generalize l1.take 66 = m at *
 obtain ⟨rr, gr0, gr1, gr2⟩ := c_right A0 c0 l (by omega)
 obtain ⟨rs, _, gs1, gs2⟩ := c_same A0 A1 c0 c1 l m (by omega)
 obtain rfl : rr = true := gr0.2 hR
 have GP := Lib.hid (c_put_err A0 c0 l (by omega) x 4 (.inr (.inl ⟨hR, hz, rfl⟩)))
 have hz2 : decide (64 < (x.f1.size : Int)) = true := decide_eq_true (by omega)
 have hz3 : decide (64 < x.f1.size) = true := decide_eq_true hz
 clear hz
 have GD := Lib.hid (c_drop_err A0 c0 l (by omega) q 3 (.inr ⟨hR, hH, rfl⟩))
 obtain ⟨ra, _, ga1, ga2⟩ := c_at A0 c0 l (by omega) q
 have hra := ga1 hH
 have hrb : decide (0 ≤ ra) = false := decide_eq_false (by omega)
 have GI := Lib.hid ga2
 clear ga1 ga2 hH
 clear hR
 have GR1 := Lib.hid gr1
 have GR2 := Lib.hid gr2
 have GS1 := Lib.hid gs1
 have GS2 := Lib.hid gs2
 have GT := Lib.hid (c_like_true A0 c0 l (by omega))
 have GA := Lib.hid c_alive
 have GZ := Lib.hid c_same_true
 have YL := Aside0.mk y0
 have YM := Aside0.mk y1
 have ZL := Aside0.mk z0
 have HT := Lib.hid hT0
 clear gr0 gr1 gr2 gs1 gs2 hT0 y0 y1 z0 z1
 have HB := Aside0.mk (below_alloc (Below.refl w.heap.size w) (.cells #[.int .u64 x.f0, .string x.f1] 46))
 replace HL := Aside0.mk (Kd.C_alloc HL.out (.cells #[.int .u64 x.f0, .string x.f1] 46))
 replace HM := Aside0.mk (Kd.C_alloc HM.out (.cells #[.int .u64 x.f0, .string x.f1] 46))
 have X0 := Aside0.mk (itbox w x 0 _ rfl)
 have X1 := Aside0.mk (itbox w x 1 _ rfl)
 simp only [Addr.add_lit] at X0 X1
 go_enter Tryd.func11, Tryd.ntmps11
 go_wp2_with (first | (go_at_call 47; ((with_reducible refine (F0.out _).mono ?_); rintro e w1 ⟨rfl, rfl⟩)) | (go_at_call 47; ((with_reducible refine (F1.out _).mono ?_); rintro e w1 ⟨rfl, rfl⟩)) | (go_at_call 38; ((with_reducible refine (GR1.out _ HL.out YL.out).mono ?_); rintro e w1 ⟨rfl, hb1⟩; replace HB := Aside0.mk (below_step HB.out hb1); replace X0 := Aside0.mk ((hb1.cell (World.block_lt_of_cell? _ _ X0.out)).trans X0.out); replace X1 := Aside0.mk ((hb1.cell (World.block_lt_of_cell? _ _ X1.out)).trans X1.out); (try clear hx0 hx1); have hx0 := X0.out; have hx1 := X1.out; replace HL := Aside0.mk (Kd.C_below HL.out hb1); replace HM := Aside0.mk (Kd.C_below HM.out hb1); (try replace HP := Aside0.mk (Kd.C_below HP.out hb1)); (try replace HD := Aside0.mk (Kd.C_below HD.out hb1)); (try replace HR := Aside0.mk (Kd.C_below HR.out hb1)); clear hb1)) | (go_at_call 25; ((with_reducible refine (GR2.out _ HL.out YL.out).mono ?_); rintro e w1 ⟨rfl, hb1⟩; replace HB := Aside0.mk (below_step HB.out hb1); replace X0 := Aside0.mk ((hb1.cell (World.block_lt_of_cell? _ _ X0.out)).trans X0.out); replace X1 := Aside0.mk ((hb1.cell (World.block_lt_of_cell? _ _ X1.out)).trans X1.out); (try clear hx0 hx1); have hx0 := X0.out; have hx1 := X1.out; replace HL := Aside0.mk (Kd.C_below HL.out hb1); replace HM := Aside0.mk (Kd.C_below HM.out hb1); (try replace HP := Aside0.mk (Kd.C_below HP.out hb1)); (try replace HD := Aside0.mk (Kd.C_below HD.out hb1)); (try replace HR := Aside0.mk (Kd.C_below HR.out hb1)); clear hb1)) | (go_at_call 48; ((with_reducible refine (GS2.out _ HL.out YL.out HM.out YM.out).mono ?_); rintro e w1 ⟨rfl, hb1⟩; replace HB := Aside0.mk (below_step HB.out hb1); replace X0 := Aside0.mk ((hb1.cell (World.block_lt_of_cell? _ _ X0.out)).trans X0.out); replace X1 := Aside0.mk ((hb1.cell (World.block_lt_of_cell? _ _ X1.out)).trans X1.out); (try clear hx0 hx1); have hx0 := X0.out; have hx1 := X1.out; replace HL := Aside0.mk (Kd.C_below HL.out hb1); replace HM := Aside0.mk (Kd.C_below HM.out hb1); (try replace HP := Aside0.mk (Kd.C_below HP.out hb1)); (try replace HD := Aside0.mk (Kd.C_below HD.out hb1)); (try replace HR := Aside0.mk (Kd.C_below HR.out hb1)); clear hb1)) | (go_at_call 48; ((with_reducible refine (GT.out _ HL.out YL.out).mono ?_); rintro e w1 ⟨rfl, hb1⟩; replace HB := Aside0.mk (below_step HB.out hb1); replace X0 := Aside0.mk ((hb1.cell (World.block_lt_of_cell? _ _ X0.out)).trans X0.out); replace X1 := Aside0.mk ((hb1.cell (World.block_lt_of_cell? _ _ X1.out)).trans X1.out); (try clear hx0 hx1); have hx0 := X0.out; have hx1 := X1.out; replace HL := Aside0.mk (Kd.C_below HL.out hb1); replace HM := Aside0.mk (Kd.C_below HM.out hb1); (try replace HP := Aside0.mk (Kd.C_below HP.out hb1)); (try replace HD := Aside0.mk (Kd.C_below HD.out hb1)); (try replace HR := Aside0.mk (Kd.C_below HR.out hb1)); clear hb1)) | (go_at_call 39; ((with_reducible refine (GS1.out _ HL.out YL.out HM.out YM.out).mono ?_); rintro e w1 ⟨rfl, hb1⟩; replace HB := Aside0.mk (below_step HB.out hb1); replace X0 := Aside0.mk ((hb1.cell (World.block_lt_of_cell? _ _ X0.out)).trans X0.out); replace X1 := Aside0.mk ((hb1.cell (World.block_lt_of_cell? _ _ X1.out)).trans X1.out); (try clear hx0 hx1); have hx0 := X0.out; have hx1 := X1.out; replace HL := Aside0.mk (Kd.C_below HL.out hb1); replace HM := Aside0.mk (Kd.C_below HM.out hb1); (try replace HP := Aside0.mk (Kd.C_below HP.out hb1)); (try replace HD := Aside0.mk (Kd.C_below HD.out hb1)); (try replace HR := Aside0.mk (Kd.C_below HR.out hb1)); clear hb1)) | (go_at_call 26; ((with_reducible refine (GA.out _ (tab_below HT.out HB.out (Nat.le_refl _))).mono ?_); rintro e w1 ⟨rfl, hb1⟩; replace HB := Aside0.mk (below_step HB.out hb1); replace X0 := Aside0.mk ((hb1.cell (World.block_lt_of_cell? _ _ X0.out)).trans X0.out); replace X1 := Aside0.mk ((hb1.cell (World.block_lt_of_cell? _ _ X1.out)).trans X1.out); (try clear hx0 hx1); have hx0 := X0.out; have hx1 := X1.out; replace HL := Aside0.mk (Kd.C_below HL.out hb1); replace HM := Aside0.mk (Kd.C_below HM.out hb1); (try replace HP := Aside0.mk (Kd.C_below HP.out hb1)); (try replace HD := Aside0.mk (Kd.C_below HD.out hb1)); (try replace HR := Aside0.mk (Kd.C_below HR.out hb1)); clear hb1)) | (go_at_call 36; ((with_reducible refine (GP.out _ HL.out YL.out).mono ?_); rintro e w1 ⟨A9, c9, rfl, hb1⟩; replace HB := Aside0.mk (below_step HB.out hb1); replace X0 := Aside0.mk ((hb1.cell (World.block_lt_of_cell? _ _ X0.out)).trans X0.out); replace X1 := Aside0.mk ((hb1.cell (World.block_lt_of_cell? _ _ X1.out)).trans X1.out); (try clear hx0 hx1); have hx0 := X0.out; have hx1 := X1.out; replace HL := Aside0.mk (Kd.C_below HL.out hb1); replace HM := Aside0.mk (Kd.C_below HM.out hb1); (try replace HP := Aside0.mk (Kd.C_below HP.out hb1)); (try replace HD := Aside0.mk (Kd.C_below HD.out hb1)); (try replace HR := Aside0.mk (Kd.C_below HR.out hb1)); clear hb1)) | (go_at_call 37; ((with_reducible refine (GD.out _ HL.out YL.out).mono ?_); rintro e w1 ⟨A9, c9, rfl, hb1⟩; replace HB := Aside0.mk (below_step HB.out hb1); replace X0 := Aside0.mk ((hb1.cell (World.block_lt_of_cell? _ _ X0.out)).trans X0.out); replace X1 := Aside0.mk ((hb1.cell (World.block_lt_of_cell? _ _ X1.out)).trans X1.out); (try clear hx0 hx1); have hx0 := X0.out; have hx1 := X1.out; replace HL := Aside0.mk (Kd.C_below HL.out hb1); replace HM := Aside0.mk (Kd.C_below HM.out hb1); (try replace HP := Aside0.mk (Kd.C_below HP.out hb1)); (try replace HD := Aside0.mk (Kd.C_below HD.out hb1)); (try replace HR := Aside0.mk (Kd.C_below HR.out hb1)); clear hb1)) | (go_at_call 49; ((with_reducible refine (GI.out _ HL.out YL.out).mono ?_); rintro e w1 ⟨rfl, hb1⟩; replace HB := Aside0.mk (below_step HB.out hb1); replace X0 := Aside0.mk ((hb1.cell (World.block_lt_of_cell? _ _ X0.out)).trans X0.out); replace X1 := Aside0.mk ((hb1.cell (World.block_lt_of_cell? _ _ X1.out)).trans X1.out); (try clear hx0 hx1); have hx0 := X0.out; have hx1 := X1.out; replace HL := Aside0.mk (Kd.C_below HL.out hb1); replace HM := Aside0.mk (Kd.C_below HM.out hb1); (try replace HP := Aside0.mk (Kd.C_below HP.out hb1)); (try replace HD := Aside0.mk (Kd.C_below HD.out hb1)); (try replace HR := Aside0.mk (Kd.C_below HR.out hb1)); clear hb1)))
 go_ret
 exact ⟨by first | rfl | (simp; done) | (simp [*]; done), HB.out⟩
set_option maxRecDepth 100000 in
set_option maxHeartbeats 8000000 in
theorem puts_space_n (A0 : Option Addr) (c0 : Nat) (l0 : List It) (A1 : Option Addr) (c1 : Nat) (l1 : List It) (x : It) (q : Int) (w : World) (hr0 : Kd.C k46 w A0 l0.length l0) (hc0 : l0.length ≤ c0) (hr1 : Kd.C k46 w A1 l1.length l1) (hc1 : l1.length ≤ c1) (hT0 : TabW w)
  (hR : RightP (l0.take 66)) (hz : ¬64 < x.f1.size) (h64 : has (l0.take 66) x.f0 = false ∧ (l0.take 66).length = 64) (hH : has (l0.take 66) q = false) :
  Calls Tryd.prog 11 #[.slice A0 l0.length c0, .slice A1 l1.length c1, .agg #[.int .u64 x.f0, .string x.f1], .int .u64 q] w fun e w' => e = .returned (.bool true) ∧ Below w.heap.size w w' := by
 have F0 := Lib.hid (fun w => few_any A0 c0 l0 w hc0)
 have F1 := Lib.hid (fun w => few_any A1 c1 l1 w hc1)
 have z0 : (l0.take 66).length ≤ 66 := by rw [List.length_take]; omega
 have z1 : (l1.take 66).length ≤ 66 := by rw [List.length_take]; omega
 have y0 : (l0.take 66).length ≤ c0 := by rw [List.length_take]; omega
 have y1 : (l1.take 66).length ≤ c1 := by rw [List.length_take]; omega
 have HL := Aside0.mk (Kd.C_take (m := min l0.length 66) hr0 (by omega))
 have HM := Aside0.mk (Kd.C_take (m := min l1.length 66) hr1 (by omega))
 rw [take_min] at HL HM
 clear hr0 hr1 hc0 hc1
 generalize l0.take 66 = l at *
 generalize l1.take 66 = m at *
 obtain ⟨rr, gr0, gr1, gr2⟩ := c_right A0 c0 l (by omega)
 obtain ⟨rs, _, gs1, gs2⟩ := c_same A0 A1 c0 c1 l m (by omega)
 obtain rfl : rr = true := gr0.2 hR
 have GP := Lib.hid (c_put_err A0 c0 l (by omega) x 6 (.inr (.inr ⟨hR, hz, h64, rfl⟩)))
 have hz2 : decide (64 < (x.f1.size : Int)) = false := decide_eq_false (by omega)
 have hz3 : decide (64 < x.f1.size) = false := decide_eq_false hz
 have h65 : ((l.length : Int) == 64) = true := by rw [beq_iff_eq]; omega
 obtain ⟨rb, _, gb1, gb2⟩ := c_at A0 c0 l (by omega) x.f0
 have hrb1 := gb1 h64.1
 have GX := Lib.hid gb2
 clear gb1 gb2 h64 hz
 have GD := Lib.hid (c_drop_err A0 c0 l (by omega) q 3 (.inr ⟨hR, hH, rfl⟩))
 obtain ⟨ra, _, ga1, ga2⟩ := c_at A0 c0 l (by omega) q
 have hra := ga1 hH
 have hrb : decide (0 ≤ ra) = false := decide_eq_false (by omega)
 have GI := Lib.hid ga2
 clear ga1 ga2 hH
 clear hR
 have GR1 := Lib.hid gr1
 have GR2 := Lib.hid gr2
 have GS1 := Lib.hid gs1
 have GS2 := Lib.hid gs2
 have GT := Lib.hid (c_like_true A0 c0 l (by omega))
 have GA := Lib.hid c_alive
 have GZ := Lib.hid c_same_true
 have YL := Aside0.mk y0
 have YM := Aside0.mk y1
 have ZL := Aside0.mk z0
 have HT := Lib.hid hT0
 clear gr0 gr1 gr2 gs1 gs2 hT0 y0 y1 z0 z1
 have HB := Aside0.mk (below_alloc (Below.refl w.heap.size w) (.cells #[.int .u64 x.f0, .string x.f1] 46))
 replace HL := Aside0.mk (Kd.C_alloc HL.out (.cells #[.int .u64 x.f0, .string x.f1] 46))
 replace HM := Aside0.mk (Kd.C_alloc HM.out (.cells #[.int .u64 x.f0, .string x.f1] 46))
 have X0 := Aside0.mk (itbox w x 0 _ rfl)
 have X1 := Aside0.mk (itbox w x 1 _ rfl)
 simp only [Addr.add_lit] at X0 X1
 go_enter Tryd.func11, Tryd.ntmps11
 go_wp2_with (first | (go_at_call 47; ((with_reducible refine (F0.out _).mono ?_); rintro e w1 ⟨rfl, rfl⟩)) | (go_at_call 47; ((with_reducible refine (F1.out _).mono ?_); rintro e w1 ⟨rfl, rfl⟩)) | (go_at_call 38; ((with_reducible refine (GR1.out _ HL.out YL.out).mono ?_); rintro e w1 ⟨rfl, hb1⟩; replace HB := Aside0.mk (below_step HB.out hb1); replace X0 := Aside0.mk ((hb1.cell (World.block_lt_of_cell? _ _ X0.out)).trans X0.out); replace X1 := Aside0.mk ((hb1.cell (World.block_lt_of_cell? _ _ X1.out)).trans X1.out); (try clear hx0 hx1); have hx0 := X0.out; have hx1 := X1.out; replace HL := Aside0.mk (Kd.C_below HL.out hb1); replace HM := Aside0.mk (Kd.C_below HM.out hb1); (try replace HP := Aside0.mk (Kd.C_below HP.out hb1)); (try replace HD := Aside0.mk (Kd.C_below HD.out hb1)); (try replace HR := Aside0.mk (Kd.C_below HR.out hb1)); clear hb1)) | (go_at_call 25; ((with_reducible refine (GR2.out _ HL.out YL.out).mono ?_); rintro e w1 ⟨rfl, hb1⟩; replace HB := Aside0.mk (below_step HB.out hb1); replace X0 := Aside0.mk ((hb1.cell (World.block_lt_of_cell? _ _ X0.out)).trans X0.out); replace X1 := Aside0.mk ((hb1.cell (World.block_lt_of_cell? _ _ X1.out)).trans X1.out); (try clear hx0 hx1); have hx0 := X0.out; have hx1 := X1.out; replace HL := Aside0.mk (Kd.C_below HL.out hb1); replace HM := Aside0.mk (Kd.C_below HM.out hb1); (try replace HP := Aside0.mk (Kd.C_below HP.out hb1)); (try replace HD := Aside0.mk (Kd.C_below HD.out hb1)); (try replace HR := Aside0.mk (Kd.C_below HR.out hb1)); clear hb1)) | (go_at_call 48; ((with_reducible refine (GS2.out _ HL.out YL.out HM.out YM.out).mono ?_); rintro e w1 ⟨rfl, hb1⟩; replace HB := Aside0.mk (below_step HB.out hb1); replace X0 := Aside0.mk ((hb1.cell (World.block_lt_of_cell? _ _ X0.out)).trans X0.out); replace X1 := Aside0.mk ((hb1.cell (World.block_lt_of_cell? _ _ X1.out)).trans X1.out); (try clear hx0 hx1); have hx0 := X0.out; have hx1 := X1.out; replace HL := Aside0.mk (Kd.C_below HL.out hb1); replace HM := Aside0.mk (Kd.C_below HM.out hb1); (try replace HP := Aside0.mk (Kd.C_below HP.out hb1)); (try replace HD := Aside0.mk (Kd.C_below HD.out hb1)); (try replace HR := Aside0.mk (Kd.C_below HR.out hb1)); clear hb1)) | (go_at_call 48; ((with_reducible refine (GT.out _ HL.out YL.out).mono ?_); rintro e w1 ⟨rfl, hb1⟩; replace HB := Aside0.mk (below_step HB.out hb1); replace X0 := Aside0.mk ((hb1.cell (World.block_lt_of_cell? _ _ X0.out)).trans X0.out); replace X1 := Aside0.mk ((hb1.cell (World.block_lt_of_cell? _ _ X1.out)).trans X1.out); (try clear hx0 hx1); have hx0 := X0.out; have hx1 := X1.out; replace HL := Aside0.mk (Kd.C_below HL.out hb1); replace HM := Aside0.mk (Kd.C_below HM.out hb1); (try replace HP := Aside0.mk (Kd.C_below HP.out hb1)); (try replace HD := Aside0.mk (Kd.C_below HD.out hb1)); (try replace HR := Aside0.mk (Kd.C_below HR.out hb1)); clear hb1)) | (go_at_call 39; ((with_reducible refine (GS1.out _ HL.out YL.out HM.out YM.out).mono ?_); rintro e w1 ⟨rfl, hb1⟩; replace HB := Aside0.mk (below_step HB.out hb1); replace X0 := Aside0.mk ((hb1.cell (World.block_lt_of_cell? _ _ X0.out)).trans X0.out); replace X1 := Aside0.mk ((hb1.cell (World.block_lt_of_cell? _ _ X1.out)).trans X1.out); (try clear hx0 hx1); have hx0 := X0.out; have hx1 := X1.out; replace HL := Aside0.mk (Kd.C_below HL.out hb1); replace HM := Aside0.mk (Kd.C_below HM.out hb1); (try replace HP := Aside0.mk (Kd.C_below HP.out hb1)); (try replace HD := Aside0.mk (Kd.C_below HD.out hb1)); (try replace HR := Aside0.mk (Kd.C_below HR.out hb1)); clear hb1)) | (go_at_call 26; ((with_reducible refine (GA.out _ (tab_below HT.out HB.out (Nat.le_refl _))).mono ?_); rintro e w1 ⟨rfl, hb1⟩; replace HB := Aside0.mk (below_step HB.out hb1); replace X0 := Aside0.mk ((hb1.cell (World.block_lt_of_cell? _ _ X0.out)).trans X0.out); replace X1 := Aside0.mk ((hb1.cell (World.block_lt_of_cell? _ _ X1.out)).trans X1.out); (try clear hx0 hx1); have hx0 := X0.out; have hx1 := X1.out; replace HL := Aside0.mk (Kd.C_below HL.out hb1); replace HM := Aside0.mk (Kd.C_below HM.out hb1); (try replace HP := Aside0.mk (Kd.C_below HP.out hb1)); (try replace HD := Aside0.mk (Kd.C_below HD.out hb1)); (try replace HR := Aside0.mk (Kd.C_below HR.out hb1)); clear hb1)) | (go_at_call 36; ((with_reducible refine (GP.out _ HL.out YL.out).mono ?_); rintro e w1 ⟨A9, c9, rfl, hb1⟩; replace HB := Aside0.mk (below_step HB.out hb1); replace X0 := Aside0.mk ((hb1.cell (World.block_lt_of_cell? _ _ X0.out)).trans X0.out); replace X1 := Aside0.mk ((hb1.cell (World.block_lt_of_cell? _ _ X1.out)).trans X1.out); (try clear hx0 hx1); have hx0 := X0.out; have hx1 := X1.out; replace HL := Aside0.mk (Kd.C_below HL.out hb1); replace HM := Aside0.mk (Kd.C_below HM.out hb1); (try replace HP := Aside0.mk (Kd.C_below HP.out hb1)); (try replace HD := Aside0.mk (Kd.C_below HD.out hb1)); (try replace HR := Aside0.mk (Kd.C_below HR.out hb1)); clear hb1)) | (go_at_call 49; ((with_reducible refine (GX.out _ HL.out YL.out).mono ?_); rintro e w1 ⟨rfl, hb1⟩; replace HB := Aside0.mk (below_step HB.out hb1); replace X0 := Aside0.mk ((hb1.cell (World.block_lt_of_cell? _ _ X0.out)).trans X0.out); replace X1 := Aside0.mk ((hb1.cell (World.block_lt_of_cell? _ _ X1.out)).trans X1.out); (try clear hx0 hx1); have hx0 := X0.out; have hx1 := X1.out; replace HL := Aside0.mk (Kd.C_below HL.out hb1); replace HM := Aside0.mk (Kd.C_below HM.out hb1); (try replace HP := Aside0.mk (Kd.C_below HP.out hb1)); (try replace HD := Aside0.mk (Kd.C_below HD.out hb1)); (try replace HR := Aside0.mk (Kd.C_below HR.out hb1)); clear hb1)) | (go_at_call 37; ((with_reducible refine (GD.out _ HL.out YL.out).mono ?_); rintro e w1 ⟨A9, c9, rfl, hb1⟩; replace HB := Aside0.mk (below_step HB.out hb1); replace X0 := Aside0.mk ((hb1.cell (World.block_lt_of_cell? _ _ X0.out)).trans X0.out); replace X1 := Aside0.mk ((hb1.cell (World.block_lt_of_cell? _ _ X1.out)).trans X1.out); (try clear hx0 hx1); have hx0 := X0.out; have hx1 := X1.out; replace HL := Aside0.mk (Kd.C_below HL.out hb1); replace HM := Aside0.mk (Kd.C_below HM.out hb1); (try replace HP := Aside0.mk (Kd.C_below HP.out hb1)); (try replace HD := Aside0.mk (Kd.C_below HD.out hb1)); (try replace HR := Aside0.mk (Kd.C_below HR.out hb1)); clear hb1)) | (go_at_call 49; ((with_reducible refine (GI.out _ HL.out YL.out).mono ?_); rintro e w1 ⟨rfl, hb1⟩; replace HB := Aside0.mk (below_step HB.out hb1); replace X0 := Aside0.mk ((hb1.cell (World.block_lt_of_cell? _ _ X0.out)).trans X0.out); replace X1 := Aside0.mk ((hb1.cell (World.block_lt_of_cell? _ _ X1.out)).trans X1.out); (try clear hx0 hx1); have hx0 := X0.out; have hx1 := X1.out; replace HL := Aside0.mk (Kd.C_below HL.out hb1); replace HM := Aside0.mk (Kd.C_below HM.out hb1); (try replace HP := Aside0.mk (Kd.C_below HP.out hb1)); (try replace HD := Aside0.mk (Kd.C_below HD.out hb1)); (try replace HR := Aside0.mk (Kd.C_below HR.out hb1)); clear hb1)))
 go_ret
 exact ⟨by first | rfl | (simp; done) | (simp [*]; done), HB.out⟩
set_option maxRecDepth 100000 in
set_option maxHeartbeats 8000000 in
theorem puts_okfull_n (A0 : Option Addr) (c0 : Nat) (l0 : List It) (A1 : Option Addr) (c1 : Nat) (l1 : List It) (x : It) (q : Int) (w : World) (hr0 : Kd.C k46 w A0 l0.length l0) (hc0 : l0.length ≤ c0) (hr1 : Kd.C k46 w A1 l1.length l1) (hc1 : l1.length ≤ c1) (hT0 : TabW w)
  (hR : RightP (l0.take 66)) (hz : ¬64 < x.f1.size) (h64 : has (l0.take 66) x.f0 = true ∧ (l0.take 66).length = 64) (hH : has (l0.take 66) q = false) :
  Calls Tryd.prog 11 #[.slice A0 l0.length c0, .slice A1 l1.length c1, .agg #[.int .u64 x.f0, .string x.f1], .int .u64 q] w fun e w' => e = .returned (.bool true) ∧ Below w.heap.size w w' := by
 have F0 := Lib.hid (fun w => few_any A0 c0 l0 w hc0)
 have F1 := Lib.hid (fun w => few_any A1 c1 l1 w hc1)
 have z0 : (l0.take 66).length ≤ 66 := by rw [List.length_take]; omega
 have z1 : (l1.take 66).length ≤ 66 := by rw [List.length_take]; omega
 have y0 : (l0.take 66).length ≤ c0 := by rw [List.length_take]; omega
 have y1 : (l1.take 66).length ≤ c1 := by rw [List.length_take]; omega
 have HL := Aside0.mk (Kd.C_take (m := min l0.length 66) hr0 (by omega))
 have HM := Aside0.mk (Kd.C_take (m := min l1.length 66) hr1 (by omega))
 rw [take_min] at HL HM
 clear hr0 hr1 hc0 hc1
 generalize l0.take 66 = l at *
 generalize l1.take 66 = m at *
 obtain ⟨rr, gr0, gr1, gr2⟩ := c_right A0 c0 l (by omega)
 obtain ⟨rs, _, gs1, gs2⟩ := c_same A0 A1 c0 c1 l m (by omega)
 obtain rfl : rr = true := gr0.2 hR
 have GP := Lib.hid (c_put A0 c0 l (by omega) x _ 0 (.inr (.inr (.inr ⟨hR, hz, (fun h => by rw [h64.1] at h; cases h.1), rfl, rfl⟩))))
 have GQ := Lib.hid (c_rput A0 c0 l (by omega) x)
 have hz2 : decide (64 < (x.f1.size : Int)) = false := decide_eq_false (by omega)
 have hz3 : decide (64 < x.f1.size) = false := decide_eq_false hz
 have h65 : ((l.length : Int) == 64) = true := by rw [beq_iff_eq]; omega
 obtain ⟨rb, gb1, _, gb2⟩ := c_at A0 c0 l (by omega) x.f0
 have hrb1 := gb1 h64.1
 have hrb2 : decide (rb < 0) = false := decide_eq_false (by omega)
 have GX := Lib.hid gb2
 have ZP := Aside0.mk (ins_le l ((right_iff l).1 hR).1 x)
 clear gb1 gb2 h64 hz
 generalize insF l x = pl at *
 have GD := Lib.hid (c_drop_err A0 c0 l (by omega) q 3 (.inr ⟨hR, hH, rfl⟩))
 obtain ⟨ra, _, ga1, ga2⟩ := c_at A0 c0 l (by omega) q
 have hra := ga1 hH
 have hrb : decide (0 ≤ ra) = false := decide_eq_false (by omega)
 have GI := Lib.hid ga2
 clear ga1 ga2 hH
 clear hR
 have GR1 := Lib.hid gr1
 have GR2 := Lib.hid gr2
 have GS1 := Lib.hid gs1
 have GS2 := Lib.hid gs2
 have GT := Lib.hid (c_like_true A0 c0 l (by omega))
 have GA := Lib.hid c_alive
 have GZ := Lib.hid c_same_true
 have YL := Aside0.mk y0
 have YM := Aside0.mk y1
 have ZL := Aside0.mk z0
 have HT := Lib.hid hT0
 clear gr0 gr1 gr2 gs1 gs2 hT0 y0 y1 z0 z1
 have HB := Aside0.mk (below_alloc (Below.refl w.heap.size w) (.cells #[.int .u64 x.f0, .string x.f1] 46))
 replace HL := Aside0.mk (Kd.C_alloc HL.out (.cells #[.int .u64 x.f0, .string x.f1] 46))
 replace HM := Aside0.mk (Kd.C_alloc HM.out (.cells #[.int .u64 x.f0, .string x.f1] 46))
 have X0 := Aside0.mk (itbox w x 0 _ rfl)
 have X1 := Aside0.mk (itbox w x 1 _ rfl)
 simp only [Addr.add_lit] at X0 X1
 go_enter Tryd.func11, Tryd.ntmps11
 go_wp2_with (first | (go_at_call 47; ((with_reducible refine (F0.out _).mono ?_); rintro e w1 ⟨rfl, rfl⟩)) | (go_at_call 47; ((with_reducible refine (F1.out _).mono ?_); rintro e w1 ⟨rfl, rfl⟩)) | (go_at_call 38; ((with_reducible refine (GR1.out _ HL.out YL.out).mono ?_); rintro e w1 ⟨rfl, hb1⟩; replace HB := Aside0.mk (below_step HB.out hb1); replace X0 := Aside0.mk ((hb1.cell (World.block_lt_of_cell? _ _ X0.out)).trans X0.out); replace X1 := Aside0.mk ((hb1.cell (World.block_lt_of_cell? _ _ X1.out)).trans X1.out); (try clear hx0 hx1); have hx0 := X0.out; have hx1 := X1.out; replace HL := Aside0.mk (Kd.C_below HL.out hb1); replace HM := Aside0.mk (Kd.C_below HM.out hb1); (try replace HP := Aside0.mk (Kd.C_below HP.out hb1)); (try replace HD := Aside0.mk (Kd.C_below HD.out hb1)); (try replace HR := Aside0.mk (Kd.C_below HR.out hb1)); clear hb1)) | (go_at_call 25; ((with_reducible refine (GR2.out _ HL.out YL.out).mono ?_); rintro e w1 ⟨rfl, hb1⟩; replace HB := Aside0.mk (below_step HB.out hb1); replace X0 := Aside0.mk ((hb1.cell (World.block_lt_of_cell? _ _ X0.out)).trans X0.out); replace X1 := Aside0.mk ((hb1.cell (World.block_lt_of_cell? _ _ X1.out)).trans X1.out); (try clear hx0 hx1); have hx0 := X0.out; have hx1 := X1.out; replace HL := Aside0.mk (Kd.C_below HL.out hb1); replace HM := Aside0.mk (Kd.C_below HM.out hb1); (try replace HP := Aside0.mk (Kd.C_below HP.out hb1)); (try replace HD := Aside0.mk (Kd.C_below HD.out hb1)); (try replace HR := Aside0.mk (Kd.C_below HR.out hb1)); clear hb1)) | (go_at_call 48; ((with_reducible refine (GS2.out _ HL.out YL.out HM.out YM.out).mono ?_); rintro e w1 ⟨rfl, hb1⟩; replace HB := Aside0.mk (below_step HB.out hb1); replace X0 := Aside0.mk ((hb1.cell (World.block_lt_of_cell? _ _ X0.out)).trans X0.out); replace X1 := Aside0.mk ((hb1.cell (World.block_lt_of_cell? _ _ X1.out)).trans X1.out); (try clear hx0 hx1); have hx0 := X0.out; have hx1 := X1.out; replace HL := Aside0.mk (Kd.C_below HL.out hb1); replace HM := Aside0.mk (Kd.C_below HM.out hb1); (try replace HP := Aside0.mk (Kd.C_below HP.out hb1)); (try replace HD := Aside0.mk (Kd.C_below HD.out hb1)); (try replace HR := Aside0.mk (Kd.C_below HR.out hb1)); clear hb1)) | (go_at_call 48; ((with_reducible refine (GT.out _ HL.out YL.out).mono ?_); rintro e w1 ⟨rfl, hb1⟩; replace HB := Aside0.mk (below_step HB.out hb1); replace X0 := Aside0.mk ((hb1.cell (World.block_lt_of_cell? _ _ X0.out)).trans X0.out); replace X1 := Aside0.mk ((hb1.cell (World.block_lt_of_cell? _ _ X1.out)).trans X1.out); (try clear hx0 hx1); have hx0 := X0.out; have hx1 := X1.out; replace HL := Aside0.mk (Kd.C_below HL.out hb1); replace HM := Aside0.mk (Kd.C_below HM.out hb1); (try replace HP := Aside0.mk (Kd.C_below HP.out hb1)); (try replace HD := Aside0.mk (Kd.C_below HD.out hb1)); (try replace HR := Aside0.mk (Kd.C_below HR.out hb1)); clear hb1)) | (go_at_call 39; ((with_reducible refine (GS1.out _ HL.out YL.out HM.out YM.out).mono ?_); rintro e w1 ⟨rfl, hb1⟩; replace HB := Aside0.mk (below_step HB.out hb1); replace X0 := Aside0.mk ((hb1.cell (World.block_lt_of_cell? _ _ X0.out)).trans X0.out); replace X1 := Aside0.mk ((hb1.cell (World.block_lt_of_cell? _ _ X1.out)).trans X1.out); (try clear hx0 hx1); have hx0 := X0.out; have hx1 := X1.out; replace HL := Aside0.mk (Kd.C_below HL.out hb1); replace HM := Aside0.mk (Kd.C_below HM.out hb1); (try replace HP := Aside0.mk (Kd.C_below HP.out hb1)); (try replace HD := Aside0.mk (Kd.C_below HD.out hb1)); (try replace HR := Aside0.mk (Kd.C_below HR.out hb1)); clear hb1)) | (go_at_call 26; ((with_reducible refine (GA.out _ (tab_below HT.out HB.out (Nat.le_refl _))).mono ?_); rintro e w1 ⟨rfl, hb1⟩; replace HB := Aside0.mk (below_step HB.out hb1); replace X0 := Aside0.mk ((hb1.cell (World.block_lt_of_cell? _ _ X0.out)).trans X0.out); replace X1 := Aside0.mk ((hb1.cell (World.block_lt_of_cell? _ _ X1.out)).trans X1.out); (try clear hx0 hx1); have hx0 := X0.out; have hx1 := X1.out; replace HL := Aside0.mk (Kd.C_below HL.out hb1); replace HM := Aside0.mk (Kd.C_below HM.out hb1); (try replace HP := Aside0.mk (Kd.C_below HP.out hb1)); (try replace HD := Aside0.mk (Kd.C_below HD.out hb1)); (try replace HR := Aside0.mk (Kd.C_below HR.out hb1)); clear hb1)) | (go_at_call 36; ((with_reducible refine (GP.out _ HL.out YL.out).mono ?_); rintro e w1 ⟨v, rfl, AHP, cHP, rfl, hcHP, hrHP, hb1⟩; replace HB := Aside0.mk (below_step HB.out hb1); replace X0 := Aside0.mk ((hb1.cell (World.block_lt_of_cell? _ _ X0.out)).trans X0.out); replace X1 := Aside0.mk ((hb1.cell (World.block_lt_of_cell? _ _ X1.out)).trans X1.out); (try clear hx0 hx1); have hx0 := X0.out; have hx1 := X1.out; replace HL := Aside0.mk (Kd.C_below HL.out hb1); replace HM := Aside0.mk (Kd.C_below HM.out hb1); (try replace HP := Aside0.mk (Kd.C_below HP.out hb1)); (try replace HD := Aside0.mk (Kd.C_below HD.out hb1)); (try replace HR := Aside0.mk (Kd.C_below HR.out hb1)); have HP := Aside0.mk hrHP; have HPC := Aside0.mk hcHP; clear hb1 hrHP hcHP)) | (go_at_call 49; ((with_reducible refine (GX.out _ HL.out YL.out).mono ?_); rintro e w1 ⟨rfl, hb1⟩; replace HB := Aside0.mk (below_step HB.out hb1); replace X0 := Aside0.mk ((hb1.cell (World.block_lt_of_cell? _ _ X0.out)).trans X0.out); replace X1 := Aside0.mk ((hb1.cell (World.block_lt_of_cell? _ _ X1.out)).trans X1.out); (try clear hx0 hx1); have hx0 := X0.out; have hx1 := X1.out; replace HL := Aside0.mk (Kd.C_below HL.out hb1); replace HM := Aside0.mk (Kd.C_below HM.out hb1); (try replace HP := Aside0.mk (Kd.C_below HP.out hb1)); (try replace HD := Aside0.mk (Kd.C_below HD.out hb1)); (try replace HR := Aside0.mk (Kd.C_below HR.out hb1)); clear hb1)) | (go_at_call 51; ((with_reducible refine (GQ.out _ HL.out YL.out).mono ?_); rintro e w1 ⟨v, rfl, AHQ, cHQ, rfl, hcHQ, hrHQ, hb1⟩; replace HB := Aside0.mk (below_step HB.out hb1); replace X0 := Aside0.mk ((hb1.cell (World.block_lt_of_cell? _ _ X0.out)).trans X0.out); replace X1 := Aside0.mk ((hb1.cell (World.block_lt_of_cell? _ _ X1.out)).trans X1.out); (try clear hx0 hx1); have hx0 := X0.out; have hx1 := X1.out; replace HL := Aside0.mk (Kd.C_below HL.out hb1); replace HM := Aside0.mk (Kd.C_below HM.out hb1); (try replace HP := Aside0.mk (Kd.C_below HP.out hb1)); (try replace HD := Aside0.mk (Kd.C_below HD.out hb1)); (try replace HR := Aside0.mk (Kd.C_below HR.out hb1)); have HQ := Aside0.mk hrHQ; have HQC := Aside0.mk hcHQ; clear hb1 hrHQ hcHQ)) | (go_at_call 39; ((with_reducible refine (GZ.out _ _ _ _ _ (Nat.le_trans ZP.out (Nat.le_trans (Nat.succ_le_succ ZL.out) (by decide))) _ HP.out HPC.out HQ.out HQC.out).mono ?_); rintro e w1 ⟨rfl, hb1⟩; replace HB := Aside0.mk (below_step HB.out hb1); replace X0 := Aside0.mk ((hb1.cell (World.block_lt_of_cell? _ _ X0.out)).trans X0.out); replace X1 := Aside0.mk ((hb1.cell (World.block_lt_of_cell? _ _ X1.out)).trans X1.out); (try clear hx0 hx1); have hx0 := X0.out; have hx1 := X1.out; replace HL := Aside0.mk (Kd.C_below HL.out hb1); replace HM := Aside0.mk (Kd.C_below HM.out hb1); (try replace HP := Aside0.mk (Kd.C_below HP.out hb1)); (try replace HD := Aside0.mk (Kd.C_below HD.out hb1)); (try replace HR := Aside0.mk (Kd.C_below HR.out hb1)); clear hb1)) | (go_at_call 37; ((with_reducible refine (GD.out _ HL.out YL.out).mono ?_); rintro e w1 ⟨A9, c9, rfl, hb1⟩; replace HB := Aside0.mk (below_step HB.out hb1); replace X0 := Aside0.mk ((hb1.cell (World.block_lt_of_cell? _ _ X0.out)).trans X0.out); replace X1 := Aside0.mk ((hb1.cell (World.block_lt_of_cell? _ _ X1.out)).trans X1.out); (try clear hx0 hx1); have hx0 := X0.out; have hx1 := X1.out; replace HL := Aside0.mk (Kd.C_below HL.out hb1); replace HM := Aside0.mk (Kd.C_below HM.out hb1); (try replace HP := Aside0.mk (Kd.C_below HP.out hb1)); (try replace HD := Aside0.mk (Kd.C_below HD.out hb1)); (try replace HR := Aside0.mk (Kd.C_below HR.out hb1)); clear hb1)) | (go_at_call 49; ((with_reducible refine (GI.out _ HL.out YL.out).mono ?_); rintro e w1 ⟨rfl, hb1⟩; replace HB := Aside0.mk (below_step HB.out hb1); replace X0 := Aside0.mk ((hb1.cell (World.block_lt_of_cell? _ _ X0.out)).trans X0.out); replace X1 := Aside0.mk ((hb1.cell (World.block_lt_of_cell? _ _ X1.out)).trans X1.out); (try clear hx0 hx1); have hx0 := X0.out; have hx1 := X1.out; replace HL := Aside0.mk (Kd.C_below HL.out hb1); replace HM := Aside0.mk (Kd.C_below HM.out hb1); (try replace HP := Aside0.mk (Kd.C_below HP.out hb1)); (try replace HD := Aside0.mk (Kd.C_below HD.out hb1)); (try replace HR := Aside0.mk (Kd.C_below HR.out hb1)); clear hb1)))
 go_ret
 exact ⟨by first | rfl | (simp; done) | (simp [*]; done), HB.out⟩
set_option maxRecDepth 100000 in
set_option maxHeartbeats 8000000 in
theorem puts_ok_n (A0 : Option Addr) (c0 : Nat) (l0 : List It) (A1 : Option Addr) (c1 : Nat) (l1 : List It) (x : It) (q : Int) (w : World) (hr0 : Kd.C k46 w A0 l0.length l0) (hc0 : l0.length ≤ c0) (hr1 : Kd.C k46 w A1 l1.length l1) (hc1 : l1.length ≤ c1) (hT0 : TabW w)
  (hR : RightP (l0.take 66)) (hz : ¬64 < x.f1.size) (h64 : ¬(l0.take 66).length = 64) (hH : has (l0.take 66) q = false) :
  Calls Tryd.prog 11 #[.slice A0 l0.length c0, .slice A1 l1.length c1, .agg #[.int .u64 x.f0, .string x.f1], .int .u64 q] w fun e w' => e = .returned (.bool true) ∧ Below w.heap.size w w' := by
 have F0 := Lib.hid (fun w => few_any A0 c0 l0 w hc0)
 have F1 := Lib.hid (fun w => few_any A1 c1 l1 w hc1)
 have z0 : (l0.take 66).length ≤ 66 := by rw [List.length_take]; omega
 have z1 : (l1.take 66).length ≤ 66 := by rw [List.length_take]; omega
 have y0 : (l0.take 66).length ≤ c0 := by rw [List.length_take]; omega
 have y1 : (l1.take 66).length ≤ c1 := by rw [List.length_take]; omega
 have HL := Aside0.mk (Kd.C_take (m := min l0.length 66) hr0 (by omega))
 have HM := Aside0.mk (Kd.C_take (m := min l1.length 66) hr1 (by omega))
 rw [take_min] at HL HM
 clear hr0 hr1 hc0 hc1
 generalize l0.take 66 = l at *
 generalize l1.take 66 = m at *
 obtain ⟨rr, gr0, gr1, gr2⟩ := c_right A0 c0 l (by omega)
 obtain ⟨rs, _, gs1, gs2⟩ := c_same A0 A1 c0 c1 l m (by omega)
 obtain rfl : rr = true := gr0.2 hR
 have GP := Lib.hid (c_put A0 c0 l (by omega) x _ 0 (.inr (.inr (.inr ⟨hR, hz, fun h => h64 h.2, rfl, rfl⟩))))
 have GQ := Lib.hid (c_rput A0 c0 l (by omega) x)
 have hz2 : decide (64 < (x.f1.size : Int)) = false := decide_eq_false (by omega)
 have hz3 : decide (64 < x.f1.size) = false := decide_eq_false hz
 have h65 : ((l.length : Int) == 64) = false := by rw [beq_eq_false_iff_ne]; omega
 have h66 : (l.length == 64) = false := by rw [beq_eq_false_iff_ne]; omega
 have ZP := Aside0.mk (ins_le l ((right_iff l).1 hR).1 x)
 clear h64 hz
 generalize insF l x = pl at *
 have GD := Lib.hid (c_drop_err A0 c0 l (by omega) q 3 (.inr ⟨hR, hH, rfl⟩))
 obtain ⟨ra, _, ga1, ga2⟩ := c_at A0 c0 l (by omega) q
 have hra := ga1 hH
 have hrb : decide (0 ≤ ra) = false := decide_eq_false (by omega)
 have GI := Lib.hid ga2
 clear ga1 ga2 hH
 clear hR
 have GR1 := Lib.hid gr1
 have GR2 := Lib.hid gr2
 have GS1 := Lib.hid gs1
 have GS2 := Lib.hid gs2
 have GT := Lib.hid (c_like_true A0 c0 l (by omega))
 have GA := Lib.hid c_alive
 have GZ := Lib.hid c_same_true
 have YL := Aside0.mk y0
 have YM := Aside0.mk y1
 have ZL := Aside0.mk z0
 have HT := Lib.hid hT0
 clear gr0 gr1 gr2 gs1 gs2 hT0 y0 y1 z0 z1
 have HB := Aside0.mk (below_alloc (Below.refl w.heap.size w) (.cells #[.int .u64 x.f0, .string x.f1] 46))
 replace HL := Aside0.mk (Kd.C_alloc HL.out (.cells #[.int .u64 x.f0, .string x.f1] 46))
 replace HM := Aside0.mk (Kd.C_alloc HM.out (.cells #[.int .u64 x.f0, .string x.f1] 46))
 have X0 := Aside0.mk (itbox w x 0 _ rfl)
 have X1 := Aside0.mk (itbox w x 1 _ rfl)
 simp only [Addr.add_lit] at X0 X1
 go_enter Tryd.func11, Tryd.ntmps11
 go_wp2_with (first | (go_at_call 47; ((with_reducible refine (F0.out _).mono ?_); rintro e w1 ⟨rfl, rfl⟩)) | (go_at_call 47; ((with_reducible refine (F1.out _).mono ?_); rintro e w1 ⟨rfl, rfl⟩)) | (go_at_call 38; ((with_reducible refine (GR1.out _ HL.out YL.out).mono ?_); rintro e w1 ⟨rfl, hb1⟩; replace HB := Aside0.mk (below_step HB.out hb1); replace X0 := Aside0.mk ((hb1.cell (World.block_lt_of_cell? _ _ X0.out)).trans X0.out); replace X1 := Aside0.mk ((hb1.cell (World.block_lt_of_cell? _ _ X1.out)).trans X1.out); (try clear hx0 hx1); have hx0 := X0.out; have hx1 := X1.out; replace HL := Aside0.mk (Kd.C_below HL.out hb1); replace HM := Aside0.mk (Kd.C_below HM.out hb1); (try replace HP := Aside0.mk (Kd.C_below HP.out hb1)); (try replace HD := Aside0.mk (Kd.C_below HD.out hb1)); (try replace HR := Aside0.mk (Kd.C_below HR.out hb1)); clear hb1)) | (go_at_call 25; ((with_reducible refine (GR2.out _ HL.out YL.out).mono ?_); rintro e w1 ⟨rfl, hb1⟩; replace HB := Aside0.mk (below_step HB.out hb1); replace X0 := Aside0.mk ((hb1.cell (World.block_lt_of_cell? _ _ X0.out)).trans X0.out); replace X1 := Aside0.mk ((hb1.cell (World.block_lt_of_cell? _ _ X1.out)).trans X1.out); (try clear hx0 hx1); have hx0 := X0.out; have hx1 := X1.out; replace HL := Aside0.mk (Kd.C_below HL.out hb1); replace HM := Aside0.mk (Kd.C_below HM.out hb1); (try replace HP := Aside0.mk (Kd.C_below HP.out hb1)); (try replace HD := Aside0.mk (Kd.C_below HD.out hb1)); (try replace HR := Aside0.mk (Kd.C_below HR.out hb1)); clear hb1)) | (go_at_call 48; ((with_reducible refine (GS2.out _ HL.out YL.out HM.out YM.out).mono ?_); rintro e w1 ⟨rfl, hb1⟩; replace HB := Aside0.mk (below_step HB.out hb1); replace X0 := Aside0.mk ((hb1.cell (World.block_lt_of_cell? _ _ X0.out)).trans X0.out); replace X1 := Aside0.mk ((hb1.cell (World.block_lt_of_cell? _ _ X1.out)).trans X1.out); (try clear hx0 hx1); have hx0 := X0.out; have hx1 := X1.out; replace HL := Aside0.mk (Kd.C_below HL.out hb1); replace HM := Aside0.mk (Kd.C_below HM.out hb1); (try replace HP := Aside0.mk (Kd.C_below HP.out hb1)); (try replace HD := Aside0.mk (Kd.C_below HD.out hb1)); (try replace HR := Aside0.mk (Kd.C_below HR.out hb1)); clear hb1)) | (go_at_call 48; ((with_reducible refine (GT.out _ HL.out YL.out).mono ?_); rintro e w1 ⟨rfl, hb1⟩; replace HB := Aside0.mk (below_step HB.out hb1); replace X0 := Aside0.mk ((hb1.cell (World.block_lt_of_cell? _ _ X0.out)).trans X0.out); replace X1 := Aside0.mk ((hb1.cell (World.block_lt_of_cell? _ _ X1.out)).trans X1.out); (try clear hx0 hx1); have hx0 := X0.out; have hx1 := X1.out; replace HL := Aside0.mk (Kd.C_below HL.out hb1); replace HM := Aside0.mk (Kd.C_below HM.out hb1); (try replace HP := Aside0.mk (Kd.C_below HP.out hb1)); (try replace HD := Aside0.mk (Kd.C_below HD.out hb1)); (try replace HR := Aside0.mk (Kd.C_below HR.out hb1)); clear hb1)) | (go_at_call 39; ((with_reducible refine (GS1.out _ HL.out YL.out HM.out YM.out).mono ?_); rintro e w1 ⟨rfl, hb1⟩; replace HB := Aside0.mk (below_step HB.out hb1); replace X0 := Aside0.mk ((hb1.cell (World.block_lt_of_cell? _ _ X0.out)).trans X0.out); replace X1 := Aside0.mk ((hb1.cell (World.block_lt_of_cell? _ _ X1.out)).trans X1.out); (try clear hx0 hx1); have hx0 := X0.out; have hx1 := X1.out; replace HL := Aside0.mk (Kd.C_below HL.out hb1); replace HM := Aside0.mk (Kd.C_below HM.out hb1); (try replace HP := Aside0.mk (Kd.C_below HP.out hb1)); (try replace HD := Aside0.mk (Kd.C_below HD.out hb1)); (try replace HR := Aside0.mk (Kd.C_below HR.out hb1)); clear hb1)) | (go_at_call 26; ((with_reducible refine (GA.out _ (tab_below HT.out HB.out (Nat.le_refl _))).mono ?_); rintro e w1 ⟨rfl, hb1⟩; replace HB := Aside0.mk (below_step HB.out hb1); replace X0 := Aside0.mk ((hb1.cell (World.block_lt_of_cell? _ _ X0.out)).trans X0.out); replace X1 := Aside0.mk ((hb1.cell (World.block_lt_of_cell? _ _ X1.out)).trans X1.out); (try clear hx0 hx1); have hx0 := X0.out; have hx1 := X1.out; replace HL := Aside0.mk (Kd.C_below HL.out hb1); replace HM := Aside0.mk (Kd.C_below HM.out hb1); (try replace HP := Aside0.mk (Kd.C_below HP.out hb1)); (try replace HD := Aside0.mk (Kd.C_below HD.out hb1)); (try replace HR := Aside0.mk (Kd.C_below HR.out hb1)); clear hb1)) | (go_at_call 36; ((with_reducible refine (GP.out _ HL.out YL.out).mono ?_); rintro e w1 ⟨v, rfl, AHP, cHP, rfl, hcHP, hrHP, hb1⟩; replace HB := Aside0.mk (below_step HB.out hb1); replace X0 := Aside0.mk ((hb1.cell (World.block_lt_of_cell? _ _ X0.out)).trans X0.out); replace X1 := Aside0.mk ((hb1.cell (World.block_lt_of_cell? _ _ X1.out)).trans X1.out); (try clear hx0 hx1); have hx0 := X0.out; have hx1 := X1.out; replace HL := Aside0.mk (Kd.C_below HL.out hb1); replace HM := Aside0.mk (Kd.C_below HM.out hb1); (try replace HP := Aside0.mk (Kd.C_below HP.out hb1)); (try replace HD := Aside0.mk (Kd.C_below HD.out hb1)); (try replace HR := Aside0.mk (Kd.C_below HR.out hb1)); have HP := Aside0.mk hrHP; have HPC := Aside0.mk hcHP; clear hb1 hrHP hcHP)) | (go_at_call 51; ((with_reducible refine (GQ.out _ HL.out YL.out).mono ?_); rintro e w1 ⟨v, rfl, AHQ, cHQ, rfl, hcHQ, hrHQ, hb1⟩; replace HB := Aside0.mk (below_step HB.out hb1); replace X0 := Aside0.mk ((hb1.cell (World.block_lt_of_cell? _ _ X0.out)).trans X0.out); replace X1 := Aside0.mk ((hb1.cell (World.block_lt_of_cell? _ _ X1.out)).trans X1.out); (try clear hx0 hx1); have hx0 := X0.out; have hx1 := X1.out; replace HL := Aside0.mk (Kd.C_below HL.out hb1); replace HM := Aside0.mk (Kd.C_below HM.out hb1); (try replace HP := Aside0.mk (Kd.C_below HP.out hb1)); (try replace HD := Aside0.mk (Kd.C_below HD.out hb1)); (try replace HR := Aside0.mk (Kd.C_below HR.out hb1)); have HQ := Aside0.mk hrHQ; have HQC := Aside0.mk hcHQ; clear hb1 hrHQ hcHQ)) | (go_at_call 39; ((with_reducible refine (GZ.out _ _ _ _ _ (Nat.le_trans ZP.out (Nat.le_trans (Nat.succ_le_succ ZL.out) (by decide))) _ HP.out HPC.out HQ.out HQC.out).mono ?_); rintro e w1 ⟨rfl, hb1⟩; replace HB := Aside0.mk (below_step HB.out hb1); replace X0 := Aside0.mk ((hb1.cell (World.block_lt_of_cell? _ _ X0.out)).trans X0.out); replace X1 := Aside0.mk ((hb1.cell (World.block_lt_of_cell? _ _ X1.out)).trans X1.out); (try clear hx0 hx1); have hx0 := X0.out; have hx1 := X1.out; replace HL := Aside0.mk (Kd.C_below HL.out hb1); replace HM := Aside0.mk (Kd.C_below HM.out hb1); (try replace HP := Aside0.mk (Kd.C_below HP.out hb1)); (try replace HD := Aside0.mk (Kd.C_below HD.out hb1)); (try replace HR := Aside0.mk (Kd.C_below HR.out hb1)); clear hb1)) | (go_at_call 37; ((with_reducible refine (GD.out _ HL.out YL.out).mono ?_); rintro e w1 ⟨A9, c9, rfl, hb1⟩; replace HB := Aside0.mk (below_step HB.out hb1); replace X0 := Aside0.mk ((hb1.cell (World.block_lt_of_cell? _ _ X0.out)).trans X0.out); replace X1 := Aside0.mk ((hb1.cell (World.block_lt_of_cell? _ _ X1.out)).trans X1.out); (try clear hx0 hx1); have hx0 := X0.out; have hx1 := X1.out; replace HL := Aside0.mk (Kd.C_below HL.out hb1); replace HM := Aside0.mk (Kd.C_below HM.out hb1); (try replace HP := Aside0.mk (Kd.C_below HP.out hb1)); (try replace HD := Aside0.mk (Kd.C_below HD.out hb1)); (try replace HR := Aside0.mk (Kd.C_below HR.out hb1)); clear hb1)) | (go_at_call 49; ((with_reducible refine (GI.out _ HL.out YL.out).mono ?_); rintro e w1 ⟨rfl, hb1⟩; replace HB := Aside0.mk (below_step HB.out hb1); replace X0 := Aside0.mk ((hb1.cell (World.block_lt_of_cell? _ _ X0.out)).trans X0.out); replace X1 := Aside0.mk ((hb1.cell (World.block_lt_of_cell? _ _ X1.out)).trans X1.out); (try clear hx0 hx1); have hx0 := X0.out; have hx1 := X1.out; replace HL := Aside0.mk (Kd.C_below HL.out hb1); replace HM := Aside0.mk (Kd.C_below HM.out hb1); (try replace HP := Aside0.mk (Kd.C_below HP.out hb1)); (try replace HD := Aside0.mk (Kd.C_below HD.out hb1)); (try replace HR := Aside0.mk (Kd.C_below HR.out hb1)); clear hb1)))
 go_ret
 exact ⟨by first | rfl | (simp; done) | (simp [*]; done), HB.out⟩
theorem skipPuts_row (A0 : Option Addr) (c0 : Nat) (l0 : List It) (A1 : Option Addr) (c1 : Nat) (l1 : List It) (x0 : Int) (x1 : ByteArray) (q : Int) (w : World) (hr0 : Kd.C k46 w A0 l0.length l0) (hc0 : l0.length ≤ c0)
  (_ : ∀ y, y ∈ l0 → 0 ≤ y.f0 ∧ y.f0 ≤ 18446744073709551615 ∧ y.f1.size ≤ 9223372036854775807) (hr1 : Kd.C k46 w A1 l1.length l1) (hc1 : l1.length ≤ c1) (_ : ∀ y, y ∈ l1 → 0 ≤ y.f0 ∧ y.f0 ≤ 18446744073709551615 ∧ y.f1.size ≤ 9223372036854775807)
  (_ : (Lit.int .u64 x0).wf = true) (_ : x1.size ≤ maxLen) (_ : (Lit.int .u64 q).wf = true) (hT0 : TabW w) :
  Calls Tryd.prog 11 #[.slice A0 l0.length c0, .slice A1 l1.length c1, .agg #[.int .u64 x0, .string x1], .int .u64 q] w fun e w' => e = .returned (.bool true) ∧ Below w.heap.size w w' := by
 by_cases hR : RightP (l0.take 66)
 ·cases hH : has (l0.take 66) q <;> by_cases hz : 64 < x1.size
  ·exact puts_size_n A0 c0 l0 A1 c1 l1 ⟨x0, x1⟩ q w hr0 hc0 hr1 hc1  hT0 hR hz hH
  ·by_cases h64 : (l0.take 66).length = 64
   ·cases hx : has (l0.take 66) x0
    ·exact puts_space_n A0 c0 l0 A1 c1 l1 ⟨x0, x1⟩ q w hr0 hc0 hr1 hc1  hT0 hR hz ⟨hx, h64⟩ hH
    ·exact puts_okfull_n A0 c0 l0 A1 c1 l1 ⟨x0, x1⟩ q w hr0 hc0 hr1 hc1  hT0 hR hz ⟨hx, h64⟩ hH
   ·exact puts_ok_n A0 c0 l0 A1 c1 l1 ⟨x0, x1⟩ q w hr0 hc0 hr1 hc1  hT0 hR hz h64 hH
  ·exact puts_size_y A0 c0 l0 A1 c1 l1 ⟨x0, x1⟩ q w hr0 hc0 hr1 hc1  hT0 hR hz hH
  ·by_cases h64 : (l0.take 66).length = 64
   ·cases hx : has (l0.take 66) x0
    ·exact puts_space_y A0 c0 l0 A1 c1 l1 ⟨x0, x1⟩ q w hr0 hc0 hr1 hc1  hT0 hR hz ⟨hx, h64⟩ hH
    ·exact puts_okfull_y A0 c0 l0 A1 c1 l1 ⟨x0, x1⟩ q w hr0 hc0 hr1 hc1  hT0 hR hz ⟨hx, h64⟩ hH
   ·exact puts_ok_y A0 c0 l0 A1 c1 l1 ⟨x0, x1⟩ q w hr0 hc0 hr1 hc1  hT0 hR hz h64 hH
 ·exact puts_bad A0 c0 l0 A1 c1 l1 ⟨x0, x1⟩ q w hr0 hc0 hr1 hc1  hT0 hR
end Go.Proofs.YtolbhliepkcihaaDoor.SkipOps
end
