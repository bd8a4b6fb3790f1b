/- Joined by a program of this session (wip/pack.py) for this claim: QLRx1, PureLabRows. -/
import Derived.Test.YtolbhliepkcihaaDoorKLabelRowsb
section
namespace Go.Proofs.YtolbhliepkcihaaDoor.QLR
open Go.RowKit Go.Proofs.YtolbhliepkcihaaDoor.Kinds Go.Proofs.YtolbhliepkcihaaDoorW.PrintWords Go.Proofs.YtolbhliepkcihaaDoorW.PrintLast Go.Proofs.YtolbhliepkcihaaDoorW.PrintMore
attribute [local go_sem] max2_int min2_int max_two min_two max_three min_three max_four min_four   -- for this text's walks alone
set_option linter.unusedVariables false
set_option linter.unusedSimpArgs false
/-! ### saltuslaw17_alive: function 32 -/
def saltuslaw17_alive.f  : Option (Bool) := (label_Row.f (⟨#[107]⟩ : ByteArray) ([] : List (S46)) 0).bind fun bt101 => (if bt101.2 = 0 then (if (bt101.1.length : Int) = 1 then (if 0 < (bt101.1.length : Int) then (some (((rdOf ByteArray.empty bt101.1 0).size : Int) == 32)) else (none)) else (some false)) else (some false))
set_option maxHeartbeats 8000000 in
set_option maxRecDepth 100000 in
theorem saltuslaw17_alive.calls  (r : Bool) (w : World) (h : saltuslaw17_alive.f  = some r) (hT0 : Tower.TabW w) :
  Calls Tryd.prog 32 #[] w fun e w' => e = .returned (.bool r) ∧ Below w.heap.size w w' := by
 have HT := Aside0.mk hT0
 clear hT0
 have HB := Aside0.mk (Below.refl w.heap.size w)
 have H : ((label_Row.f (⟨#[107]⟩ : ByteArray) ([] : List (S46)) 0).bind fun bt101 => (if bt101.2 = 0 then (if (bt101.1.length : Int) = 1 then (if 0 < (bt101.1.length : Int) then (some (((rdOf ByteArray.empty bt101.1 0).size : Int) == 32)) else (none)) else (some false)) else (some false))) = some r := h
 clear h
 replace H := Option.bind_eq_some_iff.mp H
 obtain ⟨⟨t101, t102⟩, A10, H⟩ := H
 (try dsimp only at H)
 have A1 := Aside0.mk A10
 clear A10
 by_cases c2 : t102 = 0
 ·rw [if_pos c2] at H
  have c2b0 : (t102 == 0) = true := beq_iff_eq.mpr c2
  have c2b1 : (t102 != 0) = false := bne_eq_false_iff_eq.mpr c2
  clear c2
  by_cases c3 : (t101.length : Int) = 1
  ·rw [if_pos c3] at H
   have c3b0 : ((t101.length : Int) == 1) = true := beq_iff_eq.mpr c3
   have c3b1 : ((t101.length : Int) != 1) = false := bne_eq_false_iff_eq.mpr c3
   clear c3
   by_cases c4 : 0 < (t101.length : Int)
   ·rw [if_pos c4] at H
    have c4b0 : decide (0 < (t101.length : Int)) = true := decide_eq_true c4
    have c4b1 : decide (0 < t101.length) = true := decide_eq_true (by omega)
    clear c4
    obtain rfl := Option.some.inj H
    go_enter Tryd.func32, Tryd.ntmps32
    go_wp2_with (first | ((with_reducible refine gate_callee (f := 30) rfl ?_); refine goesL_ (some 4) rfl rfl Tryd.func30 (by kernel_rfl) rfl #[.string (⟨#[107]⟩ : ByteArray), .slice none 0 0, .int .i64 0] rfl (by (try simp only [List.map_toArray, List.map_cons, List.map_nil]); first | done | rfl | (simp only [List.length_drop, List.length_take]; rfl)) ?_; (refine (label_Row.calls (⟨#[107]⟩ : ByteArray) _ _ ([] : List (S46)) 0 t101 t102 _ ?side1 ?side2 A1.out (Tower.tab_below HT.out (by repeat (first | (with_reducible first | exact HB.out | apply below_alloc | apply pw_below_drewN | apply below_drew1) | exact HB.out)) (Nat.le_refl _))).mono ?_); (case side1 => exact Kd.C_nil _ _); (case side2 => exact Nat.le_refl _); rintro e w5 ⟨v103, rfl, ho0, hb⟩; refine ⟨_, rfl, ?_⟩; have n0_ := Aside0.mk (Kd.R_lower ho0 (below_size (by repeat (first | (with_reducible first | exact HB.out | apply below_alloc | apply pw_below_drewN | apply below_drew1) | exact HB.out)))); have n1_ := Aside0.mk (below_step (by repeat (first | (with_reducible first | exact HB.out | apply below_alloc | apply pw_below_drewN | apply below_drew1) | exact HB.out)) hb); clear HB; have HO104 := n0_; have HB := n1_; clear n0_ n1_; (try clear hb); (try clear hb2); (try clear hk); (try clear hi); (try clear ho0); obtain ⟨Ao6, co6, eo6⟩ := Kd.R_slice HO104.out; subst eo6; have p105 : 0 ≤ (0 : Int) := (by omega); have q105 : 0 < (t101.length : Int) := of_decide_eq_true (by first | (with_reducible assumption) | assumption); obtain ⟨ad105, e105, hx105_0⟩ := Kd.at_string (Kd.R_reads' HO104.out).2.2 0 p105 q105; cases e105; have qi105 : (0 < t101.length) = True := eq_true (by omega); (try rw [show ((0 : Int)).toNat = 0 from rfl] at hx105_0); (try rw [Addr.add_zero'] at hx105_0); replace p105 := eq_true p105; replace q105 := eq_true q105))
    go_ret
    exact ⟨by first | rfl | (simp [errW_none, errW_some] <;> rfl) | (simp [*, errW_none, errW_some] <;> rfl), by repeat (first | (with_reducible first | exact HB.out | apply below_alloc | apply pw_below_drewN | apply below_drew1) | exact HB.out)⟩
   ·rw [if_neg c4] at H
    exact absurd H (by simp)
  ·rw [if_neg c3] at H
   have c3b0 : ((t101.length : Int) == 1) = false := beq_eq_false_iff_ne.mpr c3
   have c3b1 : ((t101.length : Int) != 1) = true := bne_iff_ne.mpr c3
   obtain rfl := Option.some.inj H
   go_enter Tryd.func32, Tryd.ntmps32
   go_wp2_with (first | ((with_reducible refine gate_callee (f := 30) rfl ?_); refine goesL_ (some 4) rfl rfl Tryd.func30 (by kernel_rfl) rfl #[.string (⟨#[107]⟩ : ByteArray), .slice none 0 0, .int .i64 0] rfl (by (try simp only [List.map_toArray, List.map_cons, List.map_nil]); first | done | rfl | (simp only [List.length_drop, List.length_take]; rfl)) ?_; (refine (label_Row.calls (⟨#[107]⟩ : ByteArray) _ _ ([] : List (S46)) 0 t101 t102 _ ?side1 ?side2 A1.out (Tower.tab_below HT.out (by repeat (first | (with_reducible first | exact HB.out | apply below_alloc | apply pw_below_drewN | apply below_drew1) | exact HB.out)) (Nat.le_refl _))).mono ?_); (case side1 => exact Kd.C_nil _ _); (case side2 => exact Nat.le_refl _); rintro e w7 ⟨v103, rfl, ho0, hb⟩; refine ⟨_, rfl, ?_⟩; have n0_ := Aside0.mk (Kd.R_lower ho0 (below_size (by repeat (first | (with_reducible first | exact HB.out | apply below_alloc | apply pw_below_drewN | apply below_drew1) | exact HB.out)))); have n1_ := Aside0.mk (below_step (by repeat (first | (with_reducible first | exact HB.out | apply below_alloc | apply pw_below_drewN | apply below_drew1) | exact HB.out)) hb); clear HB; have HO104 := n0_; have HB := n1_; clear n0_ n1_; (try clear hb); (try clear hb2); (try clear hk); (try clear hi); (try clear ho0); obtain ⟨Ao8, co8, eo8⟩ := Kd.R_slice HO104.out; subst eo8))
   go_ret
   exact ⟨by first | rfl | (simp [errW_none, errW_some] <;> rfl) | (simp [*, errW_none, errW_some] <;> rfl), by repeat (first | (with_reducible first | exact HB.out | apply below_alloc | apply pw_below_drewN | apply below_drew1) | exact HB.out)⟩
 ·rw [if_neg c2] at H
  have c2b0 : (t102 == 0) = false := beq_eq_false_iff_ne.mpr c2
  have c2b1 : (t102 != 0) = true := bne_iff_ne.mpr c2
  obtain rfl := Option.some.inj H
  go_enter Tryd.func32, Tryd.ntmps32
  go_wp2_with (first | ((with_reducible refine gate_callee (f := 30) rfl ?_); refine goesL_ (some 4) rfl rfl Tryd.func30 (by kernel_rfl) rfl #[.string (⟨#[107]⟩ : ByteArray), .slice none 0 0, .int .i64 0] rfl (by (try simp only [List.map_toArray, List.map_cons, List.map_nil]); first | done | rfl | (simp only [List.length_drop, List.length_take]; rfl)) ?_; (refine (label_Row.calls (⟨#[107]⟩ : ByteArray) _ _ ([] : List (S46)) 0 t101 t102 _ ?side1 ?side2 A1.out (Tower.tab_below HT.out (by repeat (first | (with_reducible first | exact HB.out | apply below_alloc | apply pw_below_drewN | apply below_drew1) | exact HB.out)) (Nat.le_refl _))).mono ?_); (case side1 => exact Kd.C_nil _ _); (case side2 => exact Nat.le_refl _); rintro e w9 ⟨v103, rfl, ho0, hb⟩; refine ⟨_, rfl, ?_⟩; have n0_ := Aside0.mk (Kd.R_lower ho0 (below_size (by repeat (first | (with_reducible first | exact HB.out | apply below_alloc | apply pw_below_drewN | apply below_drew1) | exact HB.out)))); have n1_ := Aside0.mk (below_step (by repeat (first | (with_reducible first | exact HB.out | apply below_alloc | apply pw_below_drewN | apply below_drew1) | exact HB.out)) hb); clear HB; have HO104 := n0_; have HB := n1_; clear n0_ n1_; (try clear hb); (try clear hb2); (try clear hk); (try clear hi); (try clear ho0)))
  go_ret
  exact ⟨by first | rfl | (simp [errW_none, errW_some] <;> rfl) | (simp [*, errW_none, errW_some] <;> rfl), by repeat (first | (with_reducible first | exact HB.out | apply below_alloc | apply pw_below_drewN | apply below_drew1) | exact HB.out)⟩
/-! ### saltusref04_Same: function 34 -/
def saltusref04_Same.l0 : Nat → List ByteArray → List ByteArray → Int → Int → Option (Bool)
 | 0, _, _, _, _ => none
 | k + 1, x0, x1, x12, x13 => if x13 < x12 then (if 0 ≤ x13 then (if x13 < (x0.length : Int) then (if x13 < (x1.length : Int) then (if (rdOf ByteArray.empty x0 x13).toList = (rdOf ByteArray.empty x1 x13).toList then (saltusref04_Same.l0 k x0 x1 x12 (wrap64 (x13 + 1))) else (some false)) else (none)) else (none)) else (none)) else (some true)
def saltusref04_Same.f (k : Nat) (l0 : List ByteArray) (l1 : List ByteArray) : Option (Bool) := if (l0.length : Int) = (l1.length : Int) then (saltusref04_Same.l0 k l0 l1 (l0.length : Int) 0) else (some false)
theorem saltusref04_Same.mono_l : ∀ k, (∀ y0 y1 y2 y3, LeO (saltusref04_Same.l0 k y0 y1 y2 y3) (saltusref04_Same.l0 (k + 1) y0 y1 y2 y3))
 | 0 => fun _ _ _ _ r h => by simp [saltusref04_Same.l0] at h
 | k + 1 => by
  have ih0 := saltusref04_Same.mono_l k
  ·intro y0 y1 y2 y3
   unfold saltusref04_Same.l0
   repeat' first
   | (with_reducible exact ih0 _ _ _ _)
   | (with_reducible exact LeO.refl _)
   | (with_reducible exact LeO.none _)
   | (with_reducible refine LeO.ite ?_ ?_)
   | (with_reducible refine LeO.bind ?_ (fun _ => ?_))
   | exact ih0 _ _ _ _
   | exact LeO.none _
   | refine LeO.ite ?_ ?_
   | refine LeO.bind ?_ (fun _ => ?_)
theorem saltusref04_Same.mono : ∀ a0 a1 k, LeO (saltusref04_Same.f k a0 a1) (saltusref04_Same.f (k + 1) a0 a1) := by
 intro a0 a1 k
 have ih0 := saltusref04_Same.mono_l k
 unfold saltusref04_Same.f
 repeat' first
   | (with_reducible exact ih0 _ _ _ _)
   | (with_reducible exact LeO.refl _)
   | (with_reducible exact LeO.none _)
   | (with_reducible refine LeO.ite ?_ ?_)
   | (with_reducible refine LeO.bind ?_ (fun _ => ?_))
   | exact ih0 _ _ _ _
   | exact LeO.none _
   | refine LeO.ite ?_ ?_
   | refine LeO.bind ?_ (fun _ => ?_)
set_option maxHeartbeats 8000000 in
set_option maxRecDepth 100000 in
theorem saltusref04_Same.calls (k : Nat) (A0 : Option Addr) (c0 : Nat) (l0 : List ByteArray) (A1 : Option Addr) (c1 : Nat) (l1 : List ByteArray) (r : Bool) (w : World) (hr0 : Kd.C Kd.string w A0 l0.length l0) (hc0 : l0.length ≤ c0) (hr1 : Kd.C Kd.string w A1 l1.length l1) (hc1 : l1.length ≤ c1) (h : saltusref04_Same.f k l0 l1 = some r) :
  Calls Tryd.prog 34 #[.slice A0 l0.length c0, .slice A1 l1.length c1] w fun e w' => e = .returned (.bool r) ∧ Drawn0 w w' := by
 have HR0 := Aside0.mk hr0
 have HC0 := Aside0.mk hc0
 clear hr0 hc0
 have HR1 := Aside0.mk hr1
 have HC1 := Aside0.mk hc1
 clear hr1 hc1
 have H : (if (l0.length : Int) = (l1.length : Int) then (saltusref04_Same.l0 k l0 l1 (l0.length : Int) 0) else (some false)) = some r := h
 clear h
 by_cases c3 : (l0.length : Int) = (l1.length : Int)
 ·rw [if_pos c3] at H
  have c3b0 : ((l0.length : Int) == (l1.length : Int)) = true := beq_iff_eq.mpr c3
  have c3b1 : ((l0.length : Int) != (l1.length : Int)) = false := bne_eq_false_iff_eq.mpr c3
  have c3b2 : (l0.length == l1.length) = true := by first | simpa using c3 | (simp at c3 ⊢; omega)
  clear c3
  have H' := Aside0.mk H
  clear H
  go_enter Tryd.func34, Tryd.ntmps34
  go_wp2
  repeat (go_quiet (fail); try go_wp2)
  go_loopg [13] k (fun kq v13 w' => ∃ (x13_1 : Int), v13 = .int .i64 x13_1 ∧ Aside0 (saltusref04_Same.l0 kq l0 l1 (l0.length : Int) x13_1 = some r) ∧ Aside0 (kq ≤ k) ∧ Drawn0 w w')
  case atStart => exact ⟨(0), (by first | rfl | (simp; done) | (simp [*]; done)), H', ⟨Nat.le_refl _⟩, by repeat (first | exact Drawn0.refl _ | apply Drawn0.step)⟩
  case round =>
   clear H'
   try clear c1
   try clear p2
   try clear c3
   try clear c3b0
   try clear c3b1
   try clear c3b2
   obtain ⟨x13_1, rfl, HA, HK1, ⟨m1, rfl⟩⟩ := hrel
   cases gk with
   | zero => exact absurd HA.out (by simp [saltusref04_Same.l0])
   | succ k1 =>
    have H := HA.out
    clear HA
    simp only [saltusref04_Same.l0] at H
    by_cases c4 : x13_1 < (l0.length : Int)
    ·rw [if_pos c4] at H
     have c4b0 : decide (x13_1 < (l0.length : Int)) = true := decide_eq_true c4
     clear c4
     by_cases c5 : 0 ≤ x13_1
     ·rw [if_pos c5] at H
      have c5b0 : decide (0 ≤ x13_1) = true := decide_eq_true c5
      clear c5
      by_cases c6 : x13_1 < (l0.length : Int)
      ·rw [if_pos c6] at H
       have c6b0 : decide (x13_1 < (l0.length : Int)) = true := decide_eq_true c6
       clear c6
       by_cases c7 : x13_1 < (l1.length : Int)
       ·rw [if_pos c7] at H
        have c7b0 : decide (x13_1 < (l1.length : Int)) = true := decide_eq_true c7
        clear c7
        by_cases c8 : (rdOf ByteArray.empty l0 x13_1).toList = (rdOf ByteArray.empty l1 x13_1).toList
        ·rw [if_pos c8] at H
         have c8b0 : ((rdOf ByteArray.empty l0 x13_1).toList == (rdOf ByteArray.empty l1 x13_1).toList) = true := beq_iff_eq.mpr c8
         have c8b1 : ((rdOf ByteArray.empty l0 x13_1).toList != (rdOf ByteArray.empty l1 x13_1).toList) = false := bne_eq_false_iff_eq.mpr c8
         clear c8
         have H' := Aside0.mk H
         clear H
         have p106 : 0 ≤ (x13_1 : Int) := of_decide_eq_true (by first | (with_reducible assumption) | assumption)
         have q106 : x13_1 < (l0.length : Int) := of_decide_eq_true (by first | (with_reducible assumption) | assumption)
         obtain ⟨ad106, e106, hx106_0⟩ := Kd.at_string HR0.out x13_1 p106 q106
         cases e106
         replace p106 := eq_true p106
         replace q106 := eq_true q106
         have p107 : 0 ≤ (x13_1 : Int) := of_decide_eq_true (by first | (with_reducible assumption) | assumption)
         have q107 : x13_1 < (l1.length : Int) := of_decide_eq_true (by first | (with_reducible assumption) | assumption)
         obtain ⟨ad107, e107, hx107_0⟩ := Kd.at_string HR1.out x13_1 p107 q107
         cases e107
         replace p107 := eq_true p107
         replace q107 := eq_true q107
         go_wp2
         repeat (go_quiet (fail); try go_wp2)
         go_roundg k1
         case measure => have := HK1.out; omega
         case rel => exact ⟨(wrap64 (x13_1 + 1)), (by first | rfl | (simp; done) | (simp [*]; done)), H', ⟨by have := HK1.out; omega⟩, by repeat (first | exact Drawn0.refl _ | apply Drawn0.step)⟩
        ·rw [if_neg c8] at H
         have c8b0 : ((rdOf ByteArray.empty l0 x13_1).toList == (rdOf ByteArray.empty l1 x13_1).toList) = false := beq_eq_false_iff_ne.mpr c8
         have c8b1 : ((rdOf ByteArray.empty l0 x13_1).toList != (rdOf ByteArray.empty l1 x13_1).toList) = true := bne_iff_ne.mpr c8
         obtain rfl := Option.some.inj H
         have p106 : 0 ≤ (x13_1 : Int) := of_decide_eq_true (by first | (with_reducible assumption) | assumption)
         have q106 : x13_1 < (l0.length : Int) := of_decide_eq_true (by first | (with_reducible assumption) | assumption)
         obtain ⟨ad106, e106, hx106_0⟩ := Kd.at_string HR0.out x13_1 p106 q106
         cases e106
         replace p106 := eq_true p106
         replace q106 := eq_true q106
         have p107 : 0 ≤ (x13_1 : Int) := of_decide_eq_true (by first | (with_reducible assumption) | assumption)
         have q107 : x13_1 < (l1.length : Int) := of_decide_eq_true (by first | (with_reducible assumption) | assumption)
         obtain ⟨ad107, e107, hx107_0⟩ := Kd.at_string HR1.out x13_1 p107 q107
         cases e107
         replace p107 := eq_true p107
         replace q107 := eq_true q107
         go_wp2
         repeat (go_quiet (fail); try go_wp2)
         go_ret
         exact ⟨by first | rfl | (simp; done) | (simp [*]; done), by repeat (first | exact Drawn0.refl _ | apply Drawn0.step)⟩
       ·rw [if_neg c7] at H
        exact absurd H (by simp)
      ·rw [if_neg c6] at H
       exact absurd H (by simp)
     ·rw [if_neg c5] at H
      exact absurd H (by simp)
    ·rw [if_neg c4] at H
     have c4b0 : decide (x13_1 < (l0.length : Int)) = false := decide_eq_false c4
     clear c4
     obtain rfl := Option.some.inj H
     go_wp2
     repeat (go_quiet (fail); try go_wp2)
     go_ret
     exact ⟨by first | rfl | (simp; done) | (simp [*]; done), by repeat (first | exact Drawn0.refl _ | apply Drawn0.step)⟩
 ·rw [if_neg c3] at H
  have c3b0 : ((l0.length : Int) == (l1.length : Int)) = false := beq_eq_false_iff_ne.mpr c3
  have c3b1 : ((l0.length : Int) != (l1.length : Int)) = true := bne_iff_ne.mpr c3
  have c3b2 : (l0.length == l1.length) = false := by first | simpa using c3 | (simp at c3 ⊢; omega)
  obtain rfl := Option.some.inj H
  go_enter Tryd.func34, Tryd.ntmps34
  go_wp2
  repeat (go_quiet (fail); try go_wp2)
  go_ret
  exact ⟨by first | rfl | (simp; done) | (simp [*]; done), by repeat (first | exact Drawn0.refl _ | apply Drawn0.step)⟩
/-! ### saltuslaw17_LabelRows: function 8 -/
mutual
def saltuslaw17_LabelRows.j0 : Nat → ByteArray → List (S46) → Int → List ByteArray → Int → Bool → Option (Bool)
 | 0, _, _, _, _, _, _ => none
 | k + 1, x0, x1, x2, x7, x8, x67 => if x67 = true then (some false) else (if x2 < 0 then (saltuslaw17_LabelRows.j1 k x0 x1 x2 x7 x8 true) else (saltuslaw17_LabelRows.j1 k x0 x1 x2 x7 x8 (decide (x2 > 8))))
def saltuslaw17_LabelRows.j1 : Nat → ByteArray → List (S46) → Int → List ByteArray → Int → Bool → Option (Bool)
 | 0, _, _, _, _, _, _ => none
 | k + 1, x0, x1, x2, x7, x8, x73 => if x73 = true then (if x8 = 2 then (some ((x7.length : Int) == 0)) else (some false)) else (if x8 = 0 then ((saltusref17_Row.f x0 x1 x2).bind fun t122 => ((saltusref04_Same.f k x7 t122).bind fun t125 => (some t125))) else (some false))
end
def saltuslaw17_LabelRows.f (k : Nat) (a0 : ByteArray) (l1 : List (S46)) (a2 : Int) : Option (Bool) := if 0 ≤ (mn (a0.size : Int) 80) then (if (mn (a0.size : Int) 80) ≤ (a0.size : Int) then (if 0 ≤ (mn (l1.length : Int) 14) then (if (mn (l1.length : Int) 14) ≤ (l1.length : Int) then ((some (l1.take ((mn (l1.length : Int) 14) : Int).toNat : List (S46))).bind fun y108 => ((label_Row.f (a0.extract 0 ((mn (a0.size : Int) 80) : Int).toNat) y108 a2).bind fun bt112 => ((label_Root.f (a0.extract 0 ((mn (a0.size : Int) 80) : Int).toNat) y108).bind fun bt116 => ((saltusref16_Right.f y108).bind fun t118 => (if t118 = true then (if bt116.2 = 0 then ((saltusref17_Root.f (a0.extract 0 ((mn (a0.size : Int) 80) : Int).toNat) y108).bind fun t120 => (if bt116.1.toList = t120.toList then ((saltuslaw17_alive.f).bind fun t121 => (saltuslaw17_LabelRows.j0 k (a0.extract 0 ((mn (a0.size : Int) 80) : Int).toNat) y108 a2 bt112.1 bt112.2 (!t121))) else (saltuslaw17_LabelRows.j0 k (a0.extract 0 ((mn (a0.size : Int) 80) : Int).toNat) y108 a2 bt112.1 bt112.2 true))) else (saltuslaw17_LabelRows.j0 k (a0.extract 0 ((mn (a0.size : Int) 80) : Int).toNat) y108 a2 bt112.1 bt112.2 true)) else ((saltuslaw17_alive.f).bind fun t119 => (if t119 = true then (if bt112.2 = 1 then (if bt116.2 = 1 then (if (bt112.1.length : Int) = 0 then (some (bt116.1.toList == ([] : List UInt8))) else (some false)) else (some false)) else (some false)) else (some false)))))))) else (none)) else (none)) else (none)) else (none)
theorem saltuslaw17_LabelRows.mono_l : ∀ k, (∀ y0 y1 y2 y3 y4 y5, LeO (saltuslaw17_LabelRows.j0 k y0 y1 y2 y3 y4 y5) (saltuslaw17_LabelRows.j0 (k + 1) y0 y1 y2 y3 y4 y5)) ∧ (∀ y0 y1 y2 y3 y4 y5, LeO (saltuslaw17_LabelRows.j1 k y0 y1 y2 y3 y4 y5) (saltuslaw17_LabelRows.j1 (k + 1) y0 y1 y2 y3 y4 y5))
 | 0 => ⟨fun _ _ _ _ _ _ r h => by simp [saltuslaw17_LabelRows.j0] at h, fun _ _ _ _ _ _ r h => by simp [saltuslaw17_LabelRows.j1] at h⟩
 | k + 1 => by
  obtain ⟨ih0, ih1⟩ := saltuslaw17_LabelRows.mono_l k
  refine ⟨?_, ?_⟩
  ·intro y0 y1 y2 y3 y4 y5
   unfold saltuslaw17_LabelRows.j0
   repeat' first
   | (with_reducible exact ih0 _ _ _ _ _ _)
   | (with_reducible exact ih1 _ _ _ _ _ _)
   | (with_reducible exact saltusref04_Same.mono _ _ _)
   | (with_reducible exact LeO.refl _)
   | (with_reducible exact LeO.none _)
   | (with_reducible refine LeO.ite ?_ ?_)
   | (with_reducible refine LeO.bind ?_ (fun _ => ?_))
   | exact ih0 _ _ _ _ _ _
   | exact ih1 _ _ _ _ _ _
   | exact saltusref04_Same.mono _ _ _
   | exact LeO.none _
   | refine LeO.ite ?_ ?_
   | refine LeO.bind ?_ (fun _ => ?_)
  ·intro y0 y1 y2 y3 y4 y5
   unfold saltuslaw17_LabelRows.j1
   repeat' first
   | (with_reducible exact ih0 _ _ _ _ _ _)
   | (with_reducible exact ih1 _ _ _ _ _ _)
   | (with_reducible exact saltusref04_Same.mono _ _ _)
   | (with_reducible exact LeO.refl _)
   | (with_reducible exact LeO.none _)
   | (with_reducible refine LeO.ite ?_ ?_)
   | (with_reducible refine LeO.bind ?_ (fun _ => ?_))
   | exact ih0 _ _ _ _ _ _
   | exact ih1 _ _ _ _ _ _
   | exact saltusref04_Same.mono _ _ _
   | exact LeO.none _
   | refine LeO.ite ?_ ?_
   | refine LeO.bind ?_ (fun _ => ?_)
theorem saltuslaw17_LabelRows.mono : ∀ a0 a1 a2 k, LeO (saltuslaw17_LabelRows.f k a0 a1 a2) (saltuslaw17_LabelRows.f (k + 1) a0 a1 a2) := by
 intro a0 a1 a2 k
 obtain ⟨ih0, ih1⟩ := saltuslaw17_LabelRows.mono_l k
 unfold saltuslaw17_LabelRows.f
 repeat' first
   | (with_reducible exact ih0 _ _ _ _ _ _)
   | (with_reducible exact ih1 _ _ _ _ _ _)
   | (with_reducible exact saltusref04_Same.mono _ _ _)
   | (with_reducible exact LeO.refl _)
   | (with_reducible exact LeO.none _)
   | (with_reducible refine LeO.ite ?_ ?_)
   | (with_reducible refine LeO.bind ?_ (fun _ => ?_))
   | exact ih0 _ _ _ _ _ _
   | exact ih1 _ _ _ _ _ _
   | exact saltusref04_Same.mono _ _ _
   | exact LeO.none _
   | refine LeO.ite ?_ ?_
   | refine LeO.bind ?_ (fun _ => ?_)
set_option maxHeartbeats 8000000 in
set_option maxRecDepth 100000 in
theorem saltuslaw17_LabelRows.calls (k : Nat) (a0 : ByteArray) (A1 : Option Addr) (c1 : Nat) (l1 : List (S46)) (a2 : Int) (r : Bool) (w : World) (hr1 : Kd.C k46 w A1 l1.length l1) (hc1 : l1.length ≤ c1) (hr : Aside0 (r = true)) (h : saltuslaw17_LabelRows.f k a0 l1 a2 = some r) (hT0 : Tower.TabW w) :
  Calls Tryd.prog 8 #[.string a0, .slice A1 l1.length c1, .int .i64 a2] w fun e w' => e = .returned (.bool r) ∧ Below w.heap.size w w' := by
 have HT := Aside0.mk hT0
 clear hT0
 have HR1 := Aside0.mk hr1
 have HC1 := Aside0.mk hc1
 clear hr1 hc1
 have HB := Aside0.mk (Below.refl w.heap.size w)
 have H : (if 0 ≤ (mn (a0.size : Int) 80) then (if (mn (a0.size : Int) 80) ≤ (a0.size : Int) then (if 0 ≤ (mn (l1.length : Int) 14) then (if (mn (l1.length : Int) 14) ≤ (l1.length : Int) then ((some (l1.take ((mn (l1.length : Int) 14) : Int).toNat : List (S46))).bind fun y108 => ((label_Row.f (a0.extract 0 ((mn (a0.size : Int) 80) : Int).toNat) y108 a2).bind fun bt112 => ((label_Root.f (a0.extract 0 ((mn (a0.size : Int) 80) : Int).toNat) y108).bind fun bt116 => ((saltusref16_Right.f y108).bind fun t118 => (if t118 = true then (if bt116.2 = 0 then ((saltusref17_Root.f (a0.extract 0 ((mn (a0.size : Int) 80) : Int).toNat) y108).bind fun t120 => (if bt116.1.toList = t120.toList then ((saltuslaw17_alive.f).bind fun t121 => (saltuslaw17_LabelRows.j0 k (a0.extract 0 ((mn (a0.size : Int) 80) : Int).toNat) y108 a2 bt112.1 bt112.2 (!t121))) else (saltuslaw17_LabelRows.j0 k (a0.extract 0 ((mn (a0.size : Int) 80) : Int).toNat) y108 a2 bt112.1 bt112.2 true))) else (saltuslaw17_LabelRows.j0 k (a0.extract 0 ((mn (a0.size : Int) 80) : Int).toNat) y108 a2 bt112.1 bt112.2 true)) else ((saltuslaw17_alive.f).bind fun t119 => (if t119 = true then (if bt112.2 = 1 then (if bt116.2 = 1 then (if (bt112.1.length : Int) = 0 then (some (bt116.1.toList == ([] : List UInt8))) else (some false)) else (some false)) else (some false)) else (some false)))))))) else (none)) else (none)) else (none)) else (none)) = some r := h
 clear h
 obtain ⟨ji4, hji4⟩ : ∃ j_ : Int, (mn (a0.size : Int) 80) = j_ := ⟨_, rfl⟩
 replace H : (if 0 ≤ (ji4) then (if (ji4) ≤ (a0.size : Int) then (if 0 ≤ (mn (l1.length : Int) 14) then (if (mn (l1.length : Int) 14) ≤ (l1.length : Int) then ((some (l1.take ((mn (l1.length : Int) 14) : Int).toNat : List (S46))).bind fun y108 => ((label_Row.f (a0.extract 0 ((ji4) : Int).toNat) y108 a2).bind fun bt112 => ((label_Root.f (a0.extract 0 ((ji4) : Int).toNat) y108).bind fun bt116 => ((saltusref16_Right.f y108).bind fun t118 => (if t118 = true then (if bt116.2 = 0 then ((saltusref17_Root.f (a0.extract 0 ((ji4) : Int).toNat) y108).bind fun t120 => (if bt116.1.toList = t120.toList then ((saltuslaw17_alive.f).bind fun t121 => (saltuslaw17_LabelRows.j0 k (a0.extract 0 ((ji4) : Int).toNat) y108 a2 bt112.1 bt112.2 (!t121))) else (saltuslaw17_LabelRows.j0 k (a0.extract 0 ((ji4) : Int).toNat) y108 a2 bt112.1 bt112.2 true))) else (saltuslaw17_LabelRows.j0 k (a0.extract 0 ((ji4) : Int).toNat) y108 a2 bt112.1 bt112.2 true)) else ((saltuslaw17_alive.f).bind fun t119 => (if t119 = true then (if bt112.2 = 1 then (if bt116.2 = 1 then (if (bt112.1.length : Int) = 0 then (some (bt116.1.toList == ([] : List UInt8))) else (some false)) else (some false)) else (some false)) else (some false)))))))) else (none)) else (none)) else (none)) else (none)) = some r := by first | (rw [hji4] at H; exact H) | (simp only [hji4] at H ⊢; exact H)
 (try (have hji4h : ji4 ≤ 80 := by (rw [← hji4]; unfold mn; (repeat' split) <;> omega)))
 (try (have hji4g : ji4 ≤ 64 := by omega))
 (try (have hji4l : 0 ≤ ji4 := by (rw [← hji4]; unfold mn; (repeat' split) <;> omega)))
 (try (have hji4m : 0 ≤ ji4 := by omega))
 have hji4_ : (if 80 < (a0.size : Int) then 80 else (a0.size : Int)) = ji4 := hji4
 by_cases c5 : 0 ≤ (ji4)
 ·rw [if_pos c5] at H
  have c5b0 := eq_true c5
  have c5b1 : decide (0 ≤ (ji4)) = true := decide_eq_true c5
  clear c5
  by_cases c6 : (ji4) ≤ (a0.size : Int)
  ·rw [if_pos c6] at H
   have c6b0 := eq_true c6
   have c6b1 : decide ((ji4) ≤ (a0.size : Int)) = true := decide_eq_true c6
   clear c6
   obtain ⟨ji7, hji7⟩ : ∃ j_ : Int, (mn (l1.length : Int) 14) = j_ := ⟨_, rfl⟩
   replace H : (if 0 ≤ (ji7) then (if (ji7) ≤ (l1.length : Int) then ((some (l1.take ((ji7) : Int).toNat : List (S46))).bind fun y108 => ((label_Row.f (a0.extract 0 ((ji4) : Int).toNat) y108 a2).bind fun bt112 => ((label_Root.f (a0.extract 0 ((ji4) : Int).toNat) y108).bind fun bt116 => ((saltusref16_Right.f y108).bind fun t118 => (if t118 = true then (if bt116.2 = 0 then ((saltusref17_Root.f (a0.extract 0 ((ji4) : Int).toNat) y108).bind fun t120 => (if bt116.1.toList = t120.toList then ((saltuslaw17_alive.f).bind fun t121 => (saltuslaw17_LabelRows.j0 k (a0.extract 0 ((ji4) : Int).toNat) y108 a2 bt112.1 bt112.2 (!t121))) else (saltuslaw17_LabelRows.j0 k (a0.extract 0 ((ji4) : Int).toNat) y108 a2 bt112.1 bt112.2 true))) else (saltuslaw17_LabelRows.j0 k (a0.extract 0 ((ji4) : Int).toNat) y108 a2 bt112.1 bt112.2 true)) else ((saltuslaw17_alive.f).bind fun t119 => (if t119 = true then (if bt112.2 = 1 then (if bt116.2 = 1 then (if (bt112.1.length : Int) = 0 then (some (bt116.1.toList == ([] : List UInt8))) else (some false)) else (some false)) else (some false)) else (some false)))))))) else (none)) else (none)) = some r := by first | (rw [hji7] at H; exact H) | (simp only [hji7] at H ⊢; exact H)
   (try (have hji7h : ji7 ≤ 14 := by (rw [← hji7]; unfold mn; (repeat' split) <;> omega)))
   (try (have hji7g : ji7 ≤ 64 := by omega))
   (try (have hji7l : 0 ≤ ji7 := by (rw [← hji7]; unfold mn; (repeat' split) <;> omega)))
   (try (have hji7m : 0 ≤ ji7 := by omega))
   have hji7_ : (if 14 < (l1.length : Int) then 14 else (l1.length : Int)) = ji7 := hji7
   by_cases c8 : 0 ≤ (ji7)
   ·rw [if_pos c8] at H
    have c8b0 := eq_true c8
    have c8b1 : decide (0 ≤ (ji7)) = true := decide_eq_true c8
    clear c8
    by_cases c9 : (ji7) ≤ (l1.length : Int)
    ·rw [if_pos c9] at H
     have c9b0 := eq_true c9
     have c9b1 : decide ((ji7) ≤ (l1.length : Int)) = true := decide_eq_true c9
     clear c9
     obtain ⟨y108, hy108⟩ : ∃ y_ : List (S46), y_ = (l1.take ((ji7) : Int).toNat) := ⟨_, rfl⟩
     replace H : ((label_Row.f (a0.extract 0 ((ji4) : Int).toNat) y108 a2).bind fun bt112 => ((label_Root.f (a0.extract 0 ((ji4) : Int).toNat) y108).bind fun bt116 => ((saltusref16_Right.f y108).bind fun t118 => (if t118 = true then (if bt116.2 = 0 then ((saltusref17_Root.f (a0.extract 0 ((ji4) : Int).toNat) y108).bind fun t120 => (if bt116.1.toList = t120.toList then ((saltuslaw17_alive.f).bind fun t121 => (saltuslaw17_LabelRows.j0 k (a0.extract 0 ((ji4) : Int).toNat) y108 a2 bt112.1 bt112.2 (!t121))) else (saltuslaw17_LabelRows.j0 k (a0.extract 0 ((ji4) : Int).toNat) y108 a2 bt112.1 bt112.2 true))) else (saltuslaw17_LabelRows.j0 k (a0.extract 0 ((ji4) : Int).toNat) y108 a2 bt112.1 bt112.2 true)) else ((saltuslaw17_alive.f).bind fun t119 => (if t119 = true then (if bt112.2 = 1 then (if bt116.2 = 1 then (if (bt112.1.length : Int) = 0 then (some (bt116.1.toList == ([] : List UInt8))) else (some false)) else (some false)) else (some false)) else (some false))))))) = some r := by first | (rw [hy108]; with_reducible exact H) | (have H2_ := (Option.bind_some _ _).symm.trans H; rw [hy108]; with_reducible exact H2_) | (have H2_ := (Option.bind_some _ _).symm.trans H; with_reducible exact H2_) | with_reducible exact H | (rw [hy108]; exact H) | exact H
     have Ny108 := Aside0.mk hy108
     clear hy108
     replace H := Option.bind_eq_some_iff.mp H
     obtain ⟨⟨t112, t113⟩, A100, H⟩ := H
     (try dsimp only at H)
     have A10 := Aside0.mk A100
     clear A100
     replace H := Option.bind_eq_some_iff.mp H
     obtain ⟨⟨t116, t117⟩, A110, H⟩ := H
     (try dsimp only at H)
     have A11 := Aside0.mk A110
     clear A110
     replace H := Option.bind_eq_some_iff.mp H
     obtain ⟨t118, A120, H⟩ := H
     (try dsimp only at H)
     have A12 := Aside0.mk A120
     clear A120
     by_cases c13 : t118 = true
     ·subst c13
      have H1 : (if t117 = 0 then ((saltusref17_Root.f (a0.extract 0 ((ji4) : Int).toNat) y108).bind fun t120 => (if t116.toList = t120.toList then ((saltuslaw17_alive.f).bind fun t121 => (saltuslaw17_LabelRows.j0 k (a0.extract 0 ((ji4) : Int).toNat) y108 a2 t112 t113 (!t121))) else (saltuslaw17_LabelRows.j0 k (a0.extract 0 ((ji4) : Int).toNat) y108 a2 t112 t113 true))) else (saltuslaw17_LabelRows.j0 k (a0.extract 0 ((ji4) : Int).toNat) y108 a2 t112 t113 true)) = some r := by rw [if_pos rfl] at H; exact H
      clear H
      have H := H1
      clear H1
      have HC14 := Aside0.mk H
      clear H
      have q15 : ((ji7) : Int) ≤ ((l1.length : Int) : Int) := of_decide_eq_true (by first | (with_reducible assumption) | assumption)
      obtain ⟨i015, hi015, _, hsz15, _⟩ := info_parts info46
      have hroom15 : l1.length ≤ c1 := HC1.out
      have hC15 : Kd.C k46 _ A1 l1.length l1 := HR1.out
      have hcut15 := cut_to (P := Tryd.prog) 36 46 .i64 Tryd.underlying36 hi015 A1 l1.length c1 (ji7) (of_decide_eq_true (by first | (with_reducible assumption) | assumption)) q15 hroom15
      have hr15 := Kd.C_take (m := ((ji7) : Int).toNat) hC15 (by omega)
      have hy15 : y108.length = ((ji7) : Int).toNat := (by rw [Ny108.out, List.length_take]; omega)
      rw [← Ny108.out] at hr15
      rw [← hy15] at hcut15
      have HR111 := Aside0.mk hr15
      have HC111 := Aside0.mk (show y108.length ≤ c1 from by omega)
      clear hr15 hC15 hroom15 hi015 hsz15
      have KY15 := Aside0.mk hy15
      clear hy15
      replace q15 := eq_true q15
      go_enter Tryd.func8, Tryd.ntmps8
      go_upto_region 6 with (first | (go_at_call 30; (with_reducible refine (label_Row.calls (a0.extract 0 ((ji4) : Int).toNat) _ _ y108 a2 t112 t113 _ ?side1 ?side2 A10.out (Tower.tab_below HT.out (by repeat (first | (with_reducible first | exact HB.out | apply below_alloc | apply pw_below_drewN | apply below_drew1) | exact HB.out)) (Nat.le_refl _))).mono ?_); (case side1 => repeat (first | exact HR111.out | (with_reducible refine Kd.C_alloc ?_ _) | (with_reducible refine Kd.C_drewN ?_ _) | (with_reducible refine Kd.C_drew ?_))); (case side2 => exact HC111.out); rintro e w16 ⟨v114, rfl, ho0, hb⟩; have n0_ := Aside0.mk (Kd.R_lower ho0 (below_size (by repeat (first | (with_reducible first | exact HB.out | apply below_alloc | apply pw_below_drewN | apply below_drew1) | exact HB.out)))); have n1_ := Aside0.mk (below_step (by repeat (first | (with_reducible first | exact HB.out | apply below_alloc | apply pw_below_drewN | apply below_drew1) | exact HB.out)) hb); clear HB; have HO115 := n0_; have HB := n1_; clear n0_ n1_; (try clear hb); (try clear hb2); (try clear hk); (try clear hi); (try clear ho0)) | (go_at_call 31; (with_reducible refine (label_Root.calls (a0.extract 0 ((ji4) : Int).toNat) _ _ y108 t116 t117 _ ?side1 ?side2 A11.out (Tower.tab_below HT.out (by repeat (first | (with_reducible first | exact HB.out | apply below_alloc | apply pw_below_drewN | apply below_drew1) | exact HB.out)) (Nat.le_refl _))).mono ?_); (case side1 => repeat (first | exact (Kd.C_below HR111.out HB.out) | (with_reducible refine Kd.C_alloc ?_ _) | (with_reducible refine Kd.C_drewN ?_ _) | (with_reducible refine Kd.C_drew ?_))); (case side2 => exact HC111.out); rintro e w17 ⟨rfl, hb⟩; have n0_ := Aside0.mk (Kd.R_below (by (with_reducible repeat (first | apply Kd.R_alloc | apply Kd.R_drewN | apply Kd.R_drew)); exact HO115.out) hb); have n1_ := Aside0.mk (below_step (by repeat (first | (with_reducible first | exact HB.out | apply below_alloc | apply pw_below_drewN | apply below_drew1) | exact HB.out)) hb); clear HO115; clear HB; have HO115 := n0_; have HB := n1_; clear n0_ n1_; (try clear hb); (try clear hb2); (try clear hk); (try clear hi)) | (go_at_call 25; (with_reducible refine (saltusref16_Right.calls _ _ y108 true _ ?side1 ?side2 A12.out).mono ?_); (case side1 => repeat (first | exact (Kd.C_below HR111.out HB.out) | (with_reducible refine Kd.C_alloc ?_ _) | (with_reducible refine Kd.C_drewN ?_ _) | (with_reducible refine Kd.C_drew ?_))); (case side2 => exact HC111.out); rintro e w18 ⟨rfl, hb⟩; have n0_ := Aside0.mk (Kd.R_below (by (with_reducible repeat (first | apply Kd.R_alloc | apply Kd.R_drewN | apply Kd.R_drew)); exact HO115.out) hb); have n1_ := Aside0.mk (below_step (by repeat (first | (with_reducible first | exact HB.out | apply below_alloc | apply pw_below_drewN | apply below_drew1) | exact HB.out)) hb); clear HO115; clear HB; have HO115 := n0_; have HB := n1_; clear n0_ n1_; (try clear hb); (try clear hb2); (try clear hk); (try clear hi)))
      repeat (go_quiet (first | (go_at_call 30; (with_reducible refine (label_Row.calls (a0.extract 0 ((ji4) : Int).toNat) _ _ y108 a2 t112 t113 _ ?side1 ?side2 A10.out (Tower.tab_below HT.out (by repeat (first | (with_reducible first | exact HB.out | apply below_alloc | apply pw_below_drewN | apply below_drew1) | exact HB.out)) (Nat.le_refl _))).mono ?_); (case side1 => repeat (first | exact HR111.out | (with_reducible refine Kd.C_alloc ?_ _) | (with_reducible refine Kd.C_drewN ?_ _) | (with_reducible refine Kd.C_drew ?_))); (case side2 => exact HC111.out); rintro e w16 ⟨v114, rfl, ho0, hb⟩; have n0_ := Aside0.mk (Kd.R_lower ho0 (below_size (by repeat (first | (with_reducible first | exact HB.out | apply below_alloc | apply pw_below_drewN | apply below_drew1) | exact HB.out)))); have n1_ := Aside0.mk (below_step (by repeat (first | (with_reducible first | exact HB.out | apply below_alloc | apply pw_below_drewN | apply below_drew1) | exact HB.out)) hb); clear HB; have HO115 := n0_; have HB := n1_; clear n0_ n1_; (try clear hb); (try clear hb2); (try clear hk); (try clear hi); (try clear ho0)) | (go_at_call 31; (with_reducible refine (label_Root.calls (a0.extract 0 ((ji4) : Int).toNat) _ _ y108 t116 t117 _ ?side1 ?side2 A11.out (Tower.tab_below HT.out (by repeat (first | (with_reducible first | exact HB.out | apply below_alloc | apply pw_below_drewN | apply below_drew1) | exact HB.out)) (Nat.le_refl _))).mono ?_); (case side1 => repeat (first | exact (Kd.C_below HR111.out HB.out) | (with_reducible refine Kd.C_alloc ?_ _) | (with_reducible refine Kd.C_drewN ?_ _) | (with_reducible refine Kd.C_drew ?_))); (case side2 => exact HC111.out); rintro e w17 ⟨rfl, hb⟩; have n0_ := Aside0.mk (Kd.R_below (by (with_reducible repeat (first | apply Kd.R_alloc | apply Kd.R_drewN | apply Kd.R_drew)); exact HO115.out) hb); have n1_ := Aside0.mk (below_step (by repeat (first | (with_reducible first | exact HB.out | apply below_alloc | apply pw_below_drewN | apply below_drew1) | exact HB.out)) hb); clear HO115; clear HB; have HO115 := n0_; have HB := n1_; clear n0_ n1_; (try clear hb); (try clear hb2); (try clear hk); (try clear hi)) | (go_at_call 25; (with_reducible refine (saltusref16_Right.calls _ _ y108 true _ ?side1 ?side2 A12.out).mono ?_); (case side1 => repeat (first | exact (Kd.C_below HR111.out HB.out) | (with_reducible refine Kd.C_alloc ?_ _) | (with_reducible refine Kd.C_drewN ?_ _) | (with_reducible refine Kd.C_drew ?_))); (case side2 => exact HC111.out); rintro e w18 ⟨rfl, hb⟩; have n0_ := Aside0.mk (Kd.R_below (by (with_reducible repeat (first | apply Kd.R_alloc | apply Kd.R_drewN | apply Kd.R_drew)); exact HO115.out) hb); have n1_ := Aside0.mk (below_step (by repeat (first | (with_reducible first | exact HB.out | apply below_alloc | apply pw_below_drewN | apply below_drew1) | exact HB.out)) hb); clear HO115; clear HB; have HO115 := n0_; have HB := n1_; clear n0_ n1_; (try clear hb); (try clear hb2); (try clear hk); (try clear hi))); go_upto_region 6 with (first | (go_at_call 30; (with_reducible refine (label_Row.calls (a0.extract 0 ((ji4) : Int).toNat) _ _ y108 a2 t112 t113 _ ?side1 ?side2 A10.out (Tower.tab_below HT.out (by repeat (first | (with_reducible first | exact HB.out | apply below_alloc | apply pw_below_drewN | apply below_drew1) | exact HB.out)) (Nat.le_refl _))).mono ?_); (case side1 => repeat (first | exact HR111.out | (with_reducible refine Kd.C_alloc ?_ _) | (with_reducible refine Kd.C_drewN ?_ _) | (with_reducible refine Kd.C_drew ?_))); (case side2 => exact HC111.out); rintro e w16 ⟨v114, rfl, ho0, hb⟩; have n0_ := Aside0.mk (Kd.R_lower ho0 (below_size (by repeat (first | (with_reducible first | exact HB.out | apply below_alloc | apply pw_below_drewN | apply below_drew1) | exact HB.out)))); have n1_ := Aside0.mk (below_step (by repeat (first | (with_reducible first | exact HB.out | apply below_alloc | apply pw_below_drewN | apply below_drew1) | exact HB.out)) hb); clear HB; have HO115 := n0_; have HB := n1_; clear n0_ n1_; (try clear hb); (try clear hb2); (try clear hk); (try clear hi); (try clear ho0)) | (go_at_call 31; (with_reducible refine (label_Root.calls (a0.extract 0 ((ji4) : Int).toNat) _ _ y108 t116 t117 _ ?side1 ?side2 A11.out (Tower.tab_below HT.out (by repeat (first | (with_reducible first | exact HB.out | apply below_alloc | apply pw_below_drewN | apply below_drew1) | exact HB.out)) (Nat.le_refl _))).mono ?_); (case side1 => repeat (first | exact (Kd.C_below HR111.out HB.out) | (with_reducible refine Kd.C_alloc ?_ _) | (with_reducible refine Kd.C_drewN ?_ _) | (with_reducible refine Kd.C_drew ?_))); (case side2 => exact HC111.out); rintro e w17 ⟨rfl, hb⟩; have n0_ := Aside0.mk (Kd.R_below (by (with_reducible repeat (first | apply Kd.R_alloc | apply Kd.R_drewN | apply Kd.R_drew)); exact HO115.out) hb); have n1_ := Aside0.mk (below_step (by repeat (first | (with_reducible first | exact HB.out | apply below_alloc | apply pw_below_drewN | apply below_drew1) | exact HB.out)) hb); clear HO115; clear HB; have HO115 := n0_; have HB := n1_; clear n0_ n1_; (try clear hb); (try clear hb2); (try clear hk); (try clear hi)) | (go_at_call 25; (with_reducible refine (saltusref16_Right.calls _ _ y108 true _ ?side1 ?side2 A12.out).mono ?_); (case side1 => repeat (first | exact (Kd.C_below HR111.out HB.out) | (with_reducible refine Kd.C_alloc ?_ _) | (with_reducible refine Kd.C_drewN ?_ _) | (with_reducible refine Kd.C_drew ?_))); (case side2 => exact HC111.out); rintro e w18 ⟨rfl, hb⟩; have n0_ := Aside0.mk (Kd.R_below (by (with_reducible repeat (first | apply Kd.R_alloc | apply Kd.R_drewN | apply Kd.R_drew)); exact HO115.out) hb); have n1_ := Aside0.mk (below_step (by repeat (first | (with_reducible first | exact HB.out | apply below_alloc | apply pw_below_drewN | apply below_drew1) | exact HB.out)) hb); clear HO115; clear HB; have HO115 := n0_; have HB := n1_; clear n0_ n1_; (try clear hb); (try clear hb2); (try clear hk); (try clear hi))))
      (try simp only [Act.put, List.setIfInBounds_toArray, List.set_cons_zero, List.set_cons_succ])
      go_cut [67] (fun v67 wc => ∃ (kq : Nat) (x67_13 : Bool), v67 = .bool x67_13 ∧ Aside0 (saltuslaw17_LabelRows.j0 kq (a0.extract 0 ((ji4) : Int).toNat) y108 a2 t112 t113 x67_13 = some r) ∧ Aside0 (kq ≤ k) ∧ Aside0 (Kd.R Kd.string 9 wc w.heap.size (fun _ => True) v114 t112) ∧ Aside0 (Below w.heap.size w wc))
      case first =>
       have H := HC14.out
       clear HC14
       by_cases c19 : t117 = 0
       ·rw [if_pos c19] at H
        have c19b0 : (t117 == 0) = true := beq_iff_eq.mpr c19
        have c19b1 : (t117 != 0) = false := bne_eq_false_iff_eq.mpr c19
        clear c19
        (first | rw [c19b0] | (simp only [i64_w, i32_w]; rw [c19b0]) | skip)
        replace H := Option.bind_eq_some_iff.mp H
        obtain ⟨t120, A200, H⟩ := H
        (try dsimp only at H)
        have A20 := Aside0.mk A200
        clear A200
        by_cases c21 : t116.toList = t120.toList
        ·rw [if_pos c21] at H
         have c21b0 : (t116.toList == t120.toList) = true := beq_iff_eq.mpr c21
         have c21b1 : (t116.toList != t120.toList) = false := bne_eq_false_iff_eq.mpr c21
         clear c21
         replace H := Option.bind_eq_some_iff.mp H
         obtain ⟨t121, A220, H⟩ := H
         (try dsimp only at H)
         have A22 := Aside0.mk A220
         clear A220
         have H' := Aside0.mk H
         clear H
         go_wp2_with (first | (go_at_call 33; (with_reducible refine (saltusref17_Root.calls (a0.extract 0 ((ji4) : Int).toNat) _ _ y108 t120 _ ?side1 ?side2 A20.out).mono ?_); (case side1 => repeat (first | exact (Kd.C_below HR111.out HB.out) | (with_reducible refine Kd.C_alloc ?_ _) | (with_reducible refine Kd.C_drewN ?_ _) | (with_reducible refine Kd.C_drew ?_))); (case side2 => exact HC111.out); rintro e w23 ⟨rfl, hb⟩; have n0_ := Aside0.mk (Kd.R_below (by (with_reducible repeat (first | apply Kd.R_alloc | apply Kd.R_drewN | apply Kd.R_drew)); exact HO115.out) hb); have n1_ := Aside0.mk (below_step (by repeat (first | (with_reducible first | exact HB.out | apply below_alloc | apply pw_below_drewN | apply below_drew1) | exact HB.out)) hb); clear HO115; clear HB; have HO115 := n0_; have HB := n1_; clear n0_ n1_; (try clear hb); (try clear hb2); (try clear hk); (try clear hi)) | (go_at_call 32; (with_reducible refine (saltuslaw17_alive.calls  t121 _ A22.out (Tower.tab_below HT.out (by repeat (first | (with_reducible first | exact HB.out | apply below_alloc | apply pw_below_drewN | apply below_drew1) | exact HB.out)) (Nat.le_refl _))).mono ?_); rintro e w24 ⟨rfl, hb⟩; have n0_ := Aside0.mk (Kd.R_below (by (with_reducible repeat (first | apply Kd.R_alloc | apply Kd.R_drewN | apply Kd.R_drew)); exact HO115.out) hb); have n1_ := Aside0.mk (below_step (by repeat (first | (with_reducible first | exact HB.out | apply below_alloc | apply pw_below_drewN | apply below_drew1) | exact HB.out)) hb); clear HO115; clear HB; have HO115 := n0_; have HB := n1_; clear n0_ n1_; (try clear hb); (try clear hb2); (try clear hk); (try clear hi)))
         repeat (go_quiet (first | (go_at_call 33; (with_reducible refine (saltusref17_Root.calls (a0.extract 0 ((ji4) : Int).toNat) _ _ y108 t120 _ ?side1 ?side2 A20.out).mono ?_); (case side1 => repeat (first | exact (Kd.C_below HR111.out HB.out) | (with_reducible refine Kd.C_alloc ?_ _) | (with_reducible refine Kd.C_drewN ?_ _) | (with_reducible refine Kd.C_drew ?_))); (case side2 => exact HC111.out); rintro e w23 ⟨rfl, hb⟩; have n0_ := Aside0.mk (Kd.R_below (by (with_reducible repeat (first | apply Kd.R_alloc | apply Kd.R_drewN | apply Kd.R_drew)); exact HO115.out) hb); have n1_ := Aside0.mk (below_step (by repeat (first | (with_reducible first | exact HB.out | apply below_alloc | apply pw_below_drewN | apply below_drew1) | exact HB.out)) hb); clear HO115; clear HB; have HO115 := n0_; have HB := n1_; clear n0_ n1_; (try clear hb); (try clear hb2); (try clear hk); (try clear hi)) | (go_at_call 32; (with_reducible refine (saltuslaw17_alive.calls  t121 _ A22.out (Tower.tab_below HT.out (by repeat (first | (with_reducible first | exact HB.out | apply below_alloc | apply pw_below_drewN | apply below_drew1) | exact HB.out)) (Nat.le_refl _))).mono ?_); rintro e w24 ⟨rfl, hb⟩; have n0_ := Aside0.mk (Kd.R_below (by (with_reducible repeat (first | apply Kd.R_alloc | apply Kd.R_drewN | apply Kd.R_drew)); exact HO115.out) hb); have n1_ := Aside0.mk (below_step (by repeat (first | (with_reducible first | exact HB.out | apply below_alloc | apply pw_below_drewN | apply below_drew1) | exact HB.out)) hb); clear HO115; clear HB; have HO115 := n0_; have HB := n1_; clear n0_ n1_; (try clear hb); (try clear hb2); (try clear hk); (try clear hi))); try go_wp2_with (first | (go_at_call 33; (with_reducible refine (saltusref17_Root.calls (a0.extract 0 ((ji4) : Int).toNat) _ _ y108 t120 _ ?side1 ?side2 A20.out).mono ?_); (case side1 => repeat (first | exact (Kd.C_below HR111.out HB.out) | (with_reducible refine Kd.C_alloc ?_ _) | (with_reducible refine Kd.C_drewN ?_ _) | (with_reducible refine Kd.C_drew ?_))); (case side2 => exact HC111.out); rintro e w23 ⟨rfl, hb⟩; have n0_ := Aside0.mk (Kd.R_below (by (with_reducible repeat (first | apply Kd.R_alloc | apply Kd.R_drewN | apply Kd.R_drew)); exact HO115.out) hb); have n1_ := Aside0.mk (below_step (by repeat (first | (with_reducible first | exact HB.out | apply below_alloc | apply pw_below_drewN | apply below_drew1) | exact HB.out)) hb); clear HO115; clear HB; have HO115 := n0_; have HB := n1_; clear n0_ n1_; (try clear hb); (try clear hb2); (try clear hk); (try clear hi)) | (go_at_call 32; (with_reducible refine (saltuslaw17_alive.calls  t121 _ A22.out (Tower.tab_below HT.out (by repeat (first | (with_reducible first | exact HB.out | apply below_alloc | apply pw_below_drewN | apply below_drew1) | exact HB.out)) (Nat.le_refl _))).mono ?_); rintro e w24 ⟨rfl, hb⟩; have n0_ := Aside0.mk (Kd.R_below (by (with_reducible repeat (first | apply Kd.R_alloc | apply Kd.R_drewN | apply Kd.R_drew)); exact HO115.out) hb); have n1_ := Aside0.mk (below_step (by repeat (first | (with_reducible first | exact HB.out | apply below_alloc | apply pw_below_drewN | apply below_drew1) | exact HB.out)) hb); clear HO115; clear HB; have HO115 := n0_; have HB := n1_; clear n0_ n1_; (try clear hb); (try clear hb2); (try clear hk); (try clear hi))))
         go_meet
         case rel => exact ⟨_, (!t121), (by first | rfl | (simp; done) | (simp [*]; done)), H', ⟨by first | omega | exact Nat.le_refl _⟩, ⟨by (with_reducible repeat (first | apply Kd.R_alloc | apply Kd.R_drewN | apply Kd.R_drew)); exact HO115.out⟩, ⟨by repeat (first | (with_reducible first | exact HB.out | apply below_alloc | apply pw_below_drewN | apply below_drew1) | exact HB.out)⟩⟩
        ·rw [if_neg c21] at H
         have c21b0 : (t116.toList == t120.toList) = false := beq_eq_false_iff_ne.mpr c21
         have c21b1 : (t116.toList != t120.toList) = true := bne_iff_ne.mpr c21
         have H' := Aside0.mk H
         clear H
         go_wp2_with (first | (go_at_call 33; (with_reducible refine (saltusref17_Root.calls (a0.extract 0 ((ji4) : Int).toNat) _ _ y108 t120 _ ?side1 ?side2 A20.out).mono ?_); (case side1 => repeat (first | exact (Kd.C_below HR111.out HB.out) | (with_reducible refine Kd.C_alloc ?_ _) | (with_reducible refine Kd.C_drewN ?_ _) | (with_reducible refine Kd.C_drew ?_))); (case side2 => exact HC111.out); rintro e w25 ⟨rfl, hb⟩; have n0_ := Aside0.mk (Kd.R_below (by (with_reducible repeat (first | apply Kd.R_alloc | apply Kd.R_drewN | apply Kd.R_drew)); exact HO115.out) hb); have n1_ := Aside0.mk (below_step (by repeat (first | (with_reducible first | exact HB.out | apply below_alloc | apply pw_below_drewN | apply below_drew1) | exact HB.out)) hb); clear HO115; clear HB; have HO115 := n0_; have HB := n1_; clear n0_ n1_; (try clear hb); (try clear hb2); (try clear hk); (try clear hi)))
         repeat (go_quiet (first | (go_at_call 33; (with_reducible refine (saltusref17_Root.calls (a0.extract 0 ((ji4) : Int).toNat) _ _ y108 t120 _ ?side1 ?side2 A20.out).mono ?_); (case side1 => repeat (first | exact (Kd.C_below HR111.out HB.out) | (with_reducible refine Kd.C_alloc ?_ _) | (with_reducible refine Kd.C_drewN ?_ _) | (with_reducible refine Kd.C_drew ?_))); (case side2 => exact HC111.out); rintro e w25 ⟨rfl, hb⟩; have n0_ := Aside0.mk (Kd.R_below (by (with_reducible repeat (first | apply Kd.R_alloc | apply Kd.R_drewN | apply Kd.R_drew)); exact HO115.out) hb); have n1_ := Aside0.mk (below_step (by repeat (first | (with_reducible first | exact HB.out | apply below_alloc | apply pw_below_drewN | apply below_drew1) | exact HB.out)) hb); clear HO115; clear HB; have HO115 := n0_; have HB := n1_; clear n0_ n1_; (try clear hb); (try clear hb2); (try clear hk); (try clear hi))); try go_wp2_with (first | (go_at_call 33; (with_reducible refine (saltusref17_Root.calls (a0.extract 0 ((ji4) : Int).toNat) _ _ y108 t120 _ ?side1 ?side2 A20.out).mono ?_); (case side1 => repeat (first | exact (Kd.C_below HR111.out HB.out) | (with_reducible refine Kd.C_alloc ?_ _) | (with_reducible refine Kd.C_drewN ?_ _) | (with_reducible refine Kd.C_drew ?_))); (case side2 => exact HC111.out); rintro e w25 ⟨rfl, hb⟩; have n0_ := Aside0.mk (Kd.R_below (by (with_reducible repeat (first | apply Kd.R_alloc | apply Kd.R_drewN | apply Kd.R_drew)); exact HO115.out) hb); have n1_ := Aside0.mk (below_step (by repeat (first | (with_reducible first | exact HB.out | apply below_alloc | apply pw_below_drewN | apply below_drew1) | exact HB.out)) hb); clear HO115; clear HB; have HO115 := n0_; have HB := n1_; clear n0_ n1_; (try clear hb); (try clear hb2); (try clear hk); (try clear hi))))
         go_meet
         case rel => exact ⟨_, (true), (by first | rfl | (simp; done) | (simp [*]; done)), H', ⟨by first | omega | exact Nat.le_refl _⟩, ⟨by (with_reducible repeat (first | apply Kd.R_alloc | apply Kd.R_drewN | apply Kd.R_drew)); exact HO115.out⟩, ⟨by repeat (first | (with_reducible first | exact HB.out | apply below_alloc | apply pw_below_drewN | apply below_drew1) | exact HB.out)⟩⟩
       ·rw [if_neg c19] at H
        have c19b0 : (t117 == 0) = false := beq_eq_false_iff_ne.mpr c19
        have c19b1 : (t117 != 0) = true := bne_iff_ne.mpr c19
        (first | rw [c19b0] | (simp only [i64_w, i32_w]; rw [c19b0]) | skip)
        have H' := Aside0.mk H
        clear H
        go_wp2
        repeat (go_quiet (fail); try go_wp2)
        go_meet
        case rel => exact ⟨_, (true), (by first | rfl | (simp; done) | (simp [*]; done)), H', ⟨by first | omega | exact Nat.le_refl _⟩, ⟨by (with_reducible repeat (first | apply Kd.R_alloc | apply Kd.R_drewN | apply Kd.R_drew)); exact HO115.out⟩, ⟨by repeat (first | (with_reducible first | exact HB.out | apply below_alloc | apply pw_below_drewN | apply below_drew1) | exact HB.out)⟩⟩
      case rest =>
       clear HC14
       try clear c1
       try clear q1
       try clear c2
       try clear p2
       try clear c5
       try clear c5b0
       try clear c5b1
       try clear c6
       try clear c6b0
       try clear c6b1
       try clear c8
       try clear c8b0
       try clear c8b1
       try clear c9
       try clear c9b0
       try clear c9b1
       try clear c13
       try clear q15
       try clear c19
       try clear c19b0
       try clear c19b1
       try clear c21
       try clear c21b0
       try clear c21b1
       try clear q15
       obtain ⟨kq, x67_13, rfl, HA, HJ13, HO_7, HB⟩ := hcut
       cases kq with
       | zero => exact absurd HA.out (by simp [saltuslaw17_LabelRows.j0])
       | succ kj13 =>
        have H := HA.out
        clear HA
        simp only [saltuslaw17_LabelRows.j0] at H
        by_cases c26 : x67_13 = true
        ·subst c26
         have H1 : (some false) = some r := by rw [if_pos rfl] at H; exact H
         clear H
         have H := H1
         clear H1
         exact absurd ((Option.some.inj H).trans hr.out) (by decide)
        ·replace c26 := Bool.eq_false_iff.mpr c26
         subst c26
         have H1 : (if a2 < 0 then (saltuslaw17_LabelRows.j1 kj13 (a0.extract 0 ((ji4) : Int).toNat) y108 a2 t112 t113 true) else (saltuslaw17_LabelRows.j1 kj13 (a0.extract 0 ((ji4) : Int).toNat) y108 a2 t112 t113 (decide (a2 > 8)))) = some r := by rw [if_neg (show ¬ (false = true) by decide)] at H; exact H
         clear H
         have H := H1
         clear H1
         have HC27 := Aside0.mk H
         clear H
         go_upto_region 8 with (fail)
         repeat (go_quiet (fail); go_upto_region 8 with (fail))
         go_cut [73] (fun v73 wc => ∃ (kq : Nat) (x73_26 : Bool), v73 = .bool x73_26 ∧ Aside0 (saltuslaw17_LabelRows.j1 kq (a0.extract 0 ((ji4) : Int).toNat) y108 a2 t112 t113 x73_26 = some r) ∧ Aside0 (kq ≤ kj13) ∧ Aside0 (Kd.R Kd.string 9 wc w.heap.size (fun _ => True) v114 t112) ∧ Aside0 (Below w.heap.size w wc))
         case first =>
          have H := HC27.out
          clear HC27
          by_cases c28 : a2 < 0
          ·rw [if_pos c28] at H
           have c28b0 : decide (a2 < 0) = true := decide_eq_true c28
           clear c28
           (first | rw [c28b0] | (simp only [i64_w, i32_w]; rw [c28b0]) | skip)
           have H' := Aside0.mk H
           clear H
           go_wp2
           repeat (go_quiet (fail); try go_wp2)
           go_meet
           case rel => exact ⟨_, (true), (by first | rfl | (simp; done) | (simp [*]; done)), H', ⟨by have := HJ13.out; first | omega | exact Nat.le_refl _⟩, ⟨by (with_reducible repeat (first | apply Kd.R_alloc | apply Kd.R_drewN | apply Kd.R_drew)); exact HO_7.out⟩, ⟨by repeat (first | (with_reducible first | exact HB.out | apply below_alloc | apply pw_below_drewN | apply below_drew1) | exact HB.out)⟩⟩
          ·rw [if_neg c28] at H
           have c28b0 : decide (a2 < 0) = false := decide_eq_false c28
           clear c28
           (first | rw [c28b0] | (simp only [i64_w, i32_w]; rw [c28b0]) | skip)
           have H' := Aside0.mk H
           clear H
           go_wp2
           repeat (go_quiet (fail); try go_wp2)
           go_meet
           case rel => exact ⟨_, (decide (a2 > 8)), (by first | rfl | (simp; done) | (simp [*]; done)), H', ⟨by have := HJ13.out; first | omega | exact Nat.le_refl _⟩, ⟨by (with_reducible repeat (first | apply Kd.R_alloc | apply Kd.R_drewN | apply Kd.R_drew)); exact HO_7.out⟩, ⟨by repeat (first | (with_reducible first | exact HB.out | apply below_alloc | apply pw_below_drewN | apply below_drew1) | exact HB.out)⟩⟩
         case rest =>
          clear HC27
          try clear c1
          try clear q1
          try clear c2
          try clear p2
          try clear c5
          try clear c5b0
          try clear c5b1
          try clear c6
          try clear c6b0
          try clear c6b1
          try clear c8
          try clear c8b0
          try clear c8b1
          try clear c9
          try clear c9b0
          try clear c9b1
          try clear c13
          try clear q15
          try clear c19
          try clear c19b0
          try clear c19b1
          try clear c21
          try clear c21b0
          try clear c21b1
          try clear c26
          try clear c28
          try clear c28b0
          try clear p2
          try clear q1
          try clear q15
          obtain ⟨kq, x73_26, rfl, HA, HJ26, HO_7, HB⟩ := hcut
          cases kq with
          | zero => exact absurd HA.out (by simp [saltuslaw17_LabelRows.j1])
          | succ kj26 =>
           have H := HA.out
           clear HA
           simp only [saltuslaw17_LabelRows.j1] at H
           by_cases c29 : x73_26 = true
           ·subst c29
            have H1 : (if t113 = 2 then (some ((t112.length : Int) == 0)) else (some false)) = some r := by rw [if_pos rfl] at H; exact H
            clear H
            have H := H1
            clear H1
            by_cases c30 : t113 = 2
            ·rw [if_pos c30] at H
             have c30b0 : (t113 == 2) = true := beq_iff_eq.mpr c30
             have c30b1 : (t113 != 2) = false := bne_eq_false_iff_eq.mpr c30
             clear c30
             obtain rfl := Option.some.inj H
             obtain ⟨Ao31, co31, eo31⟩ := Kd.R_slice HO_7.out
             subst eo31
             go_wp2
             repeat (go_quiet (fail); try go_wp2)
             go_ret
             exact ⟨by first | rfl | (simp [errW_none, errW_some] <;> rfl) | (simp only [← hji4, ← hji7]; first | rfl | (simp [errW_none, errW_some] <;> rfl)) | (simp [*, errW_none, errW_some] <;> rfl), by repeat (first | (with_reducible first | exact HB.out | apply below_alloc | apply pw_below_drewN | apply below_drew1) | exact HB.out)⟩
            ·rw [if_neg c30] at H
             have c30b0 : (t113 == 2) = false := beq_eq_false_iff_ne.mpr c30
             have c30b1 : (t113 != 2) = true := bne_iff_ne.mpr c30
             exact absurd ((Option.some.inj H).trans hr.out) (by decide)
           ·replace c29 := Bool.eq_false_iff.mpr c29
            subst c29
            have H1 : (if t113 = 0 then ((saltusref17_Row.f (a0.extract 0 ((ji4) : Int).toNat) y108 a2).bind fun t122 => ((saltusref04_Same.f kj26 t112 t122).bind fun t125 => (some t125))) else (some false)) = some r := by rw [if_neg (show ¬ (false = true) by decide)] at H; exact H
            clear H
            have H := H1
            clear H1
            by_cases c32 : t113 = 0
            ·rw [if_pos c32] at H
             have c32b0 : (t113 == 0) = true := beq_iff_eq.mpr c32
             have c32b1 : (t113 != 0) = false := bne_eq_false_iff_eq.mpr c32
             clear c32
             replace H := Option.bind_eq_some_iff.mp H
             obtain ⟨t122, A330, H⟩ := H
             (try dsimp only at H)
             have A33 := Aside0.mk A330
             clear A330
             replace H := Option.bind_eq_some_iff.mp H
             obtain ⟨t125, A340, H⟩ := H
             (try dsimp only at H)
             have A34 := Aside0.mk A340
             clear A340
             obtain rfl := Option.some.inj H
             go_wp2_with (first | (go_at_call 35; (with_reducible refine (saltusref17_Row.calls (a0.extract 0 ((ji4) : Int).toNat) _ _ y108 a2 t122 _ ?side1 ?side2 A33.out).mono ?_); (case side1 => repeat (first | exact (Kd.C_below HR111.out HB.out) | (with_reducible refine Kd.C_alloc ?_ _) | (with_reducible refine Kd.C_drewN ?_ _) | (with_reducible refine Kd.C_drew ?_))); (case side2 => exact HC111.out); rintro e w35 ⟨v123, rfl, ho0, hb⟩; have n0_ := Aside0.mk (Kd.R_elder' (by (with_reducible repeat (first | apply Kd.R_alloc | apply Kd.R_drewN | apply Kd.R_drew)); exact HO_7.out) (Kd.R_base ho0) hb); have n1_ := Aside0.mk (Kd.R_lower (Kd.R_new' ho0 (Kd.R_lt (by (with_reducible repeat (first | apply Kd.R_alloc | apply Kd.R_drewN | apply Kd.R_drew)); exact HO_7.out))) (below_size (by repeat (first | (with_reducible first | exact HB.out | apply below_alloc | apply pw_below_drewN | apply below_drew1) | exact HB.out)))); have n2_ := Aside0.mk (below_step (by repeat (first | (with_reducible first | exact HB.out | apply below_alloc | apply pw_below_drewN | apply below_drew1) | exact HB.out)) hb); clear HO_7; clear HB; have HO_7 := n0_; have HO124 := n1_; have HB := n2_; clear n0_ n1_ n2_; (try clear hb); (try clear hb2); (try clear hk); (try clear hi); (try clear ho0); obtain ⟨Ao36, co36, eo36⟩ := Kd.R_slice HO_7.out; subst eo36; obtain ⟨Ao37, co37, eo37⟩ := Kd.R_slice HO124.out; subst eo37) | (go_at_call 34; (with_reducible refine (saltusref04_Same.calls kj26 _ _ t112 _ _ t122 t125 _ ?side1 ?side2 ?side3 ?side4 A34.out).mono ?_); (case side1 => repeat (first | exact (Kd.R_reads' HO_7.out).2.2 | (with_reducible refine Kd.C_alloc ?_ _) | (with_reducible refine Kd.C_drewN ?_ _) | (with_reducible refine Kd.C_drew ?_))); (case side2 => exact (Kd.R_reads' HO_7.out).2.1); (case side3 => repeat (first | exact (Kd.R_reads' HO124.out).2.2 | (with_reducible refine Kd.C_alloc ?_ _) | (with_reducible refine Kd.C_drewN ?_ _) | (with_reducible refine Kd.C_drew ?_))); (case side4 => exact (Kd.R_reads' HO124.out).2.1); rintro e w' ⟨rfl, ⟨nd, rfl⟩⟩; (try first | exact ⟨rfl, _, World.drewN_drewN _ _ _⟩ | exact ⟨rfl, _, Eq.trans (World.drewN_drewN _ _ _) (congrArg (World.drewN _) (Nat.add_assoc _ _ _))⟩)))
             repeat (go_quiet (first | (go_at_call 35; (with_reducible refine (saltusref17_Row.calls (a0.extract 0 ((ji4) : Int).toNat) _ _ y108 a2 t122 _ ?side1 ?side2 A33.out).mono ?_); (case side1 => repeat (first | exact (Kd.C_below HR111.out HB.out) | (with_reducible refine Kd.C_alloc ?_ _) | (with_reducible refine Kd.C_drewN ?_ _) | (with_reducible refine Kd.C_drew ?_))); (case side2 => exact HC111.out); rintro e w35 ⟨v123, rfl, ho0, hb⟩; have n0_ := Aside0.mk (Kd.R_elder' (by (with_reducible repeat (first | apply Kd.R_alloc | apply Kd.R_drewN | apply Kd.R_drew)); exact HO_7.out) (Kd.R_base ho0) hb); have n1_ := Aside0.mk (Kd.R_lower (Kd.R_new' ho0 (Kd.R_lt (by (with_reducible repeat (first | apply Kd.R_alloc | apply Kd.R_drewN | apply Kd.R_drew)); exact HO_7.out))) (below_size (by repeat (first | (with_reducible first | exact HB.out | apply below_alloc | apply pw_below_drewN | apply below_drew1) | exact HB.out)))); have n2_ := Aside0.mk (below_step (by repeat (first | (with_reducible first | exact HB.out | apply below_alloc | apply pw_below_drewN | apply below_drew1) | exact HB.out)) hb); clear HO_7; clear HB; have HO_7 := n0_; have HO124 := n1_; have HB := n2_; clear n0_ n1_ n2_; (try clear hb); (try clear hb2); (try clear hk); (try clear hi); (try clear ho0); obtain ⟨Ao36, co36, eo36⟩ := Kd.R_slice HO_7.out; subst eo36; obtain ⟨Ao37, co37, eo37⟩ := Kd.R_slice HO124.out; subst eo37) | (go_at_call 34; (with_reducible refine (saltusref04_Same.calls kj26 _ _ t112 _ _ t122 t125 _ ?side1 ?side2 ?side3 ?side4 A34.out).mono ?_); (case side1 => repeat (first | exact (Kd.R_reads' HO_7.out).2.2 | (with_reducible refine Kd.C_alloc ?_ _) | (with_reducible refine Kd.C_drewN ?_ _) | (with_reducible refine Kd.C_drew ?_))); (case side2 => exact (Kd.R_reads' HO_7.out).2.1); (case side3 => repeat (first | exact (Kd.R_reads' HO124.out).2.2 | (with_reducible refine Kd.C_alloc ?_ _) | (with_reducible refine Kd.C_drewN ?_ _) | (with_reducible refine Kd.C_drew ?_))); (case side4 => exact (Kd.R_reads' HO124.out).2.1); rintro e w' ⟨rfl, ⟨nd, rfl⟩⟩; (try first | exact ⟨rfl, _, World.drewN_drewN _ _ _⟩ | exact ⟨rfl, _, Eq.trans (World.drewN_drewN _ _ _) (congrArg (World.drewN _) (Nat.add_assoc _ _ _))⟩))); try go_wp2_with (first | (go_at_call 35; (with_reducible refine (saltusref17_Row.calls (a0.extract 0 ((ji4) : Int).toNat) _ _ y108 a2 t122 _ ?side1 ?side2 A33.out).mono ?_); (case side1 => repeat (first | exact (Kd.C_below HR111.out HB.out) | (with_reducible refine Kd.C_alloc ?_ _) | (with_reducible refine Kd.C_drewN ?_ _) | (with_reducible refine Kd.C_drew ?_))); (case side2 => exact HC111.out); rintro e w35 ⟨v123, rfl, ho0, hb⟩; have n0_ := Aside0.mk (Kd.R_elder' (by (with_reducible repeat (first | apply Kd.R_alloc | apply Kd.R_drewN | apply Kd.R_drew)); exact HO_7.out) (Kd.R_base ho0) hb); have n1_ := Aside0.mk (Kd.R_lower (Kd.R_new' ho0 (Kd.R_lt (by (with_reducible repeat (first | apply Kd.R_alloc | apply Kd.R_drewN | apply Kd.R_drew)); exact HO_7.out))) (below_size (by repeat (first | (with_reducible first | exact HB.out | apply below_alloc | apply pw_below_drewN | apply below_drew1) | exact HB.out)))); have n2_ := Aside0.mk (below_step (by repeat (first | (with_reducible first | exact HB.out | apply below_alloc | apply pw_below_drewN | apply below_drew1) | exact HB.out)) hb); clear HO_7; clear HB; have HO_7 := n0_; have HO124 := n1_; have HB := n2_; clear n0_ n1_ n2_; (try clear hb); (try clear hb2); (try clear hk); (try clear hi); (try clear ho0); obtain ⟨Ao36, co36, eo36⟩ := Kd.R_slice HO_7.out; subst eo36; obtain ⟨Ao37, co37, eo37⟩ := Kd.R_slice HO124.out; subst eo37) | (go_at_call 34; (with_reducible refine (saltusref04_Same.calls kj26 _ _ t112 _ _ t122 t125 _ ?side1 ?side2 ?side3 ?side4 A34.out).mono ?_); (case side1 => repeat (first | exact (Kd.R_reads' HO_7.out).2.2 | (with_reducible refine Kd.C_alloc ?_ _) | (with_reducible refine Kd.C_drewN ?_ _) | (with_reducible refine Kd.C_drew ?_))); (case side2 => exact (Kd.R_reads' HO_7.out).2.1); (case side3 => repeat (first | exact (Kd.R_reads' HO124.out).2.2 | (with_reducible refine Kd.C_alloc ?_ _) | (with_reducible refine Kd.C_drewN ?_ _) | (with_reducible refine Kd.C_drew ?_))); (case side4 => exact (Kd.R_reads' HO124.out).2.1); rintro e w' ⟨rfl, ⟨nd, rfl⟩⟩; (try first | exact ⟨rfl, _, World.drewN_drewN _ _ _⟩ | exact ⟨rfl, _, Eq.trans (World.drewN_drewN _ _ _) (congrArg (World.drewN _) (Nat.add_assoc _ _ _))⟩))))
             go_ret
             exact ⟨by first | rfl | (simp [errW_none, errW_some] <;> rfl) | (simp only [← hji4, ← hji7]; first | rfl | (simp [errW_none, errW_some] <;> rfl)) | (simp [*, errW_none, errW_some] <;> rfl), by repeat (first | (with_reducible first | exact HB.out | apply below_alloc | apply pw_below_drewN | apply below_drew1) | exact HB.out)⟩
            ·rw [if_neg c32] at H
             have c32b0 : (t113 == 0) = false := beq_eq_false_iff_ne.mpr c32
             have c32b1 : (t113 != 0) = true := bne_iff_ne.mpr c32
             exact absurd ((Option.some.inj H).trans hr.out) (by decide)
     ·replace c13 := Bool.eq_false_iff.mpr c13
      subst c13
      have H1 : ((saltuslaw17_alive.f).bind fun t119 => (if t119 = true then (if t113 = 1 then (if t117 = 1 then (if (t112.length : Int) = 0 then (some (t116.toList == ([] : List UInt8))) else (some false)) else (some false)) else (some false)) else (some false))) = some r := by rw [if_neg (show ¬ (false = true) by decide)] at H; exact H
      clear H
      have H := H1
      clear H1
      replace H := Option.bind_eq_some_iff.mp H
      obtain ⟨t119, A380, H⟩ := H
      (try dsimp only at H)
      have A38 := Aside0.mk A380
      clear A380
      by_cases c39 : t119 = true
      ·subst c39
       have H1 : (if t113 = 1 then (if t117 = 1 then (if (t112.length : Int) = 0 then (some (t116.toList == ([] : List UInt8))) else (some false)) else (some false)) else (some false)) = some r := by rw [if_pos rfl] at H; exact H
       clear H
       have H := H1
       clear H1
       by_cases c40 : t113 = 1
       ·rw [if_pos c40] at H
        have c40b0 : (t113 == 1) = true := beq_iff_eq.mpr c40
        have c40b1 : (t113 != 1) = false := bne_eq_false_iff_eq.mpr c40
        clear c40
        by_cases c41 : t117 = 1
        ·rw [if_pos c41] at H
         have c41b0 : (t117 == 1) = true := beq_iff_eq.mpr c41
         have c41b1 : (t117 != 1) = false := bne_eq_false_iff_eq.mpr c41
         clear c41
         by_cases c42 : (t112.length : Int) = 0
         ·rw [if_pos c42] at H
          have c42b0 : ((t112.length : Int) == 0) = true := beq_iff_eq.mpr c42
          have c42b1 : ((t112.length : Int) != 0) = false := bne_eq_false_iff_eq.mpr c42
          clear c42
          obtain rfl := Option.some.inj H
          have q43 : ((ji7) : Int) ≤ ((l1.length : Int) : Int) := of_decide_eq_true (by first | (with_reducible assumption) | assumption)
          obtain ⟨i043, hi043, _, hsz43, _⟩ := info_parts info46
          have hroom43 : l1.length ≤ c1 := HC1.out
          have hC43 : Kd.C k46 _ A1 l1.length l1 := HR1.out
          have hcut43 := cut_to (P := Tryd.prog) 36 46 .i64 Tryd.underlying36 hi043 A1 l1.length c1 (ji7) (of_decide_eq_true (by first | (with_reducible assumption) | assumption)) q43 hroom43
          have hr43 := Kd.C_take (m := ((ji7) : Int).toNat) hC43 (by omega)
          have hy43 : y108.length = ((ji7) : Int).toNat := (by rw [Ny108.out, List.length_take]; omega)
          rw [← Ny108.out] at hr43
          rw [← hy43] at hcut43
          have HR111 := Aside0.mk hr43
          have HC111 := Aside0.mk (show y108.length ≤ c1 from by omega)
          clear hr43 hC43 hroom43 hi043 hsz43
          have KY43 := Aside0.mk hy43
          clear hy43
          replace q43 := eq_true q43
          go_enter Tryd.func8, Tryd.ntmps8
          go_wp2_with (first | (go_at_call 30; (with_reducible refine (label_Row.calls (a0.extract 0 ((ji4) : Int).toNat) _ _ y108 a2 t112 t113 _ ?side1 ?side2 A10.out (Tower.tab_below HT.out (by repeat (first | (with_reducible first | exact HB.out | apply below_alloc | apply pw_below_drewN | apply below_drew1) | exact HB.out)) (Nat.le_refl _))).mono ?_); (case side1 => repeat (first | exact HR111.out | (with_reducible refine Kd.C_alloc ?_ _) | (with_reducible refine Kd.C_drewN ?_ _) | (with_reducible refine Kd.C_drew ?_))); (case side2 => exact HC111.out); rintro e w44 ⟨v114, rfl, ho0, hb⟩; have n0_ := Aside0.mk (Kd.R_lower ho0 (below_size (by repeat (first | (with_reducible first | exact HB.out | apply below_alloc | apply pw_below_drewN | apply below_drew1) | exact HB.out)))); have n1_ := Aside0.mk (below_step (by repeat (first | (with_reducible first | exact HB.out | apply below_alloc | apply pw_below_drewN | apply below_drew1) | exact HB.out)) hb); clear HB; have HO115 := n0_; have HB := n1_; clear n0_ n1_; (try clear hb); (try clear hb2); (try clear hk); (try clear hi); (try clear ho0)) | (go_at_call 31; (with_reducible refine (label_Root.calls (a0.extract 0 ((ji4) : Int).toNat) _ _ y108 t116 t117 _ ?side1 ?side2 A11.out (Tower.tab_below HT.out (by repeat (first | (with_reducible first | exact HB.out | apply below_alloc | apply pw_below_drewN | apply below_drew1) | exact HB.out)) (Nat.le_refl _))).mono ?_); (case side1 => repeat (first | exact (Kd.C_below HR111.out HB.out) | (with_reducible refine Kd.C_alloc ?_ _) | (with_reducible refine Kd.C_drewN ?_ _) | (with_reducible refine Kd.C_drew ?_))); (case side2 => exact HC111.out); rintro e w45 ⟨rfl, hb⟩; have n0_ := Aside0.mk (Kd.R_below (by (with_reducible repeat (first | apply Kd.R_alloc | apply Kd.R_drewN | apply Kd.R_drew)); exact HO115.out) hb); have n1_ := Aside0.mk (below_step (by repeat (first | (with_reducible first | exact HB.out | apply below_alloc | apply pw_below_drewN | apply below_drew1) | exact HB.out)) hb); clear HO115; clear HB; have HO115 := n0_; have HB := n1_; clear n0_ n1_; (try clear hb); (try clear hb2); (try clear hk); (try clear hi)) | (go_at_call 25; (with_reducible refine (saltusref16_Right.calls _ _ y108 false _ ?side1 ?side2 A12.out).mono ?_); (case side1 => repeat (first | exact (Kd.C_below HR111.out HB.out) | (with_reducible refine Kd.C_alloc ?_ _) | (with_reducible refine Kd.C_drewN ?_ _) | (with_reducible refine Kd.C_drew ?_))); (case side2 => exact HC111.out); rintro e w46 ⟨rfl, hb⟩; have n0_ := Aside0.mk (Kd.R_below (by (with_reducible repeat (first | apply Kd.R_alloc | apply Kd.R_drewN | apply Kd.R_drew)); exact HO115.out) hb); have n1_ := Aside0.mk (below_step (by repeat (first | (with_reducible first | exact HB.out | apply below_alloc | apply pw_below_drewN | apply below_drew1) | exact HB.out)) hb); clear HO115; clear HB; have HO115 := n0_; have HB := n1_; clear n0_ n1_; (try clear hb); (try clear hb2); (try clear hk); (try clear hi)) | (go_at_call 32; (with_reducible refine (saltuslaw17_alive.calls  true _ A38.out (Tower.tab_below HT.out (by repeat (first | (with_reducible first | exact HB.out | apply below_alloc | apply pw_below_drewN | apply below_drew1) | exact HB.out)) (Nat.le_refl _))).mono ?_); rintro e w47 ⟨rfl, hb⟩; have n0_ := Aside0.mk (Kd.R_below (by (with_reducible repeat (first | apply Kd.R_alloc | apply Kd.R_drewN | apply Kd.R_drew)); exact HO115.out) hb); have n1_ := Aside0.mk (below_step (by repeat (first | (with_reducible first | exact HB.out | apply below_alloc | apply pw_below_drewN | apply below_drew1) | exact HB.out)) hb); clear HO115; clear HB; have HO115 := n0_; have HB := n1_; clear n0_ n1_; (try clear hb); (try clear hb2); (try clear hk); (try clear hi); obtain ⟨Ao48, co48, eo48⟩ := Kd.R_slice HO115.out; subst eo48))
          repeat (go_quiet (first | (go_at_call 30; (with_reducible refine (label_Row.calls (a0.extract 0 ((ji4) : Int).toNat) _ _ y108 a2 t112 t113 _ ?side1 ?side2 A10.out (Tower.tab_below HT.out (by repeat (first | (with_reducible first | exact HB.out | apply below_alloc | apply pw_below_drewN | apply below_drew1) | exact HB.out)) (Nat.le_refl _))).mono ?_); (case side1 => repeat (first | exact HR111.out | (with_reducible refine Kd.C_alloc ?_ _) | (with_reducible refine Kd.C_drewN ?_ _) | (with_reducible refine Kd.C_drew ?_))); (case side2 => exact HC111.out); rintro e w44 ⟨v114, rfl, ho0, hb⟩; have n0_ := Aside0.mk (Kd.R_lower ho0 (below_size (by repeat (first | (with_reducible first | exact HB.out | apply below_alloc | apply pw_below_drewN | apply below_drew1) | exact HB.out)))); have n1_ := Aside0.mk (below_step (by repeat (first | (with_reducible first | exact HB.out | apply below_alloc | apply pw_below_drewN | apply below_drew1) | exact HB.out)) hb); clear HB; have HO115 := n0_; have HB := n1_; clear n0_ n1_; (try clear hb); (try clear hb2); (try clear hk); (try clear hi); (try clear ho0)) | (go_at_call 31; (with_reducible refine (label_Root.calls (a0.extract 0 ((ji4) : Int).toNat) _ _ y108 t116 t117 _ ?side1 ?side2 A11.out (Tower.tab_below HT.out (by repeat (first | (with_reducible first | exact HB.out | apply below_alloc | apply pw_below_drewN | apply below_drew1) | exact HB.out)) (Nat.le_refl _))).mono ?_); (case side1 => repeat (first | exact (Kd.C_below HR111.out HB.out) | (with_reducible refine Kd.C_alloc ?_ _) | (with_reducible refine Kd.C_drewN ?_ _) | (with_reducible refine Kd.C_drew ?_))); (case side2 => exact HC111.out); rintro e w45 ⟨rfl, hb⟩; have n0_ := Aside0.mk (Kd.R_below (by (with_reducible repeat (first | apply Kd.R_alloc | apply Kd.R_drewN | apply Kd.R_drew)); exact HO115.out) hb); have n1_ := Aside0.mk (below_step (by repeat (first | (with_reducible first | exact HB.out | apply below_alloc | apply pw_below_drewN | apply below_drew1) | exact HB.out)) hb); clear HO115; clear HB; have HO115 := n0_; have HB := n1_; clear n0_ n1_; (try clear hb); (try clear hb2); (try clear hk); (try clear hi)) | (go_at_call 25; (with_reducible refine (saltusref16_Right.calls _ _ y108 false _ ?side1 ?side2 A12.out).mono ?_); (case side1 => repeat (first | exact (Kd.C_below HR111.out HB.out) | (with_reducible refine Kd.C_alloc ?_ _) | (with_reducible refine Kd.C_drewN ?_ _) | (with_reducible refine Kd.C_drew ?_))); (case side2 => exact HC111.out); rintro e w46 ⟨rfl, hb⟩; have n0_ := Aside0.mk (Kd.R_below (by (with_reducible repeat (first | apply Kd.R_alloc | apply Kd.R_drewN | apply Kd.R_drew)); exact HO115.out) hb); have n1_ := Aside0.mk (below_step (by repeat (first | (with_reducible first | exact HB.out | apply below_alloc | apply pw_below_drewN | apply below_drew1) | exact HB.out)) hb); clear HO115; clear HB; have HO115 := n0_; have HB := n1_; clear n0_ n1_; (try clear hb); (try clear hb2); (try clear hk); (try clear hi)) | (go_at_call 32; (with_reducible refine (saltuslaw17_alive.calls  true _ A38.out (Tower.tab_below HT.out (by repeat (first | (with_reducible first | exact HB.out | apply below_alloc | apply pw_below_drewN | apply below_drew1) | exact HB.out)) (Nat.le_refl _))).mono ?_); rintro e w47 ⟨rfl, hb⟩; have n0_ := Aside0.mk (Kd.R_below (by (with_reducible repeat (first | apply Kd.R_alloc | apply Kd.R_drewN | apply Kd.R_drew)); exact HO115.out) hb); have n1_ := Aside0.mk (below_step (by repeat (first | (with_reducible first | exact HB.out | apply below_alloc | apply pw_below_drewN | apply below_drew1) | exact HB.out)) hb); clear HO115; clear HB; have HO115 := n0_; have HB := n1_; clear n0_ n1_; (try clear hb); (try clear hb2); (try clear hk); (try clear hi); obtain ⟨Ao48, co48, eo48⟩ := Kd.R_slice HO115.out; subst eo48)); try go_wp2_with (first | (go_at_call 30; (with_reducible refine (label_Row.calls (a0.extract 0 ((ji4) : Int).toNat) _ _ y108 a2 t112 t113 _ ?side1 ?side2 A10.out (Tower.tab_below HT.out (by repeat (first | (with_reducible first | exact HB.out | apply below_alloc | apply pw_below_drewN | apply below_drew1) | exact HB.out)) (Nat.le_refl _))).mono ?_); (case side1 => repeat (first | exact HR111.out | (with_reducible refine Kd.C_alloc ?_ _) | (with_reducible refine Kd.C_drewN ?_ _) | (with_reducible refine Kd.C_drew ?_))); (case side2 => exact HC111.out); rintro e w44 ⟨v114, rfl, ho0, hb⟩; have n0_ := Aside0.mk (Kd.R_lower ho0 (below_size (by repeat (first | (with_reducible first | exact HB.out | apply below_alloc | apply pw_below_drewN | apply below_drew1) | exact HB.out)))); have n1_ := Aside0.mk (below_step (by repeat (first | (with_reducible first | exact HB.out | apply below_alloc | apply pw_below_drewN | apply below_drew1) | exact HB.out)) hb); clear HB; have HO115 := n0_; have HB := n1_; clear n0_ n1_; (try clear hb); (try clear hb2); (try clear hk); (try clear hi); (try clear ho0)) | (go_at_call 31; (with_reducible refine (label_Root.calls (a0.extract 0 ((ji4) : Int).toNat) _ _ y108 t116 t117 _ ?side1 ?side2 A11.out (Tower.tab_below HT.out (by repeat (first | (with_reducible first | exact HB.out | apply below_alloc | apply pw_below_drewN | apply below_drew1) | exact HB.out)) (Nat.le_refl _))).mono ?_); (case side1 => repeat (first | exact (Kd.C_below HR111.out HB.out) | (with_reducible refine Kd.C_alloc ?_ _) | (with_reducible refine Kd.C_drewN ?_ _) | (with_reducible refine Kd.C_drew ?_))); (case side2 => exact HC111.out); rintro e w45 ⟨rfl, hb⟩; have n0_ := Aside0.mk (Kd.R_below (by (with_reducible repeat (first | apply Kd.R_alloc | apply Kd.R_drewN | apply Kd.R_drew)); exact HO115.out) hb); have n1_ := Aside0.mk (below_step (by repeat (first | (with_reducible first | exact HB.out | apply below_alloc | apply pw_below_drewN | apply below_drew1) | exact HB.out)) hb); clear HO115; clear HB; have HO115 := n0_; have HB := n1_; clear n0_ n1_; (try clear hb); (try clear hb2); (try clear hk); (try clear hi)) | (go_at_call 25; (with_reducible refine (saltusref16_Right.calls _ _ y108 false _ ?side1 ?side2 A12.out).mono ?_); (case side1 => repeat (first | exact (Kd.C_below HR111.out HB.out) | (with_reducible refine Kd.C_alloc ?_ _) | (with_reducible refine Kd.C_drewN ?_ _) | (with_reducible refine Kd.C_drew ?_))); (case side2 => exact HC111.out); rintro e w46 ⟨rfl, hb⟩; have n0_ := Aside0.mk (Kd.R_below (by (with_reducible repeat (first | apply Kd.R_alloc | apply Kd.R_drewN | apply Kd.R_drew)); exact HO115.out) hb); have n1_ := Aside0.mk (below_step (by repeat (first | (with_reducible first | exact HB.out | apply below_alloc | apply pw_below_drewN | apply below_drew1) | exact HB.out)) hb); clear HO115; clear HB; have HO115 := n0_; have HB := n1_; clear n0_ n1_; (try clear hb); (try clear hb2); (try clear hk); (try clear hi)) | (go_at_call 32; (with_reducible refine (saltuslaw17_alive.calls  true _ A38.out (Tower.tab_below HT.out (by repeat (first | (with_reducible first | exact HB.out | apply below_alloc | apply pw_below_drewN | apply below_drew1) | exact HB.out)) (Nat.le_refl _))).mono ?_); rintro e w47 ⟨rfl, hb⟩; have n0_ := Aside0.mk (Kd.R_below (by (with_reducible repeat (first | apply Kd.R_alloc | apply Kd.R_drewN | apply Kd.R_drew)); exact HO115.out) hb); have n1_ := Aside0.mk (below_step (by repeat (first | (with_reducible first | exact HB.out | apply below_alloc | apply pw_below_drewN | apply below_drew1) | exact HB.out)) hb); clear HO115; clear HB; have HO115 := n0_; have HB := n1_; clear n0_ n1_; (try clear hb); (try clear hb2); (try clear hk); (try clear hi); obtain ⟨Ao48, co48, eo48⟩ := Kd.R_slice HO115.out; subst eo48)))
          go_ret
          exact ⟨by first | rfl | (simp [errW_none, errW_some] <;> rfl) | (simp only [← hji4, ← hji7]; first | rfl | (simp [errW_none, errW_some] <;> rfl)) | (simp [*, errW_none, errW_some] <;> rfl), by repeat (first | (with_reducible first | exact HB.out | apply below_alloc | apply pw_below_drewN | apply below_drew1) | exact HB.out)⟩
         ·rw [if_neg c42] at H
          have c42b0 : ((t112.length : Int) == 0) = false := beq_eq_false_iff_ne.mpr c42
          have c42b1 : ((t112.length : Int) != 0) = true := bne_iff_ne.mpr c42
          have c42b2 : ¬ (t112 = []) := fun h_ => c42 (by rw [h_]; rfl)
          exact absurd ((Option.some.inj H).trans hr.out) (by decide)
        ·rw [if_neg c41] at H
         have c41b0 : (t117 == 1) = false := beq_eq_false_iff_ne.mpr c41
         have c41b1 : (t117 != 1) = true := bne_iff_ne.mpr c41
         exact absurd ((Option.some.inj H).trans hr.out) (by decide)
       ·rw [if_neg c40] at H
        have c40b0 : (t113 == 1) = false := beq_eq_false_iff_ne.mpr c40
        have c40b1 : (t113 != 1) = true := bne_iff_ne.mpr c40
        exact absurd ((Option.some.inj H).trans hr.out) (by decide)
      ·replace c39 := Bool.eq_false_iff.mpr c39
       subst c39
       have H1 : (some false) = some r := by rw [if_neg (show ¬ (false = true) by decide)] at H; exact H
       clear H
       have H := H1
       clear H1
       exact absurd ((Option.some.inj H).trans hr.out) (by decide)
    ·rw [if_neg c9] at H
     exact absurd H (by simp)
   ·rw [if_neg c8] at H
    exact absurd H (by simp)
  ·rw [if_neg c6] at H
   exact absurd H (by simp)
 ·rw [if_neg c5] at H
  exact absurd H (by simp)
/-! ### saltuslaw17_few: function 40 -/
end Go.Proofs.YtolbhliepkcihaaDoor.QLR
end
section
namespace Go.Proofs.YtolbhliepkcihaaDoor.LabLaw
open Go.RowKit Go.Proofs.YtolbhliepkcihaaDoor.QLR Go.Proofs.YtolbhliepkcihaaDoorW.PrintWords Go.Proofs.YtolbhliepkcihaaDoor.Kinds Go.Proofs.YtolbhliepkcihaaDoor.Build Go.Proofs.YtolbhliepkcihaaDoor.Lab Go.Proofs.YtolbhliepkcihaaDoor.Sha Go.Proofs.YtolbhliepkcihaaDoor.Mac Go.Proofs.YtolbhliepkcihaaDoor.Codec Go.Proofs.YtolbhliepkcihaaDoor.Tower Go.Proofs.YtolbhliepkcihaaDoor.SkipOps Go.Proofs.YtolbhliepkcihaaDoor.SkipPure
theorem alive17 : saltuslaw17_alive.f = some true := by
 have e1 : label_Row.f (⟨#[107]⟩ : ByteArray) [] 0 = some ([sumS (ofNats [1])], 0) := by
  unfold label_Row.f
  rw [if_pos (by decide), if_pos (by decide), if_neg (by decide)]
  rfl
 have hz : (rdOf ByteArray.empty [sumS (ofNats [1])] 0).size = 32 := sumS_size _
 unfold saltuslaw17_alive.f
 rw [e1, Option.bind_some]
 show (if (0 : Int) = 0 then (if (1 : Int) = 1 then (if (0 : Int) < 1 then some (((rdOf ByteArray.empty [sumS (ofNats [1])] 0).size : Int) == 32) else none) else some false) else some false) = some true
 rw [if_pos rfl, if_pos rfl, if_pos (by decide), hz]
 rfl
theorem same_l0 (l : List ByteArray) (hn : l.length ≤ 1000000) (d : Nat) : ∀ i, i + d = l.length → Ev (fun k => saltusref04_Same.l0 k l l (l.length : Int) (i : Int)) true := by
 induction d with
 | zero =>
  intro i hi
  refine Ev.step (fun k => ?_) (Ev.now _)
  rw [saltusref04_Same.l0, if_neg (by omega)]
 | succ d ih =>
  intro i hi
  refine Ev.step (fun k => ?_) (ih (i + 1) (by omega))
  rw [saltusref04_Same.l0, if_pos (by omega), if_pos (by omega), if_pos (by omega), if_pos (by omega), if_pos rfl, SkipPure.w_succ i l.length (by omega) (by omega)]
theorem same_refl (l : List ByteArray) (hn : l.length ≤ 1000000) : Ev (fun k => saltusref04_Same.f k l l) true := by
 refine Ev.congr (fun k => ?_) (same_l0 l hn l.length 0 (by omega))
 unfold saltusref04_Same.f
 rw [if_pos rfl]
 rfl
theorem keysB_take (l : List S46) (hw : ∀ y, y ∈ l → 0 ≤ y.f0 ∧ y.f0 ≤ 18446744073709551615 ∧ y.f1.size ≤ 9223372036854775807) (n : Nat) : keysB (l.take n) = true := by
 unfold keysB
 refine List.all_eq_true.2 fun x hx => ?_
 have := hw x (List.mem_of_mem_take hx)
 simp only [Bool.and_eq_true, decide_eq_true_eq]
 omega
theorem labelRows_ev (a0 : ByteArray) (l : List S46) (a2 : Int) (hw : ∀ y, y ∈ l → 0 ≤ y.f0 ∧ y.f0 ≤ 18446744073709551615 ∧ y.f1.size ≤ 9223372036854775807) : Ev (fun k => saltuslaw17_LabelRows.f k a0 l a2) true := by
 have e80 := mn_nat a0.size 80
 have e14 := mn_nat l.length 14
 rw [show ((80 : Nat) : Int) = 80 from rfl] at e80
 rw [show ((14 : Nat) : Int) = 14 from rfl] at e14
 have hkey : (a0.extract 0 (min a0.size 80)).size ≤ 1000000000 := by rw [ByteArray.size_extract]; omega
 have hl : (l.take (min l.length 14)).length ≤ 14 := by rw [List.length_take]; omega
 have hks := keysB_take l hw (min l.length 14)
 have hs1 : min a0.size 80 ≤ a0.size := by omega
 have hs2 : min l.length 14 ≤ l.length := by omega
 generalize hK : a0.extract 0 (min a0.size 80) = K at *
 generalize hL : l.take (min l.length 14) = L at *
 have hdom : domB K L = true := by
  unfold domB
  simp only [Bool.and_eq_true, decide_eq_true_eq]
  exact ⟨⟨hkey, by omega⟩, hks⟩
 have eR : saltusref16_Right.f L = some (rightB L) := if_pos (by omega)
 have eRow : label_Row.f K L a2 = some (if rightB L = true then (if a2 < 0 ∨ 8 < a2 then ([], 2) else (rowL K L a2.toNat, 0)) else ([], 1)) := if_pos hdom
 have eRoot : label_Root.f K L = some (if rightB L = true then (rootL K L, 0) else (⟨#[]⟩, 1)) := if_pos hdom
 have unf : ∀ k, saltuslaw17_LabelRows.f k a0 l a2 = ((label_Row.f K L a2).bind fun bt112 => ((label_Root.f K L).bind fun bt116 => ((saltusref16_Right.f L).bind fun t118 => (if t118 = true then (if bt116.2 = 0 then ((saltusref17_Root.f K L).bind fun t120 => (if bt116.1.toList = t120.toList then ((saltuslaw17_alive.f).bind fun t121 => (saltuslaw17_LabelRows.j0 k K L a2 bt112.1 bt112.2 (!t121))) else (saltuslaw17_LabelRows.j0 k K L a2 bt112.1 bt112.2 true))) else (saltuslaw17_LabelRows.j0 k K L a2 bt112.1 bt112.2 true)) else ((saltuslaw17_alive.f).bind fun t119 => (if t119 = true then (if bt112.2 = 1 then (if bt116.2 = 1 then (if (bt112.1.length : Int) = 0 then (some (bt116.1.toList == ([] : List UInt8))) else (some false)) else (some false)) else (some false)) else (some false))))))) := fun k => by
  unfold saltuslaw17_LabelRows.f
  rw [e80, e14, if_pos (by omega), if_pos (by omega), if_pos (by omega), if_pos (by omega), Int.toNat_natCast, Int.toNat_natCast, hK, hL, Option.bind_some]
 refine Ev.congr (f := fun k => _) (fun k => unf k) ?_
 rw [eRow, eRoot, eR]
 simp only [Option.bind_some]
 cases hb : rightB L with
 | false =>
  simp only [Bool.false_eq_true, if_false, alive17, Option.bind_some, if_true]
  have e : (⟨#[]⟩ : ByteArray).toList = [] := by rw [ByteArray.toList_eq]
  refine Ev.congr (fun k => ?_) (Ev.now _)
  rw [e]
  rfl
 | true =>
  have eRef : saltusref17_Root.f K L = some (rootL K L) := if_pos ⟨hdom, hb⟩
  simp only [if_true, eRef, alive17, Option.bind_some]
  by_cases g : a2 < 0 ∨ 8 < a2
  ·rw [if_pos g]
   have h1 : Ev (fun k => saltuslaw17_LabelRows.j1 k K L a2 [] 2 true) true := Ev.step (fun k => by
    rw [saltuslaw17_LabelRows.j1, if_pos rfl, if_pos rfl]
    rfl) (Ev.now true)
   refine Ev.step (fun k => ?_) h1
   ·rw [saltuslaw17_LabelRows.j0, if_neg (by decide)]
    by_cases g1 : a2 < 0
    ·rw [if_pos g1]
    ·rw [if_neg g1, decide_eq_true (show a2 > 8 by omega)]
  ·rw [if_neg g]
   have eW : saltusref17_Row.f K L a2 = some (rowL K L a2.toNat) := if_pos ⟨hdom, hb, by omega, by omega⟩
   have hrl : (rowL K L a2.toNat).length ≤ 1000000 := by
    have := row_len a2.toNat (ents K L)
    unfold rowL
    unfold ents at this ⊢
    simp only [List.length_cons, List.length_map] at this
    omega
   have h1 : Ev (fun k => saltuslaw17_LabelRows.j1 k K L a2 (rowL K L a2.toNat) 0 false) true := Ev.step (fun k => by
    rw [saltuslaw17_LabelRows.j1, if_neg (by decide), if_pos rfl, eW, Option.bind_some]
    cases saltusref04_Same.f k (rowL K L a2.toNat) (rowL K L a2.toNat) <;> rfl) (same_refl (rowL K L a2.toNat) hrl)
   refine Ev.step (fun k => ?_) h1
   ·rw [saltuslaw17_LabelRows.j0, if_neg (by decide), if_neg (by omega), decide_eq_false (show ¬ a2 > 8 by omega)]
theorem labelRows_row (a0 : ByteArray) (A1 : Option Addr) (c1 : Nat) (l1 : List S46) (a2 : Int) (w : World) (_ : a0.size ≤ 140737488351232) (hr1 : Kd.C k46 w A1 l1.length l1) (hc1 : l1.length ≤ c1)
  (hw : ∀ y, y ∈ l1 → 0 ≤ y.f0 ∧ y.f0 ≤ 18446744073709551615 ∧ y.f1.size ≤ 9223372036854775807) (_ : (Lit.int .i64 a2).wf = true) (hT0 : TabW w) :
  Calls Tryd.prog 8 #[.string a0, .slice A1 l1.length c1, .int .i64 a2] w fun e w' => e = .returned (.bool true) ∧ Below w.heap.size w w' := by
 obtain ⟨K, h⟩ := labelRows_ev a0 l1 a2 hw
 exact saltuslaw17_LabelRows.calls K a0 A1 c1 l1 a2 true w hr1 hc1 ⟨rfl⟩ (h K (Nat.le_refl _)) hT0
end Go.Proofs.YtolbhliepkcihaaDoor.LabLaw
end
