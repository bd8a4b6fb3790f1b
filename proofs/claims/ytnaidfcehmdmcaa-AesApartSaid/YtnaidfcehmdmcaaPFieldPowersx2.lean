-- PRINTED BY print.sh 35421559b90ae4d0a3588c463048766b98c2df88dd9212a6774a882060cdf62d: not written by this session
import Derived.Test.YtnaidfcehmdmcaaPFieldPowersx0
import Derived.Test.YtnaidfcehmdmcaaPFieldPowersx1
namespace Go.Proofs.Ytnaidfcehmdmcaa.PFieldPowers
open Go.RowKit Go.Proofs.YtnaidfcehmdmcaaW.PrintWords Go.Proofs.YtnaidfcehmdmcaaW.PrintLast Go.Proofs.YtnaidfcehmdmcaaW.PrintMore
attribute [local go_sem] max2_int min2_int max_two min_two max_three min_three max_four min_four   -- for this text's walks alone
set_option linter.unusedVariables false
set_option linter.unusedSimpArgs false

/-! ### saltuslaw05_FieldPowers: function 3 -/
def saltuslaw05_FieldPowers.j0 : Nat → Int → Int → Int → Bool → Option (Bool)
  | 0, _, _, _, _ => none
  | k + 1, x0, x1, x5, x13 => if x13 = true then ((saltuslaw05_alive.f k).bind fun t119 => (if t119 = true then ((field_Pow.f k x0 x1).bind fun t120 => ((saltusref05_Pow.f k x0 (wrap64 ((Int.tmod x1 255) + 255))).bind fun t121 => (some (t120 == t121)))) else (some false))) else ((saltuslaw05_alive.f k).bind fun t122 => (if t122 = true then ((field_Pow.f k x0 x1).bind fun t123 => ((saltusref05_Pow.f k x0 x5).bind fun t124 => (some (t123 == t124)))) else (some false)))
def saltuslaw05_FieldPowers.f (k : Nat) (a0 : Int) (a1 : Int) : Option (Bool) := if a0 = 0 then (saltuslaw05_FieldPowers.j0 k a0 a1 (mn a1 600) false) else (saltuslaw05_FieldPowers.j0 k a0 a1 (mn a1 600) (decide (a1 > 600)))
theorem saltuslaw05_FieldPowers.mono_l : ∀ k, (∀ y0 y1 y2 y3, LeO (saltuslaw05_FieldPowers.j0 k y0 y1 y2 y3) (saltuslaw05_FieldPowers.j0 (k + 1) y0 y1 y2 y3))
  | 0 => fun _ _ _ _ r h => by simp [saltuslaw05_FieldPowers.j0] at h
  | k + 1 => by
    have ih0 := saltuslaw05_FieldPowers.mono_l k
    · intro y0 y1 y2 y3
      unfold saltuslaw05_FieldPowers.j0
      repeat' first
      | (with_reducible exact ih0 _ _ _ _)
      | (with_reducible exact field_Pow.mono _ _ _)
      | (with_reducible exact saltuslaw05_alive.mono _)
      | (with_reducible exact saltusref05_Pow.mono _ _ _)
      | (with_reducible exact LeO.refl _)
      | (with_reducible exact LeO.none _)
      | (with_reducible refine LeO.ite ?_ ?_)
      | (with_reducible refine LeO.bind ?_ (fun _ => ?_))
      | exact ih0 _ _ _ _
      | exact field_Pow.mono _ _ _
      | exact saltuslaw05_alive.mono _
      | exact saltusref05_Pow.mono _ _ _
      | exact LeO.none _
      | refine LeO.ite ?_ ?_
      | refine LeO.bind ?_ (fun _ => ?_)
theorem saltuslaw05_FieldPowers.mono : ∀ a0 a1 k, LeO (saltuslaw05_FieldPowers.f k a0 a1) (saltuslaw05_FieldPowers.f (k + 1) a0 a1) := by
  intro a0 a1 k
  have ih0 := saltuslaw05_FieldPowers.mono_l k
  unfold saltuslaw05_FieldPowers.f
  repeat' first
      | (with_reducible exact ih0 _ _ _ _)
      | (with_reducible exact field_Pow.mono _ _ _)
      | (with_reducible exact saltuslaw05_alive.mono _)
      | (with_reducible exact saltusref05_Pow.mono _ _ _)
      | (with_reducible exact LeO.refl _)
      | (with_reducible exact LeO.none _)
      | (with_reducible refine LeO.ite ?_ ?_)
      | (with_reducible refine LeO.bind ?_ (fun _ => ?_))
      | exact ih0 _ _ _ _
      | exact field_Pow.mono _ _ _
      | exact saltuslaw05_alive.mono _
      | exact saltusref05_Pow.mono _ _ _
      | exact LeO.none _
      | refine LeO.ite ?_ ?_
      | refine LeO.bind ?_ (fun _ => ?_)
set_option maxHeartbeats 8000000 in
set_option maxRecDepth 100000 in
theorem saltuslaw05_FieldPowers.calls (k : Nat) (a0 : Int) (a1 : Int) (r : Bool) (w : World) (h : saltuslaw05_FieldPowers.f k a0 a1 = some r) :
    Calls Try.prog 3 #[.int .u8 a0, .int .i64 a1] w fun e w' => e = .returned (.bool r) ∧ Below w.heap.size w w' := by
  have HB := Aside0.mk (Below.refl w.heap.size w)
  have H : (if a0 = 0 then (saltuslaw05_FieldPowers.j0 k a0 a1 (mn a1 600) false) else (saltuslaw05_FieldPowers.j0 k a0 a1 (mn a1 600) (decide (a1 > 600)))) = some r := h
  clear h
  obtain ⟨ji3, hji3⟩ : ∃ j_ : Int, (mn a1 600) = j_ := ⟨_, rfl⟩
  replace H : (if a0 = 0 then (saltuslaw05_FieldPowers.j0 k a0 a1 ji3 false) else (saltuslaw05_FieldPowers.j0 k a0 a1 ji3 (decide (a1 > 600)))) = some r := by first | (rw [hji3] at H; exact H) | (simp only [hji3] at H ⊢; exact H)
  (try (have hji3h : ji3 ≤ 600 := by (rw [← hji3]; unfold mn; (repeat' split) <;> omega)))
  (try (have hji3g : ji3 ≤ 64 := by omega))
  have hji3_ : (if 600 < a1 then 600 else a1) = ji3 := hji3
  have HC4 := Aside0.mk H
  clear H
  go_enter Try.func3, Try.ntmps3
  go_upto_region 2 with (fail)
  go_cut [13] (fun v13 wc => ∃ (kq : Nat) (x13_3 : Bool), v13 = .bool x13_3 ∧ Aside0 (saltuslaw05_FieldPowers.j0 kq a0 a1 ji3 x13_3 = some r) ∧ Aside0 (kq ≤ k) ∧ Aside0 (Below w.heap.size w wc))
  case first =>
    have H := HC4.out
    clear HC4
    by_cases c5 : a0 = 0
    · rw [if_pos c5] at H
      have c5b0 : (a0 == 0) = true := beq_iff_eq.mpr c5
      have c5b1 : (a0 != 0) = false := bne_eq_false_iff_eq.mpr c5
      clear c5
      (first | rw [c5b0] | (simp only [i64_w, i32_w]; rw [c5b0]) | skip)
      have H' := Aside0.mk H
      clear H
      go_wp2
      go_meet
      case rel => exact ⟨_, (false), (by first | rfl | (simp; done) | (simp [*]; done)), H', ⟨by first | omega | exact Nat.le_refl _⟩, ⟨by repeat (first | (with_reducible first | exact HB.out | apply below_alloc | apply pw_below_drewN | apply below_drew1) | exact HB.out)⟩⟩
    · rw [if_neg c5] at H
      have c5b0 : (a0 == 0) = false := beq_eq_false_iff_ne.mpr c5
      have c5b1 : (a0 != 0) = true := bne_iff_ne.mpr c5
      (first | rw [c5b0] | (simp only [i64_w, i32_w]; rw [c5b0]) | skip)
      have H' := Aside0.mk H
      clear H
      go_wp2
      go_meet
      case rel => exact ⟨_, (decide (a1 > 600)), (by first | rfl | (simp; done) | (simp [*]; done)), H', ⟨by first | omega | exact Nat.le_refl _⟩, ⟨by repeat (first | (with_reducible first | exact HB.out | apply below_alloc | apply pw_below_drewN | apply below_drew1) | exact HB.out)⟩⟩
  case rest =>
    clear HC4
    try clear p2
    try clear c3
    try clear c5
    try clear c5b0
    try clear c5b1
    obtain ⟨kq, x13_3, rfl, HA, HJ3, HB⟩ := hcut
    cases kq with
    | zero => exact absurd HA.out (by simp [saltuslaw05_FieldPowers.j0])
    | succ kj3 =>
      have H := HA.out
      clear HA
      simp only [saltuslaw05_FieldPowers.j0] at H
      by_cases c6 : x13_3 = true
      · subst c6
        have H1 : ((saltuslaw05_alive.f kj3).bind fun t119 => (if t119 = true then ((field_Pow.f kj3 a0 a1).bind fun t120 => ((saltusref05_Pow.f kj3 a0 (wrap64 ((Int.tmod a1 255) + 255))).bind fun t121 => (some (t120 == t121)))) else (some false))) = some r := by rw [if_pos rfl] at H; exact H
        clear H
        have H := H1
        clear H1
        replace H := Option.bind_eq_some_iff.mp H
        obtain ⟨t119, A70, H⟩ := H
        replace H : (if t119 = true then ((field_Pow.f kj3 a0 a1).bind fun t120 => ((saltusref05_Pow.f kj3 a0 (wrap64 ((Int.tmod a1 255) + 255))).bind fun t121 => (some (t120 == t121)))) else (some false)) = some r := H
        have A7 := Aside0.mk A70
        clear A70
        by_cases c8 : t119 = true
        · subst c8
          have H1 : ((field_Pow.f kj3 a0 a1).bind fun t120 => ((saltusref05_Pow.f kj3 a0 (wrap64 ((Int.tmod a1 255) + 255))).bind fun t121 => (some (t120 == t121)))) = some r := by rw [if_pos rfl] at H; exact H
          clear H
          have H := H1
          clear H1
          replace H := Option.bind_eq_some_iff.mp H
          obtain ⟨t120, A90, H⟩ := H
          replace H : ((saltusref05_Pow.f kj3 a0 (wrap64 ((Int.tmod a1 255) + 255))).bind fun t121 => (some (t120 == t121))) = some r := H
          have A9 := Aside0.mk A90
          clear A90
          replace H := Option.bind_eq_some_iff.mp H
          obtain ⟨t121, A100, H⟩ := H
          replace H : (some (t120 == t121)) = some r := H
          have A10 := Aside0.mk A100
          clear A100
          obtain rfl := Option.some.inj H
          go_wp2_with (first | ((with_reducible refine gate_callee (f := 13) rfl ?_); refine goesL_ (some 17) rfl rfl Try.func13 (by kernel_rfl) rfl #[] rfl (by (try simp only [List.map_toArray, List.map_cons, List.map_nil]); first | done | rfl | (simp only [List.length_drop, List.length_take]; rfl)) ?_; (with_reducible refine (saltuslaw05_alive.calls kj3  true _ A7.out).mono ?_); rintro e w' ⟨rfl, ⟨nd, rfl⟩⟩; refine ⟨_, rfl, ?_⟩) | (go_at_call 14; (with_reducible refine (field_Pow.calls kj3 a0 a1 t120 _ A9.out).mono ?_); rintro e w' ⟨rfl, ⟨nd, rfl⟩⟩) | (go_at_call 15; (with_reducible refine (saltusref05_Pow.calls kj3 a0 (wrap64 ((Int.tmod a1 255) + 255)) t121 _ A10.out).mono ?_); rintro e w' ⟨rfl, ⟨nd, rfl⟩⟩))
          go_ret
          exact ⟨by first | rfl | (simp [errW_none, errW_some] <;> rfl) | (simp only [← hji3]; first | rfl | (simp [errW_none, errW_some] <;> rfl)) | (simp [*, errW_none, errW_some] <;> rfl), by repeat (first | (with_reducible first | exact HB.out | apply below_alloc | apply pw_below_drewN | apply below_drew1) | exact HB.out)⟩
        · replace c8 := Bool.eq_false_iff.mpr c8
          subst c8
          have H1 : (some false) = some r := by rw [if_neg (show ¬ (false = true) by decide)] at H; exact H
          clear H
          have H := H1
          clear H1
          obtain rfl := Option.some.inj H
          go_wp2_with (first | ((with_reducible refine gate_callee (f := 13) rfl ?_); refine goesL_ (some 17) rfl rfl Try.func13 (by kernel_rfl) rfl #[] rfl (by (try simp only [List.map_toArray, List.map_cons, List.map_nil]); first | done | rfl | (simp only [List.length_drop, List.length_take]; rfl)) ?_; (with_reducible refine (saltuslaw05_alive.calls kj3  false _ A7.out).mono ?_); rintro e w' ⟨rfl, ⟨nd, rfl⟩⟩; refine ⟨_, rfl, ?_⟩))
          go_ret
          exact ⟨by first | rfl | (simp [errW_none, errW_some] <;> rfl) | (simp only [← hji3]; first | rfl | (simp [errW_none, errW_some] <;> rfl)) | (simp [*, errW_none, errW_some] <;> rfl), by repeat (first | (with_reducible first | exact HB.out | apply below_alloc | apply pw_below_drewN | apply below_drew1) | exact HB.out)⟩
      · replace c6 := Bool.eq_false_iff.mpr c6
        subst c6
        have H1 : ((saltuslaw05_alive.f kj3).bind fun t122 => (if t122 = true then ((field_Pow.f kj3 a0 a1).bind fun t123 => ((saltusref05_Pow.f kj3 a0 ji3).bind fun t124 => (some (t123 == t124)))) else (some false))) = some r := by rw [if_neg (show ¬ (false = true) by decide)] at H; exact H
        clear H
        have H := H1
        clear H1
        replace H := Option.bind_eq_some_iff.mp H
        obtain ⟨t122, A110, H⟩ := H
        replace H : (if t122 = true then ((field_Pow.f kj3 a0 a1).bind fun t123 => ((saltusref05_Pow.f kj3 a0 ji3).bind fun t124 => (some (t123 == t124)))) else (some false)) = some r := H
        have A11 := Aside0.mk A110
        clear A110
        by_cases c12 : t122 = true
        · subst c12
          have H1 : ((field_Pow.f kj3 a0 a1).bind fun t123 => ((saltusref05_Pow.f kj3 a0 ji3).bind fun t124 => (some (t123 == t124)))) = some r := by rw [if_pos rfl] at H; exact H
          clear H
          have H := H1
          clear H1
          replace H := Option.bind_eq_some_iff.mp H
          obtain ⟨t123, A130, H⟩ := H
          replace H : ((saltusref05_Pow.f kj3 a0 ji3).bind fun t124 => (some (t123 == t124))) = some r := H
          have A13 := Aside0.mk A130
          clear A130
          replace H := Option.bind_eq_some_iff.mp H
          obtain ⟨t124, A140, H⟩ := H
          replace H : (some (t123 == t124)) = some r := H
          have A14 := Aside0.mk A140
          clear A140
          obtain rfl := Option.some.inj H
          go_wp2_with (first | ((with_reducible refine gate_callee (f := 13) rfl ?_); refine goesL_ (some 17) rfl rfl Try.func13 (by kernel_rfl) rfl #[] rfl (by (try simp only [List.map_toArray, List.map_cons, List.map_nil]); first | done | rfl | (simp only [List.length_drop, List.length_take]; rfl)) ?_; (with_reducible refine (saltuslaw05_alive.calls kj3  true _ A11.out).mono ?_); rintro e w' ⟨rfl, ⟨nd, rfl⟩⟩; refine ⟨_, rfl, ?_⟩) | (go_at_call 14; (with_reducible refine (field_Pow.calls kj3 a0 a1 t123 _ A13.out).mono ?_); rintro e w' ⟨rfl, ⟨nd, rfl⟩⟩) | (go_at_call 15; (with_reducible refine (saltusref05_Pow.calls kj3 a0 ji3 t124 _ A14.out).mono ?_); rintro e w' ⟨rfl, ⟨nd, rfl⟩⟩))
          go_ret
          exact ⟨by first | rfl | (simp [errW_none, errW_some] <;> rfl) | (simp only [← hji3]; first | rfl | (simp [errW_none, errW_some] <;> rfl)) | (simp [*, errW_none, errW_some] <;> rfl), by repeat (first | (with_reducible first | exact HB.out | apply below_alloc | apply pw_below_drewN | apply below_drew1) | exact HB.out)⟩
        · replace c12 := Bool.eq_false_iff.mpr c12
          subst c12
          have H1 : (some false) = some r := by rw [if_neg (show ¬ (false = true) by decide)] at H; exact H
          clear H
          have H := H1
          clear H1
          obtain rfl := Option.some.inj H
          go_wp2_with (first | ((with_reducible refine gate_callee (f := 13) rfl ?_); refine goesL_ (some 17) rfl rfl Try.func13 (by kernel_rfl) rfl #[] rfl (by (try simp only [List.map_toArray, List.map_cons, List.map_nil]); first | done | rfl | (simp only [List.length_drop, List.length_take]; rfl)) ?_; (with_reducible refine (saltuslaw05_alive.calls kj3  false _ A11.out).mono ?_); rintro e w' ⟨rfl, ⟨nd, rfl⟩⟩; refine ⟨_, rfl, ?_⟩))
          go_ret
          exact ⟨by first | rfl | (simp [errW_none, errW_some] <;> rfl) | (simp only [← hji3]; first | rfl | (simp [errW_none, errW_some] <;> rfl)) | (simp [*, errW_none, errW_some] <;> rfl), by repeat (first | (with_reducible first | exact HB.out | apply below_alloc | apply pw_below_drewN | apply below_drew1) | exact HB.out)⟩

/-- THE ONE PURE STATEMENT of saltuslaw05_FieldPowers: yours. -/
def saltuslaw05_FieldPowers.Pure : Prop := ∀ (a0 : Int) (a1 : Int), (Lit.int .u8 a0).wf = true → (Lit.int .i64 a1).wf = true → ∃ k, saltuslaw05_FieldPowers.f k a0 a1 = some true
theorem saltuslaw05_FieldPowers.walk (P : saltuslaw05_FieldPowers.Pure) (a0 : Int) (a1 : Int) (w : World) (w0 : (Lit.int .u8 a0).wf = true) (w1 : (Lit.int .i64 a1).wf = true) :
    Calls Try.prog 3 #[.int .u8 a0, .int .i64 a1] w fun e w' => e = .returned (.bool true) ∧ Below w.heap.size w w' := by
  obtain ⟨k, h⟩ := P a0 a1 w0 w1
  refine (saltuslaw05_FieldPowers.calls k a0 a1 true w h).mono ?_
  rintro e w' ⟨rfl, hd⟩
  exact ⟨rfl, hd⟩

end Go.Proofs.Ytnaidfcehmdmcaa.PFieldPowers
