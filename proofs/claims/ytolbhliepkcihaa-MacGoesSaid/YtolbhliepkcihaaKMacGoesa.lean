/- Joined by a program of this session (wip/pack.py) for this claim: QMOx0, QMOx1, QMCx0, QMCx1, StrRow, PureMacChains, PureMacGoes. -/
import Derived.Test.YtolbhliepkcihaaProg
import Derived.Below
import Derived.Deep.Draws
import Derived.Deep.AppendLies
import Derived.Maps.AppendAt
import Derived.OwnWalk
import Derived.Laws.BytesArg
import Derived.Laws.MakeOwn
import Derived.Laws.OwnMore
import Derived.Deep.OwnRows
import Derived.Tactics
import Derived.Lib.ConvBytes
import Derived.Laws.Slices
import Derived.WalkKit
import Derived.KernelRfl
import Derived.RowKit3
import Derived.Deep.LoopGhost
import Derived.Deep.QuietTactic
import Derived.BigQuiet
import Derived.WideLaws
import Derived.Deep.DeepCutAuto
import Derived.Deep.CutBlock
import Derived.Deep.RegionHeld3
import Derived.Laws.Rows
import Derived.Lib.AppendStr
import Derived.ArgAppend
import Derived.Laws.IdiomCopy
import Derived.OrdersHeld
import Derived.Laws.BitsLemmas
import Derived.RowKit
import Derived.Test.YtolbhliepkcihaaBaseD
import Derived.Test.YtolbhliepkcihaaWWords
import Derived.Test.YtolbhliepkcihaaWLast
import Derived.Test.YtolbhliepkcihaaWTab
import Derived.Test.YtolbhliepkcihaaWFour
import Derived.Test.YtolbhliepkcihaaWQPut
import Derived.Test.YtolbhliepkcihaaWApart
import Derived.Test.YtolbhliepkcihaaWArr
import Derived.Test.YtolbhliepkcihaaWZeros
import Derived.Test.YtolbhliepkcihaaWFoot
import Derived.Test.YtolbhliepkcihaaWKept
import Derived.Test.YtolbhliepkcihaaWShare
import Derived.Test.YtolbhliepkcihaaWN
import Derived.Test.YtolbhliepkcihaaWFootNe
import Derived.Test.YtolbhliepkcihaaWAt
import Derived.Test.YtolbhliepkcihaaWEqStruct
import Derived.Test.YtolbhliepkcihaaWRepsOne
import Derived.Test.YtolbhliepkcihaaWInv
import Derived.Test.YtolbhliepkcihaaWInvWords
import Derived.Test.YtolbhliepkcihaaWGuard
import Derived.Test.YtolbhliepkcihaaWNEv
import Derived.Test.YtolbhliepkcihaaWMore
import Derived.ProofKit
import Derived.SliceStrings
section
namespace Go.Proofs.Ytolbhliepkcihaa.QMO
open Go.RowKit Go.Proofs.YtolbhliepkcihaaW.PrintWords Go.Proofs.YtolbhliepkcihaaW.PrintLast Go.Proofs.YtolbhliepkcihaaW.PrintMore
attribute [local go_sem] max2_int min2_int max_two min_two max_three min_three max_four min_four   -- for this text's walks alone
set_option linter.unusedVariables false
set_option linter.unusedSimpArgs false
def errW : Option Int → Value
 | none => .nilIface
 | some c => .iface 0 (.int .i64 c)
theorem errW_none : errW none = .nilIface := rfl
theorem errW_some (c : Int) : errW (some c) = .iface 0 (.int .i64 c) := rfl
theorem info9 : (Try.prog.info? 9).map (fun i => (i.zero, i.size, i.bytes)) = some (some (.string ⟨#[]⟩), 1, 16) := by kernel_rfl
-- the values' own types
end Go.Proofs.Ytolbhliepkcihaa.QMO
end
section
namespace Go.Proofs.Ytolbhliepkcihaa.QMO
open Go.RowKit Go.Proofs.YtolbhliepkcihaaW.PrintWords Go.Proofs.YtolbhliepkcihaaW.PrintLast Go.Proofs.YtolbhliepkcihaaW.PrintMore
attribute [local go_sem] max2_int min2_int max_two min_two max_three min_three max_four min_four   -- for this text's walks alone
set_option linter.unusedVariables false
set_option linter.unusedSimpArgs false
/-! ### saltuslaw04_MacGoes: function 11 -/
mutual
def saltuslaw04_MacGoes.j0 : Nat → ByteArray → ByteArray → List ByteArray → Int → List ByteArray → Bool → Option (Bool)
 | 0, _, _, _, _, _, _ => none
 | k + 1, x0, x1, x2, x3, x9, x45 => if x45 = true then (some false) else (saltuslaw04_MacGoes.l0 k x0 x1 x2 x3 x9 x1 x2 (x2.length : Int) 0)
def saltuslaw04_MacGoes.l0 : Nat → ByteArray → ByteArray → List ByteArray → Int → List ByteArray → ByteArray → List ByteArray → Int → Int → Option (Bool)
 | 0, _, _, _, _, _, _, _, _, _ => none
 | k + 1, x0, x1, x2, x3, x9, x10, x47, x48, x49 => if x49 < x48 then (if 0 ≤ x49 then (if x49 < (x47.length : Int) then (if x10.size + (rdOf ByteArray.empty x47 x49).size ≤ 9223372036854775807 then (if x49 < (x9.length : Int) then ((mac_Check.f x0 (x10 ++ (rdOf ByteArray.empty x47 x49)) (rdOf ByteArray.empty x9 x49)).bind fun t112 => (if t112 = true then (saltuslaw04_MacGoes.l0 k x0 x1 x2 x3 x9 (rdOf ByteArray.empty x9 x49) x47 x48 (wrap64 (x49 + 1))) else (some false))) else (none)) else (none)) else (none)) else (none)) else (if x3 > 0 then (if 0 ≤ (wrap64 (x3 - 1)) then (if (wrap64 (x3 - 1)) < (x9.length : Int) then (if 0 ≤ x3 then (if x3 ≤ (x2.length : Int) then ((mac_Chain.f x0 (rdOf ByteArray.empty x9 (wrap64 (x3 - 1))) (x2.drop (x3 : Int).toNat)).bind fun t119 => (if x3 ≤ (x9.length : Int) then ((saltusref04_Same.f t119 (x9.drop (x3 : Int).toNat)).bind fun t126 => (some t126)) else (none))) else (none)) else (none)) else (none)) else (none)) else (if 0 ≤ x3 then (if x3 ≤ (x2.length : Int) then ((mac_Chain.f x0 x1 (x2.drop (x3 : Int).toNat)).bind fun t131 => (if x3 ≤ (x9.length : Int) then ((saltusref04_Same.f t131 (x9.drop (x3 : Int).toNat)).bind fun t138 => (some t138)) else (none))) else (none)) else (none)))
end
def saltuslaw04_MacGoes.f (k : Nat) (a0 : ByteArray) (a1 : ByteArray) (l2 : List ByteArray) (a3 : Int) : Option (Bool) := (saltuslaw04_cut.f a0).bind fun t101 => ((saltuslaw04_cut.f a1).bind fun t102 => ((saltuslaw04_few.f l2).bind fun t103 => (if (wrap64 ((t103.length : Int) + 1)) = 0 then (none) else ((mac_Chain.f t101 t102 t103).bind fun t106 => (if (t106.length : Int) = (t103.length : Int) then ((saltuslaw04_alive.f).bind fun t109 => (saltuslaw04_MacGoes.j0 k t101 t102 t103 (Int.tmod (wrap64 ((wrap64 ((Int.tmod a3 (wrap64 ((t103.length : Int) + 1))) + (t103.length : Int))) + 1)) (wrap64 ((t103.length : Int) + 1))) t106 (!t109))) else (saltuslaw04_MacGoes.j0 k t101 t102 t103 (Int.tmod (wrap64 ((wrap64 ((Int.tmod a3 (wrap64 ((t103.length : Int) + 1))) + (t103.length : Int))) + 1)) (wrap64 ((t103.length : Int) + 1))) t106 true))))))
theorem saltuslaw04_MacGoes.mono_l : ∀ k, (∀ y0 y1 y2 y3 y4 y5, LeO (saltuslaw04_MacGoes.j0 k y0 y1 y2 y3 y4 y5) (saltuslaw04_MacGoes.j0 (k + 1) y0 y1 y2 y3 y4 y5)) ∧ (∀ y0 y1 y2 y3 y4 y5 y6 y7 y8, LeO (saltuslaw04_MacGoes.l0 k y0 y1 y2 y3 y4 y5 y6 y7 y8) (saltuslaw04_MacGoes.l0 (k + 1) y0 y1 y2 y3 y4 y5 y6 y7 y8))
 | 0 => ⟨fun _ _ _ _ _ _ r h => by simp [saltuslaw04_MacGoes.j0] at h, fun _ _ _ _ _ _ _ _ _ r h => by simp [saltuslaw04_MacGoes.l0] at h⟩
 | k + 1 => by
  obtain ⟨ih0, ih1⟩ := saltuslaw04_MacGoes.mono_l k
  refine ⟨?_, ?_⟩
  ·intro y0 y1 y2 y3 y4 y5
   unfold saltuslaw04_MacGoes.j0
   repeat' first
   | (with_reducible exact ih0 _ _ _ _ _ _)
   | (with_reducible exact ih1 _ _ _ _ _ _ _ _ _)
   | (with_reducible exact LeO.refl _)
   | (with_reducible exact LeO.none _)
   | (with_reducible refine LeO.ite ?_ ?_)
   | (with_reducible refine LeO.bind ?_ (fun _ => ?_))
   | exact ih0 _ _ _ _ _ _
   | exact ih1 _ _ _ _ _ _ _ _ _
   | exact LeO.none _
   | refine LeO.ite ?_ ?_
   | refine LeO.bind ?_ (fun _ => ?_)
  ·intro y0 y1 y2 y3 y4 y5 y6 y7 y8
   unfold saltuslaw04_MacGoes.l0
   repeat' first
   | (with_reducible exact ih0 _ _ _ _ _ _)
   | (with_reducible exact ih1 _ _ _ _ _ _ _ _ _)
   | (with_reducible exact LeO.refl _)
   | (with_reducible exact LeO.none _)
   | (with_reducible refine LeO.ite ?_ ?_)
   | (with_reducible refine LeO.bind ?_ (fun _ => ?_))
   | exact ih0 _ _ _ _ _ _
   | exact ih1 _ _ _ _ _ _ _ _ _
   | exact LeO.none _
   | refine LeO.ite ?_ ?_
   | refine LeO.bind ?_ (fun _ => ?_)
theorem saltuslaw04_MacGoes.mono : ∀ a0 a1 a2 a3 k, LeO (saltuslaw04_MacGoes.f k a0 a1 a2 a3) (saltuslaw04_MacGoes.f (k + 1) a0 a1 a2 a3) := by
 intro a0 a1 a2 a3 k
 obtain ⟨ih0, ih1⟩ := saltuslaw04_MacGoes.mono_l k
 unfold saltuslaw04_MacGoes.f
 repeat' first
   | (with_reducible exact ih0 _ _ _ _ _ _)
   | (with_reducible exact ih1 _ _ _ _ _ _ _ _ _)
   | (with_reducible exact LeO.refl _)
   | (with_reducible exact LeO.none _)
   | (with_reducible refine LeO.ite ?_ ?_)
   | (with_reducible refine LeO.bind ?_ (fun _ => ?_))
   | exact ih0 _ _ _ _ _ _
   | exact ih1 _ _ _ _ _ _ _ _ _
   | exact LeO.none _
   | refine LeO.ite ?_ ?_
   | refine LeO.bind ?_ (fun _ => ?_)
def saltuslaw04_MacGoes.T17 : Bool × List (List Nat × List Nat) := (true, [([], []), ([], []), ([], []), ([], []), ([2, 3], [2, 3]), ([0, 1, 4], [0, 1, 4]), ([], []), ([], []), ([6, 7], [6, 7]), ([5, 8, 5], [5, 8]), ([9, 9, 0, 1, 2, 3, 4, 5, 6, 7, 8, 9], [9])])
def saltuslaw04_MacGoes.B17 : List Nat := [0, 0, 0, 0, 12, 31, 0, 0, 192, 511, 1023]
theorem saltuslaw04_MacGoes.tab17 : rtab .any (opsOf Try.f11 17) = saltuslaw04_MacGoes.T17 := by kernel_rfl
theorem saltuslaw04_MacGoes.bits17 : waitsOk saltuslaw04_MacGoes.T17.2 saltuslaw04_MacGoes.B17 = true := by kernel_rfl
set_option maxHeartbeats 8000000 in
set_option maxRecDepth 100000 in
theorem saltuslaw04_MacGoes.calls (k : Nat) (a0 : ByteArray) (a1 : ByteArray) (A2 : Option Addr) (c2 : Nat) (l2 : List ByteArray) (a3 : Int) (r : Bool) (w : World) (hr2 : Kd.C Kd.string w A2 l2.length l2) (hc2 : l2.length ≤ c2) (hr : Aside0 (r = true)) (h : saltuslaw04_MacGoes.f k a0 a1 l2 a3 = some r) :
  Calls Try.prog 11 #[.string a0, .string a1, .slice A2 l2.length c2, .int .i64 a3] w fun e w' => e = .returned (.bool r) ∧ Below w.heap.size w w' := by
 have HR2 := Aside0.mk hr2
 have HC2 := Aside0.mk hc2
 clear hr2 hc2
 have HB := Aside0.mk (Below.refl w.heap.size w)
 have H : ((saltuslaw04_cut.f a0).bind fun t101 => ((saltuslaw04_cut.f a1).bind fun t102 => ((saltuslaw04_few.f l2).bind fun t103 => (if (wrap64 ((t103.length : Int) + 1)) = 0 then (none) else ((mac_Chain.f t101 t102 t103).bind fun t106 => (if (t106.length : Int) = (t103.length : Int) then ((saltuslaw04_alive.f).bind fun t109 => (saltuslaw04_MacGoes.j0 k t101 t102 t103 (Int.tmod (wrap64 ((wrap64 ((Int.tmod a3 (wrap64 ((t103.length : Int) + 1))) + (t103.length : Int))) + 1)) (wrap64 ((t103.length : Int) + 1))) t106 (!t109))) else (saltuslaw04_MacGoes.j0 k t101 t102 t103 (Int.tmod (wrap64 ((wrap64 ((Int.tmod a3 (wrap64 ((t103.length : Int) + 1))) + (t103.length : Int))) + 1)) (wrap64 ((t103.length : Int) + 1))) t106 true))))))) = some r := h
 clear h
 replace H := Option.bind_eq_some_iff.mp H
 obtain ⟨t101, A50, H⟩ := H
 (try dsimp only at H)
 have A5 := Aside0.mk A50
 clear A50
 replace H := Option.bind_eq_some_iff.mp H
 obtain ⟨t102, A60, H⟩ := H
 (try dsimp only at H)
 have A6 := Aside0.mk A60
 clear A60
 replace H := Option.bind_eq_some_iff.mp H
 obtain ⟨t103, A70, H⟩ := H
 (try dsimp only at H)
 have A7 := Aside0.mk A70
 clear A70
 by_cases c8 : (wrap64 ((t103.length : Int) + 1)) = 0
 ·rw [if_pos c8] at H
  exact absurd H (by simp)
 ·rw [if_neg c8] at H
  have c8b0 : ((wrap64 ((t103.length : Int) + 1)) == 0) = false := beq_eq_false_iff_ne.mpr c8
  have c8b1 : ((wrap64 ((t103.length : Int) + 1)) != 0) = true := bne_iff_ne.mpr c8
  replace H := Option.bind_eq_some_iff.mp H
  obtain ⟨t106, A90, H⟩ := H
  (try dsimp only at H)
  have A9 := Aside0.mk A90
  clear A90
  have HC10 := Aside0.mk H
  clear H
  go_enter Try.func11, Try.ntmps11
  go_upto_region 4 with (first | ((with_reducible refine gate_callee (f := 33) rfl ?_); refine goesL_ (some 15) rfl rfl Try.func33 (by kernel_rfl) rfl #[.string a0] rfl (by (try simp only [List.map_toArray, List.map_cons, List.map_nil]); first | done | rfl | (simp only [List.length_drop, List.length_take]; rfl)) ?_; (with_reducible refine (saltuslaw04_cut.calls a0 t101 _ A5.out).mono ?_); rintro e w11 ⟨rfl, hb⟩; refine ⟨_, rfl, ?_⟩; have n0_ := Aside0.mk (below_step (by repeat (first | (with_reducible first | exact HB.out | apply below_alloc | apply pw_below_drewN | apply below_drew1) | exact HB.out)) hb); clear HB; have HB := n0_; clear n0_; (try clear hb); (try clear hb2); (try clear hk); (try clear hi)) | ((with_reducible refine gate_callee (f := 33) rfl ?_); refine goesL_ (some 17) rfl rfl Try.func33 (by kernel_rfl) rfl #[.string a1] rfl (by (try simp only [List.map_toArray, List.map_cons, List.map_nil]); first | done | rfl | (simp only [List.length_drop, List.length_take]; rfl)) ?_; (with_reducible refine (saltuslaw04_cut.calls a1 t102 _ A6.out).mono ?_); rintro e w12 ⟨rfl, hb⟩; refine ⟨_, rfl, ?_⟩; have n0_ := Aside0.mk (below_step (by repeat (first | (with_reducible first | exact HB.out | apply below_alloc | apply pw_below_drewN | apply below_drew1) | exact HB.out)) hb); clear HB; have HB := n0_; clear n0_; (try clear hb); (try clear hb2); (try clear hk); (try clear hi)) | ((with_reducible refine gate_callee (f := 38) rfl ?_); refine goesL_ (some 19) rfl rfl Try.func38 (by kernel_rfl) rfl #[.slice A2 l2.length c2] rfl (by (try simp only [List.map_toArray, List.map_cons, List.map_nil]); first | done | rfl | (simp only [List.length_drop, List.length_take]; rfl)) ?_; (with_reducible refine (saltuslaw04_few.calls _ _ l2 t103 _ ?side1 ?side2 A7.out).mono ?_); (case side1 => repeat (first | exact (Kd.C_below HR2.out HB.out) | (with_reducible refine Kd.C_alloc ?_ _) | (with_reducible refine Kd.C_drewN ?_ _) | (with_reducible refine Kd.C_drew ?_))); (case side2 => exact HC2.out); rintro e w13 ⟨v104, rfl, ho0, hb⟩; refine ⟨_, rfl, ?_⟩; have n0_ := Aside0.mk (Kd.R_lower ho0 (below_size (by repeat (first | (with_reducible first | exact HB.out | apply below_alloc | apply pw_below_drewN | apply below_drew1) | exact HB.out)))); have n1_ := Aside0.mk (below_step (by repeat (first | (with_reducible first | exact HB.out | apply below_alloc | apply pw_below_drewN | apply below_drew1) | exact HB.out)) hb); clear HB; have HO105 := n0_; have HB := n1_; clear n0_ n1_; (try clear hb); (try clear hb2); (try clear hk); (try clear hi); (try clear ho0); obtain ⟨Ao14, co14, eo14⟩ := Kd.R_slice HO105.out; subst eo14) | ((with_reducible refine gate_callee (f := 40) rfl ?_); refine goesL_ (some 36) rfl rfl Try.func40 (by kernel_rfl) rfl #[.string t101, .string t102, .slice Ao14 t103.length co14] rfl (by (try simp only [List.map_toArray, List.map_cons, List.map_nil]); first | done | rfl | (simp only [List.length_drop, List.length_take]; rfl)) ?_; (with_reducible refine (mac_Chain.calls t101 t102 _ _ t103 t106 _ ?side1 ?side2 A9.out).mono ?_); (case side1 => repeat (first | exact (Kd.R_reads' HO105.out).2.2 | (with_reducible refine Kd.C_alloc ?_ _) | (with_reducible refine Kd.C_drewN ?_ _) | (with_reducible refine Kd.C_drew ?_))); (case side2 => exact (Kd.R_reads' HO105.out).2.1); rintro e w15 ⟨v107, rfl, ho0, hb⟩; refine ⟨_, rfl, ?_⟩; have n0_ := Aside0.mk (Kd.R_elder' (by (with_reducible repeat (first | apply Kd.R_alloc | apply Kd.R_drewN | apply Kd.R_drew)); exact HO105.out) (Kd.R_base ho0) hb); have n1_ := Aside0.mk (Kd.R_lower (Kd.R_new' ho0 (Kd.R_lt (by (with_reducible repeat (first | apply Kd.R_alloc | apply Kd.R_drewN | apply Kd.R_drew)); exact HO105.out))) (below_size (by repeat (first | (with_reducible first | exact HB.out | apply below_alloc | apply pw_below_drewN | apply below_drew1) | exact HB.out)))); have n2_ := Aside0.mk (below_step (by repeat (first | (with_reducible first | exact HB.out | apply below_alloc | apply pw_below_drewN | apply below_drew1) | exact HB.out)) hb); clear HO105; clear HB; have HO105 := n0_; have HO108 := n1_; have HB := n2_; clear n0_ n1_ n2_; (try clear hb); (try clear hb2); (try clear hk); (try clear hi); (try clear ho0)))
  (try simp only [Act.put, List.setIfInBounds_toArray, List.set_cons_zero, List.set_cons_succ])
  go_cut [45] (fun v45 wc => ∃ (kq : Nat) (x45_9 : Bool), v45 = .bool x45_9 ∧ Aside0 (saltuslaw04_MacGoes.j0 kq t101 t102 t103 (Int.tmod (wrap64 ((wrap64 ((Int.tmod a3 (wrap64 ((t103.length : Int) + 1))) + (t103.length : Int))) + 1)) (wrap64 ((t103.length : Int) + 1))) t106 x45_9 = some r) ∧ Aside0 (kq ≤ k) ∧ Aside0 (Kd.R Kd.string 9 wc w.heap.size (fun k_ => some k_ ≠ (v107 : Value).ownBlock) (.slice Ao14 t103.length co14) t103) ∧ Aside0 (Kd.R Kd.string 9 wc w.heap.size (fun k_ => some k_ ≠ ((.slice Ao14 t103.length co14) : Value).ownBlock) v107 t106) ∧ Aside0 (Below w.heap.size w wc))
  case first =>
   have H := HC10.out
   clear HC10
   by_cases c16 : (t106.length : Int) = (t103.length : Int)
   ·rw [if_pos c16] at H
    have c16b0 : ((t106.length : Int) == (t103.length : Int)) = true := beq_iff_eq.mpr c16
    have c16b1 : ((t106.length : Int) != (t103.length : Int)) = false := bne_eq_false_iff_eq.mpr c16
    have c16b2 : (t106.length == t103.length) = true := by first | simpa using c16 | (simp at c16 ⊢; omega)
    clear c16
    (first | rw [c16b0] | (simp only [i64_w, i32_w]; rw [c16b0]) | skip)
    replace H := Option.bind_eq_some_iff.mp H
    obtain ⟨t109, A170, H⟩ := H
    (try dsimp only at H)
    have A17 := Aside0.mk A170
    clear A170
    have H' := Aside0.mk H
    clear H
    obtain ⟨Ao18, co18, eo18⟩ := Kd.R_slice HO108.out
    subst eo18
    go_wp2_with (first | (go_at_call 35; (with_reducible refine (saltuslaw04_alive.calls  t109 _ A17.out).mono ?_); rintro e w19 ⟨rfl, hb⟩; have n0_ := Aside0.mk (Kd.R_below (by (with_reducible repeat (first | apply Kd.R_alloc | apply Kd.R_drewN | apply Kd.R_drew)); exact HO105.out) hb); have n1_ := Aside0.mk (Kd.R_below (by (with_reducible repeat (first | apply Kd.R_alloc | apply Kd.R_drewN | apply Kd.R_drew)); exact HO108.out) hb); have n2_ := Aside0.mk (below_step (by repeat (first | (with_reducible first | exact HB.out | apply below_alloc | apply pw_below_drewN | apply below_drew1) | exact HB.out)) hb); clear HO105; clear HO108; clear HB; have HO105 := n0_; have HO108 := n1_; have HB := n2_; clear n0_ n1_ n2_; (try clear hb); (try clear hb2); (try clear hk); (try clear hi)))
    go_meet
    case rel => exact ⟨_, (!t109), (by first | rfl | (simp; done) | (simp [*]; done)), H', ⟨by first | omega | exact Nat.le_refl _⟩, ⟨by (with_reducible repeat (first | apply Kd.R_alloc | apply Kd.R_drewN | apply Kd.R_drew)); exact Kd.R_mono HO105.out (fun _ hk => hk.2)⟩, ⟨by (with_reducible repeat (first | apply Kd.R_alloc | apply Kd.R_drewN | apply Kd.R_drew)); exact Kd.R_mono HO108.out (fun _ hk => hk.2)⟩, ⟨by repeat (first | (with_reducible first | exact HB.out | apply below_alloc | apply pw_below_drewN | apply below_drew1) | exact HB.out)⟩⟩
   ·rw [if_neg c16] at H
    have c16b0 : ((t106.length : Int) == (t103.length : Int)) = false := beq_eq_false_iff_ne.mpr c16
    have c16b1 : ((t106.length : Int) != (t103.length : Int)) = true := bne_iff_ne.mpr c16
    have c16b2 : (t106.length == t103.length) = false := by first | simpa using c16 | (simp at c16 ⊢; omega)
    (first | rw [c16b0] | (simp only [i64_w, i32_w]; rw [c16b0]) | skip)
    have H' := Aside0.mk H
    clear H
    obtain ⟨Ao20, co20, eo20⟩ := Kd.R_slice HO108.out
    subst eo20
    go_wp2
    go_meet
    case rel => exact ⟨_, (true), (by first | rfl | (simp; done) | (simp [*]; done)), H', ⟨by first | omega | exact Nat.le_refl _⟩, ⟨by (with_reducible repeat (first | apply Kd.R_alloc | apply Kd.R_drewN | apply Kd.R_drew)); exact Kd.R_mono HO105.out (fun _ hk => hk.2)⟩, ⟨by (with_reducible repeat (first | apply Kd.R_alloc | apply Kd.R_drewN | apply Kd.R_drew)); exact Kd.R_mono HO108.out (fun _ hk => hk.2)⟩, ⟨by repeat (first | (with_reducible first | exact HB.out | apply below_alloc | apply pw_below_drewN | apply below_drew1) | exact HB.out)⟩⟩
  case rest =>
   clear HC10
   try clear c1
   try clear c2
   try clear p2
   try clear c3
   try clear c4
   try clear p6
   try clear c8
   try clear c8b0
   try clear c8b1
   try clear c11
   try clear c16
   try clear c16b0
   try clear c16b1
   try clear c16b2
   obtain ⟨kq, x45_9, rfl, HA, HJ9, HO_2, HO_9, HB⟩ := hcut
   cases kq with
   | zero => exact absurd HA.out (by simp [saltuslaw04_MacGoes.j0])
   | succ kj9 =>
    have H := HA.out
    clear HA
    simp only [saltuslaw04_MacGoes.j0] at H
    by_cases c21 : x45_9 = true
    ·subst c21
     have H1 : (some false) = some r := by rw [if_pos rfl] at H; exact H
     clear H
     have H := H1
     clear H1
     exact absurd ((Option.some.inj H).trans hr.out) (by decide)
    ·replace c21 := Bool.eq_false_iff.mpr c21
     subst c21
     have H1 : (saltuslaw04_MacGoes.l0 kj9 t101 t102 t103 (Int.tmod (wrap64 ((wrap64 ((Int.tmod a3 (wrap64 ((t103.length : Int) + 1))) + (t103.length : Int))) + 1)) (wrap64 ((t103.length : Int) + 1))) t106 t102 t103 (t103.length : Int) 0) = some r := by rw [if_neg (show ¬ (false = true) by decide)] at H; exact H
     clear H
     have H := H1
     clear H1
     have H' := Aside0.mk H
     clear H
     go_wp2
     go_loopg [10, 49] kj9 (fun kq v10 v49 w' => ∃ (x10_2 : ByteArray) (x49_2 : Int), v10 = .string x10_2 ∧ v49 = .int .i64 x49_2 ∧ Aside0 (saltuslaw04_MacGoes.l0 kq t101 t102 t103 (Int.tmod (wrap64 ((wrap64 ((Int.tmod a3 (wrap64 ((t103.length : Int) + 1))) + (t103.length : Int))) + 1)) (wrap64 ((t103.length : Int) + 1))) t106 x10_2 t103 (t103.length : Int) x49_2 = some r) ∧ Aside0 (kq ≤ kj9) ∧ Aside0 (Kd.R Kd.string 9 w' w.heap.size (fun k_ => some k_ ≠ (v107 : Value).ownBlock) (.slice Ao14 t103.length co14) t103) ∧ Aside0 (Kd.R Kd.string 9 w' w.heap.size (fun k_ => some k_ ≠ ((.slice Ao14 t103.length co14) : Value).ownBlock ∧ some k_ ≠ ((.slice Ao14 t103.length co14) : Value).ownBlock) v107 t106) ∧ Aside0 (Kd.R Kd.string 9 w' w.heap.size (fun k_ => some k_ ≠ (v107 : Value).ownBlock) (.slice Ao14 t103.length co14) t103) ∧ Aside0 (Below w.heap.size w w'))
     case atStart => exact ⟨(t102), (0), (by first | rfl | (simp; done) | (simp [*]; done)), (by first | rfl | (simp; done) | (simp [*]; done)), H', ⟨Nat.le_refl _⟩, ⟨by (with_reducible repeat (first | apply Kd.R_alloc | apply Kd.R_drewN | apply Kd.R_drew)); exact HO_2.out⟩, ⟨by (with_reducible repeat (first | apply Kd.R_alloc | apply Kd.R_drewN | apply Kd.R_drew)); exact Kd.R_mono HO_9.out (fun _ hk => ⟨hk, hk⟩)⟩, ⟨by (with_reducible repeat (first | apply Kd.R_alloc | apply Kd.R_drewN | apply Kd.R_drew)); exact HO_2.out⟩, ⟨by repeat (first | (with_reducible first | exact HB.out | apply below_alloc | apply pw_below_drewN | apply below_drew1) | exact HB.out)⟩⟩
     case round =>
      clear H'
      try clear c1
      try clear c2
      try clear p2
      try clear c3
      try clear c4
      try clear p6
      try clear c8
      try clear c8b0
      try clear c8b1
      try clear c11
      try clear c16
      try clear c16b0
      try clear c16b1
      try clear c16b2
      try clear c21
      try clear p2
      try clear p6
      obtain ⟨x10_2, x49_2, rfl, rfl, HA, HK2, HO_2, HO_9, HO_47, HB⟩ := hrel
      cases gk with
      | zero => exact absurd HA.out (by simp [saltuslaw04_MacGoes.l0])
      | succ k2 =>
       have H := HA.out
       clear HA
       simp only [saltuslaw04_MacGoes.l0] at H
       by_cases c22 : x49_2 < (t103.length : Int)
       ·rw [if_pos c22] at H
        have c22b0 : decide (x49_2 < (t103.length : Int)) = true := decide_eq_true c22
        clear c22
        by_cases c23 : 0 ≤ x49_2
        ·rw [if_pos c23] at H
         have c23b0 : decide (0 ≤ x49_2) = true := decide_eq_true c23
         clear c23
         by_cases c24 : x49_2 < (t103.length : Int)
         ·rw [if_pos c24] at H
          have c24b0 : decide (x49_2 < (t103.length : Int)) = true := decide_eq_true c24
          clear c24
          by_cases c25 : x10_2.size + (rdOf ByteArray.empty t103 x49_2).size ≤ 9223372036854775807
          ·rw [if_pos c25] at H
           have c25b0 := eq_true c25
           have c25b1 : decide (x10_2.size + (rdOf ByteArray.empty t103 x49_2).size ≤ 9223372036854775807) = true := decide_eq_true c25
           try have c25b2 : (9223372036854775807 < x10_2.size + (rdOf ByteArray.empty t103 x49_2).size) = False := eq_false (Nat.not_lt.2 c25)
           by_cases c26 : x49_2 < (t106.length : Int)
           ·rw [if_pos c26] at H
            have c26b0 : decide (x49_2 < (t106.length : Int)) = true := decide_eq_true c26
            clear c26
            replace H := Option.bind_eq_some_iff.mp H
            obtain ⟨t112, A270, H⟩ := H
            (try dsimp only at H)
            have A27 := Aside0.mk A270
            clear A270
            by_cases c28 : t112 = true
            ·subst c28
             have H1 : (saltuslaw04_MacGoes.l0 k2 t101 t102 t103 (Int.tmod (wrap64 ((wrap64 ((Int.tmod a3 (wrap64 ((t103.length : Int) + 1))) + (t103.length : Int))) + 1)) (wrap64 ((t103.length : Int) + 1))) t106 (rdOf ByteArray.empty t106 x49_2) t103 (t103.length : Int) (wrap64 (x49_2 + 1))) = some r := by rw [if_pos rfl] at H; exact H
             clear H
             have H := H1
             clear H1
             have H' := Aside0.mk H
             clear H
             have p110 : 0 ≤ (x49_2 : Int) := of_decide_eq_true (by first | (with_reducible assumption) | assumption)
             have q110 : x49_2 < (t103.length : Int) := of_decide_eq_true (by first | (with_reducible assumption) | assumption)
             obtain ⟨ad110, e110, hx110_0⟩ := Kd.at_string (Kd.R_reads' HO_47.out).2.2 x49_2 p110 q110
             cases e110
             replace p110 := eq_true p110
             replace q110 := eq_true q110
             obtain ⟨Ao29, co29, eo29⟩ := Kd.R_slice HO_9.out
             subst eo29
             have p111 : 0 ≤ (x49_2 : Int) := of_decide_eq_true (by first | (with_reducible assumption) | assumption)
             have q111 : x49_2 < (t106.length : Int) := of_decide_eq_true (by first | (with_reducible assumption) | assumption)
             obtain ⟨ad111, e111, hx111_0⟩ := Kd.at_string (Kd.R_reads' HO_9.out).2.2 x49_2 p111 q111
             cases e111
             replace p111 := eq_true p111
             replace q111 := eq_true q111
             go_wp2_with (first | ((with_reducible refine gate_callee (f := 37) rfl ?_); refine goesL_ (some 62) rfl rfl Try.func37 (by kernel_rfl) rfl #[.string t101, .string (x10_2 ++ (rdOf ByteArray.empty t103 x49_2)), .string (rdOf ByteArray.empty t106 x49_2)] rfl (by (try simp only [List.map_toArray, List.map_cons, List.map_nil]); first | done | rfl | (simp only [List.length_drop, List.length_take]; rfl)) ?_; (with_reducible refine (mac_Check.calls t101 (x10_2 ++ (rdOf ByteArray.empty t103 x49_2)) (rdOf ByteArray.empty t106 x49_2) true _ A27.out).mono ?_); rintro e w30 ⟨rfl, hb⟩; refine ⟨_, rfl, ?_⟩; have n0_ := Aside0.mk (Kd.R_below (by (with_reducible repeat (first | apply Kd.R_alloc | apply Kd.R_drewN | apply Kd.R_drew)); exact HO_2.out) hb); have n1_ := Aside0.mk (Kd.R_below (by (with_reducible repeat (first | apply Kd.R_alloc | apply Kd.R_drewN | apply Kd.R_drew)); exact HO_9.out) hb); have n2_ := Aside0.mk (Kd.R_below (by (with_reducible repeat (first | apply Kd.R_alloc | apply Kd.R_drewN | apply Kd.R_drew)); exact HO_47.out) hb); have n3_ := Aside0.mk (below_step (by repeat (first | (with_reducible first | exact HB.out | apply below_alloc | apply pw_below_drewN | apply below_drew1) | exact HB.out)) hb); clear HO_2; clear HO_9; clear HO_47; clear HB; have HO_2 := n0_; have HO_9 := n1_; have HO_47 := n2_; have HB := n3_; clear n0_ n1_ n2_ n3_; (try clear hb); (try clear hb2); (try clear hk); (try clear hi); have p113 : 0 ≤ (x49_2 : Int) := of_decide_eq_true (by first | (with_reducible assumption) | assumption); have q113 : x49_2 < (t106.length : Int) := of_decide_eq_true (by first | (with_reducible assumption) | assumption); obtain ⟨ad113, e113, hx113_0⟩ := Kd.at_string (Kd.R_reads' HO_9.out).2.2 x49_2 p113 q113; obtain rfl : ad111 = ad113 := (by injection e113); replace p113 := eq_true p113; replace q113 := eq_true q113))
             go_roundg k2
             case measure => have := HJ9.out; have := HK2.out; omega
             case rel => exact ⟨(rdOf ByteArray.empty t106 x49_2), (wrap64 (x49_2 + 1)), (by first | rfl | (simp; done) | (simp [*]; done)), (by first | rfl | (simp; done) | (simp [*]; done)), H', ⟨by have := HJ9.out; have := HK2.out; omega⟩, ⟨by (with_reducible repeat (first | apply Kd.R_alloc | apply Kd.R_drewN | apply Kd.R_drew)); exact HO_2.out⟩, ⟨by (with_reducible repeat (first | apply Kd.R_alloc | apply Kd.R_drewN | apply Kd.R_drew)); exact HO_9.out⟩, ⟨by (with_reducible repeat (first | apply Kd.R_alloc | apply Kd.R_drewN | apply Kd.R_drew)); exact HO_47.out⟩, ⟨by repeat (first | (with_reducible first | exact HB.out | apply below_alloc | apply pw_below_drewN | apply below_drew1) | exact HB.out)⟩⟩
            ·replace c28 := Bool.eq_false_iff.mpr c28
             subst c28
             have H1 : (some false) = some r := by rw [if_neg (show ¬ (false = true) by decide)] at H; exact H
             clear H
             have H := H1
             clear H1
             exact absurd ((Option.some.inj H).trans hr.out) (by decide)
           ·rw [if_neg c26] at H
            exact absurd H (by simp)
          ·rw [if_neg c25] at H
           exact absurd H (by simp)
         ·rw [if_neg c24] at H
          exact absurd H (by simp)
        ·rw [if_neg c23] at H
         exact absurd H (by simp)
       ·rw [if_neg c22] at H
        have c22b0 : decide (x49_2 < (t103.length : Int)) = false := decide_eq_false c22
        clear c22
        by_cases c31 : (Int.tmod (wrap64 ((wrap64 ((Int.tmod a3 (wrap64 ((t103.length : Int) + 1))) + (t103.length : Int))) + 1)) (wrap64 ((t103.length : Int) + 1))) > 0
        ·rw [if_pos c31] at H
         have c31b0 : decide (0 < (Int.tmod (wrap64 ((wrap64 ((Int.tmod a3 (wrap64 ((t103.length : Int) + 1))) + (t103.length : Int))) + 1)) (wrap64 ((t103.length : Int) + 1)))) = true := decide_eq_true c31
         clear c31
         obtain ⟨ji32, hji32⟩ : ∃ j_ : Int, (wrap64 ((Int.tmod (wrap64 ((wrap64 ((Int.tmod a3 (wrap64 ((t103.length : Int) + 1))) + (t103.length : Int))) + 1)) (wrap64 ((t103.length : Int) + 1))) - 1)) = j_ := ⟨_, rfl⟩
         replace H : (if 0 ≤ (ji32) then (if (ji32) < (t106.length : Int) then (if 0 ≤ (Int.tmod (wrap64 ((wrap64 ((Int.tmod a3 (wrap64 ((t103.length : Int) + 1))) + (t103.length : Int))) + 1)) (wrap64 ((t103.length : Int) + 1))) then (if (Int.tmod (wrap64 ((wrap64 ((Int.tmod a3 (wrap64 ((t103.length : Int) + 1))) + (t103.length : Int))) + 1)) (wrap64 ((t103.length : Int) + 1))) ≤ (t103.length : Int) then ((mac_Chain.f t101 (rdOf ByteArray.empty t106 (ji32)) (t103.drop ((Int.tmod (wrap64 ((wrap64 ((Int.tmod a3 (wrap64 ((t103.length : Int) + 1))) + (t103.length : Int))) + 1)) (wrap64 ((t103.length : Int) + 1))) : Int).toNat)).bind fun t119 => (if (Int.tmod (wrap64 ((wrap64 ((Int.tmod a3 (wrap64 ((t103.length : Int) + 1))) + (t103.length : Int))) + 1)) (wrap64 ((t103.length : Int) + 1))) ≤ (t106.length : Int) then ((saltusref04_Same.f t119 (t106.drop ((Int.tmod (wrap64 ((wrap64 ((Int.tmod a3 (wrap64 ((t103.length : Int) + 1))) + (t103.length : Int))) + 1)) (wrap64 ((t103.length : Int) + 1))) : Int).toNat)).bind fun t126 => (some t126)) else (none))) else (none)) else (none)) else (none)) else (none)) = some r := by first | (rw [hji32] at H; exact H) | (simp only [hji32] at H ⊢; exact H)
         have hji32w : (IntKind.i64.wrap ((Int.tmod (wrap64 ((wrap64 ((Int.tmod a3 (wrap64 ((t103.length : Int) + 1))) + (t103.length : Int))) + 1)) (wrap64 ((t103.length : Int) + 1))) - 1)) = ji32 := (i64_w _).trans hji32
         by_cases c33 : 0 ≤ (ji32)
         ·rw [if_pos c33] at H
          have c33b0 : decide (0 ≤ (ji32)) = true := decide_eq_true c33
          clear c33
          by_cases c34 : (ji32) < (t106.length : Int)
          ·rw [if_pos c34] at H
           have c34b0 : decide ((ji32) < (t106.length : Int)) = true := decide_eq_true c34
           clear c34
           obtain ⟨ji35, hji35⟩ : ∃ j_ : Int, (Int.tmod (wrap64 ((wrap64 ((Int.tmod a3 (wrap64 ((t103.length : Int) + 1))) + (t103.length : Int))) + 1)) (wrap64 ((t103.length : Int) + 1))) = j_ := ⟨_, rfl⟩
           replace H : (if 0 ≤ (ji35) then (if (ji35) ≤ (t103.length : Int) then ((mac_Chain.f t101 (rdOf ByteArray.empty t106 (ji32)) (t103.drop ((ji35) : Int).toNat)).bind fun t119 => (if (ji35) ≤ (t106.length : Int) then ((saltusref04_Same.f t119 (t106.drop ((ji35) : Int).toNat)).bind fun t126 => (some t126)) else (none))) else (none)) else (none)) = some r := by first | (rw [hji35] at H; exact H) | (simp only [hji35] at H ⊢; exact H)
           have hji32x : wrap64 (ji35 - 1) = ji32 := by rw [← hji35]; exact hji32
           have hji32y : (IntKind.i64.wrap (ji35 - 1)) = ji32 := (i64_w _).trans hji32x
           (try rw [hji35] at c31b0)
           by_cases c36 : 0 ≤ (ji35)
           ·rw [if_pos c36] at H
            have c36b0 := eq_true c36
            have c36b1 : decide (0 ≤ (ji35)) = true := decide_eq_true c36
            clear c36
            by_cases c37 : (ji35) ≤ (t103.length : Int)
            ·rw [if_pos c37] at H
             have c37b0 := eq_true c37
             have c37b1 : decide ((ji35) ≤ (t103.length : Int)) = true := decide_eq_true c37
             clear c37
             obtain ⟨y115, hy115⟩ : ∃ y_ : List ByteArray, y_ = (t103.drop ((ji35) : Int).toNat) := ⟨_, rfl⟩
             replace H : ((mac_Chain.f t101 (rdOf ByteArray.empty t106 (ji32)) y115).bind fun t119 => (if (ji35) ≤ (t106.length : Int) then ((saltusref04_Same.f t119 (t106.drop ((ji35) : Int).toNat)).bind fun t126 => (some t126)) else (none))) = some r := by first | (rw [hy115]; with_reducible exact H) | (have H2_ := (Option.bind_some _ _).symm.trans H; rw [hy115]; with_reducible exact H2_) | (have H2_ := (Option.bind_some _ _).symm.trans H; with_reducible exact H2_) | with_reducible exact H | (rw [hy115]; exact H) | exact H
             have Ny115 := Aside0.mk hy115
             clear hy115
             replace H := Option.bind_eq_some_iff.mp H
             obtain ⟨t119, A380, H⟩ := H
             (try dsimp only at H)
             have A38 := Aside0.mk A380
             clear A380
             have c39b0 := eq_true (of_decide_eq_true (by first | (with_reducible assumption) | assumption) : 0 ≤ (ji35))
             by_cases c40 : (ji35) ≤ (t106.length : Int)
             ·rw [if_pos c40] at H
              have c40b0 := eq_true c40
              have c40b1 : decide ((ji35) ≤ (t106.length : Int)) = true := decide_eq_true c40
              clear c40
              obtain ⟨y122, hy122⟩ : ∃ y_ : List ByteArray, y_ = (t106.drop ((ji35) : Int).toNat) := ⟨_, rfl⟩
              replace H : ((saltusref04_Same.f t119 y122).bind fun t126 => (some t126)) = some r := by first | (rw [hy122]; with_reducible exact H) | (have H2_ := (Option.bind_some _ _).symm.trans H; rw [hy122]; with_reducible exact H2_) | (have H2_ := (Option.bind_some _ _).symm.trans H; with_reducible exact H2_) | with_reducible exact H | (rw [hy122]; exact H) | exact H
              have Ny122 := Aside0.mk hy122
              clear hy122
              replace H := Option.bind_eq_some_iff.mp H
              obtain ⟨t126, A410, H⟩ := H
              (try dsimp only at H)
              have A41 := Aside0.mk A410
              clear A410
              obtain rfl := Option.some.inj H
              obtain ⟨Ao42, co42, eo42⟩ := Kd.R_slice HO_9.out
              subst eo42
              have p114 : 0 ≤ ((ji32) : Int) := of_decide_eq_true (by first | (with_reducible assumption) | assumption)
              have q114 : (ji32) < (t106.length : Int) := of_decide_eq_true (by first | (with_reducible assumption) | assumption)
              obtain ⟨ad114, e114, hx114_0⟩ := Kd.at_string (Kd.R_reads' HO_9.out).2.2 (ji32) p114 q114
              cases e114
              replace p114 := eq_true p114
              replace q114 := eq_true q114
              try go_wp2
              have n0_ := Aside0.mk (Kd.R_drew HO_2.out)
              have n1_ := Aside0.mk (Kd.R_drew HO_9.out)
              have n2_ := Aside0.mk (Kd.R_drew HO_47.out)
              have n3_ := Aside0.mk (below_drew1 HB.out)
              clear HO_2
              clear HO_9
              clear HO_47
              clear HB
              have HO_2 := n0_
              have HO_9 := n1_
              have HO_47 := n2_
              have HB := n3_
              clear n0_ n1_ n2_ n3_
              have q44 : ((ji35) : Int) ≤ ((t103.length : Int) : Int) := of_decide_eq_true (by first | (with_reducible assumption) | assumption)
              obtain ⟨i044, hi044, _, hsz44, _⟩ := info_parts info9
              have hroom44 : t103.length ≤ co14 := (Kd.R_reads' HO_2.out).2.1
              have hC44 : Kd.C Kd.string _ Ao14 t103.length t103 := (Kd.R_reads' HO_2.out).2.2
              have q044 : (0 : Int) ≤ ((ji35) : Int) := of_decide_eq_true (by first | (with_reducible assumption) | assumption)
              have hcut44 := cut_from (P := Try.prog) 41 9 .i64 Try.underlying41 hi044 1 hsz44 Ao14 t103.length co14 (ji35) q044 q44
              have hr44 := Kd.C_drop (m := ((ji35) : Int).toNat) (c := co14) hC44 (by omega) hroom44
              obtain ⟨A44, hA44⟩ : ∃ A1, A1 = (if co14 = ((ji35) : Int).toNat then Ao14 else (Ao14 : Option Addr).map (·.add (((ji35) : Int).toNat * 1))) := ⟨_, rfl⟩
              obtain ⟨c44, hc44⟩ : ∃ c1, c1 = co14 - ((ji35) : Int).toNat := ⟨_, rfl⟩
              have hy44 : y115.length = t103.length - ((ji35) : Int).toNat := (by rw [Ny115.out, List.length_drop] <;> omega)
              rw [show (t103).drop ((ji35) : Int).toNat = y115 from Ny115.out.symm] at hr44
              replace hr44 : Kd.C Kd.string _ A44 y115.length y115 := (by rw [hA44]; exact hr44)
              rw [← hy44, ← hA44, ← hc44] at hcut44
              have HR118 := Aside0.mk hr44
              have HC118 := Aside0.mk (show y115.length ≤ c44 from by rw [hy44, hc44]; exact Nat.sub_le_sub_right hroom44 _)
              clear hr44 hC44 hroom44 hi044 hsz44 hc44
              have KY44 := Aside0.mk hy44
              have KA44 := Aside0.mk hA44
              clear hy44 hA44
              have KL44 := Aside0.mk (show ((ji35) : Int).toNat ≤ t103.length from by omega)
              replace q44 := eq_true q44
              have q45 : ((ji35) : Int) ≤ ((t106.length : Int) : Int) := of_decide_eq_true (by first | (with_reducible assumption) | assumption)
              obtain ⟨i045, hi045, _, hsz45, _⟩ := info_parts info9
              have hroom45 : t106.length ≤ co42 := (Kd.R_reads' HO_9.out).2.1
              have hC45 : Kd.C Kd.string _ (some ad114) t106.length t106 := (Kd.R_reads' HO_9.out).2.2
              have q045 : (0 : Int) ≤ ((ji35) : Int) := of_decide_eq_true (by first | (with_reducible assumption) | assumption)
              have hcut45 := cut_from (P := Try.prog) 41 9 .i64 Try.underlying41 hi045 1 hsz45 (some ad114) t106.length co42 (ji35) q045 q45
              have hr45 := Kd.C_drop (m := ((ji35) : Int).toNat) (c := co42) hC45 (by omega) hroom45
              obtain ⟨A45, hA45⟩ : ∃ A1, A1 = (if co42 = ((ji35) : Int).toNat then (some ad114) else ((some ad114) : Option Addr).map (·.add (((ji35) : Int).toNat * 1))) := ⟨_, rfl⟩
              obtain ⟨c45, hc45⟩ : ∃ c1, c1 = co42 - ((ji35) : Int).toNat := ⟨_, rfl⟩
              have hy45 : y122.length = t106.length - ((ji35) : Int).toNat := (by rw [Ny122.out, List.length_drop] <;> omega)
              rw [show (t106).drop ((ji35) : Int).toNat = y122 from Ny122.out.symm] at hr45
              replace hr45 : Kd.C Kd.string _ A45 y122.length y122 := (by rw [hA45]; exact hr45)
              rw [← hy45, ← hA45, ← hc45] at hcut45
              have HR125 := Aside0.mk hr45
              have HC125 := Aside0.mk (show y122.length ≤ c45 from by rw [hy45, hc45]; exact Nat.sub_le_sub_right hroom45 _)
              clear hr45 hC45 hroom45 hi045 hsz45 hc45
              have KY45 := Aside0.mk hy45
              have KA45 := Aside0.mk hA45
              clear hy45 hA45
              have KL45 := Aside0.mk (show ((ji35) : Int).toNat ≤ t106.length from by omega)
              replace q45 := eq_true q45
              refine start_ (n := 11) (S := fun w' => True) (ds := []) #[false, false, false, false, false, false, false, false, false, false, false] (by kernel_rfl) rfl rfl trivial (fun hHeld => ?_); refine with_tabW saltuslaw04_MacGoes.tab17 saltuslaw04_MacGoes.bits17 (fun HT_ HW_ => ?_)
              generalize wr.drew = w43 at HO_2 HO_9 HO_47 HB HR118 HR125 hHeld ⊢
              refine pure_ (i := 0) (N := some 77) (v := ?_) (a' := ?_) #[true, false, false, false, false, false, false, false, false, false, false] rfl rfl (any_of HT_.out (by kernel_rfl)) (fun _ _ _ h => h) (Or.inl ⟨by rfl, ?_⟩) ?_ ?_
              rotate_left
              ·intro w'
               go_simp
               with_reducible rfl
              rotate_left
              ·simp only [Act.put, List.setIfInBounds_toArray, List.set_cons_zero, List.set_cons_succ, i64_w, i32_w]
               rfl
              refine pure_ (i := 1) (N := some 78) (v := ?_) (a' := ?_) #[true, true, false, false, false, false, false, false, false, false, false] rfl rfl (any_of HT_.out (by kernel_rfl)) (fun _ _ _ h => h) (Or.inl ⟨by rfl, ?_⟩) ?_ ?_
              rotate_left
              ·intro w'
               go_simp
               with_reducible rfl
              rotate_left
              ·simp only [Act.put, List.setIfInBounds_toArray, List.set_cons_zero, List.set_cons_succ, i64_w, i32_w]
               rfl
              refine pure_ (i := 2) (N := some 79) (v := ?_) (a' := ?_) #[true, true, true, false, false, false, false, false, false, false, false] rfl rfl (any_of HT_.out (by kernel_rfl)) (fun _ _ _ h => h) (Or.inl ⟨by rfl, ?_⟩) ?_ ?_
              rotate_left
              ·intro w'
               go_simp
               with_reducible rfl
              rotate_left
              ·simp only [Act.put, List.setIfInBounds_toArray, List.set_cons_zero, List.set_cons_succ, i64_w, i32_w]
               rfl
              refine pure_ (i := 3) (N := some 80) (v := ?_) (a' := ?_) #[true, true, true, true, false, false, false, false, false, false, false] rfl rfl (any_of HT_.out (by kernel_rfl)) (fun _ _ _ h => h) (Or.inl ⟨by rfl, ?_⟩) ?_ ?_
              rotate_left
              ·intro w'
               go_simp
               with_reducible rfl
              rotate_left
              ·simp only [Act.put, List.setIfInBounds_toArray, List.set_cons_zero, List.set_cons_succ, i64_w, i32_w]
               rfl
              refine pure_ (i := 4) (N := some 81) (v := ?_) (a' := ?_) #[true, true, true, true, true, false, false, false, false, false, false] rfl rfl (any_of HT_.out (by kernel_rfl)) (fun _ _ _ h => h) (Or.inl ⟨by rfl, ?_⟩) ?_ ?_
              rotate_left
              ·intro w'
               go_simp
               with_reducible rfl
              rotate_left
              ·simp only [Act.put, List.setIfInBounds_toArray, List.set_cons_zero, List.set_cons_succ, i64_w, i32_w]
               rfl
              refine pure_ (i := 6) (N := some 83) (v := ?_) (a' := ?_) #[true, true, true, true, true, false, true, false, false, false, false] rfl rfl (any_of HT_.out (by kernel_rfl)) (fun _ _ _ h => h) (Or.inl ⟨by rfl, ?_⟩) ?_ ?_
              rotate_left
              ·intro w'
               go_simp
               with_reducible rfl
              rotate_left
              ·simp only [Act.put, List.setIfInBounds_toArray, List.set_cons_zero, List.set_cons_succ, i64_w, i32_w]
               rfl
              refine pure_ (i := 7) (N := some 84) (v := ?_) (a' := ?_) #[true, true, true, true, true, false, true, true, false, false, false] rfl rfl (any_of HT_.out (by kernel_rfl)) (fun _ _ _ h => h) (Or.inl ⟨by rfl, ?_⟩) ?_ ?_
              rotate_left
              ·intro w'
               go_simp
               with_reducible rfl
              rotate_left
              ·simp only [Act.put, List.setIfInBounds_toArray, List.set_cons_zero, List.set_cons_succ, i64_w, i32_w]
               rfl
              refine pure_ (i := 8) (N := some 85) (v := ?_) (a' := ?_) #[true, true, true, true, true, false, true, true, true, false, false] rfl rfl (any_of HT_.out (by kernel_rfl)) (fun _ _ _ h => h) (Or.inl ⟨by rfl, ?_⟩) ?_ ?_
              rotate_left
              ·intro w'
               go_simp
               with_reducible rfl
              rotate_left
              ·simp only [Act.put, List.setIfInBounds_toArray, List.set_cons_zero, List.set_cons_succ, i64_w, i32_w]
               rfl
              refine one_ (i := 5) (N := some 82) #[true, true, true, true, true, true, true, true, true, false, false] rfl rfl (one_of HT_.out (by kernel_rfl)) (by decide) (fun K hK => ?_)
              refine goes_ Try.func40 (by kernel_rfl) rfl #[.string t101, .string (rdOf ByteArray.empty t106 (ji32)), .slice A44 y115.length c44] (by rfl) rfl rfl (by (try simp only [List.map_toArray, List.map_cons, List.map_nil]); first | done | (simp only [hji32]; rfl) | rfl | (simp only [List.length_drop, List.length_take]; rfl)) ?_
              with_reducible refine (mac_Chain.calls t101 (rdOf ByteArray.empty t106 (ji32)) _ _ y115 t119 _ ?side1 ?side2 A38.out).mono ?_
              (case side1 => repeat (first | exact (by repeat (first | (with_reducible exact HR118.out) | (with_reducible refine Kd.C_alloc ?_ _) | (with_reducible refine Kd.C_drewN ?_ _) | (with_reducible refine Kd.C_drew ?_) | exact HR118.out)) | (with_reducible refine Kd.C_alloc ?_ _) | (with_reducible refine Kd.C_drewN ?_ _) | (with_reducible refine Kd.C_drew ?_)))
              (case side2 => exact HC118.out)
              rintro e w46 ⟨v120, rfl, ho0, hb⟩
              refine ⟨_, rfl, ?_⟩
              have n0_ := Aside0.mk (Kd.R_elder' (by (with_reducible repeat (first | apply Kd.R_alloc | apply Kd.R_drewN | apply Kd.R_drew)); exact HO_2.out) (Kd.R_base ho0) hb)
              have n1_ := Aside0.mk (Kd.R_elder' (by (with_reducible repeat (first | apply Kd.R_alloc | apply Kd.R_drewN | apply Kd.R_drew)); exact HO_9.out) (Kd.R_base ho0) hb)
              have n2_ := Aside0.mk (Kd.R_elder' (by (with_reducible repeat (first | apply Kd.R_alloc | apply Kd.R_drewN | apply Kd.R_drew)); exact HO_47.out) (Kd.R_base ho0) hb)
              have n3_ := Aside0.mk (Kd.R_lower (Kd.R_new' (Kd.R_new' (Kd.R_new' ho0 (Kd.R_lt (by (with_reducible repeat (first | apply Kd.R_alloc | apply Kd.R_drewN | apply Kd.R_drew)); exact HO_2.out))) (Kd.R_lt (by (with_reducible repeat (first | apply Kd.R_alloc | apply Kd.R_drewN | apply Kd.R_drew)); exact HO_9.out))) (Kd.R_lt (by (with_reducible repeat (first | apply Kd.R_alloc | apply Kd.R_drewN | apply Kd.R_drew)); exact HO_47.out))) (below_size (by repeat (first | (with_reducible first | exact HB.out | apply below_alloc | apply pw_below_drewN | apply below_drew1) | exact HB.out))))
              have n4_ := Aside0.mk (Kd.C_below (by repeat (first | (with_reducible exact HR118.out) | (with_reducible refine Kd.C_alloc ?_ _) | (with_reducible refine Kd.C_drewN ?_ _) | (with_reducible refine Kd.C_drew ?_) | exact HR118.out)) hb)
              have n5_ := Aside0.mk (Kd.C_below (by repeat (first | (with_reducible exact HR125.out) | (with_reducible refine Kd.C_alloc ?_ _) | (with_reducible refine Kd.C_drewN ?_ _) | (with_reducible refine Kd.C_drew ?_) | exact HR125.out)) hb)
              have n6_ := Aside0.mk (below_step (by repeat (first | (with_reducible first | exact HB.out | apply below_alloc | apply pw_below_drewN | apply below_drew1) | exact HB.out)) hb)
              clear HO_2
              clear HO_9
              clear HO_47
              clear HR118
              clear HR125
              clear HB
              have HO_2 := n0_
              have HO_9 := n1_
              have HO_47 := n2_
              have HO121 := n3_
              have HR118 := n4_
              have HR125 := n5_
              have HB := n6_
              clear n0_ n1_ n2_ n3_ n4_ n5_ n6_
              (try clear hb)
              (try clear hb2)
              (try clear hk)
              (try clear hi)
              (try clear ho0)
              obtain ⟨Ao47, co47, eo47⟩ := Kd.R_slice HO121.out
              (first | subst eo47 | (injection eo47 with f1_ f2_ f3_; have f4_ := f1_.symm; have f5_ := f3_.symm; clear f1_ f2_ f3_; subst f4_; subst f5_))
              refine hK.out _ _ trivial (fun hHeld => ?_)
              clear hK K
              refine norm_ (a' := ?_) ?_ ?_
              rotate_left
              ·show Act.put _ (some 82) _ = _
               simp only [Act.put, List.setIfInBounds_toArray, List.set_cons_zero, List.set_cons_succ, i64_w, i32_w]
               rfl
              refine one_ (i := 9) (N := some 86) #[true, true, true, true, true, true, true, true, true, true, false] rfl rfl (one_of HT_.out (by kernel_rfl)) (by decide) (fun K hK => ?_)
              refine goes_ Try.func39 (by kernel_rfl) rfl #[.slice Ao47 t119.length co47, .slice A45 y122.length c45] (by rfl) rfl rfl (by (try simp only [List.map_toArray, List.map_cons, List.map_nil]); first | done | rfl | (simp only [List.length_drop, List.length_take]; rfl)) ?_
              with_reducible refine (saltusref04_Same.calls _ _ t119 _ _ y122 t126 _ ?side1 ?side2 ?side3 ?side4 A41.out).mono ?_
              (case side1 => repeat (first | exact (Kd.R_reads' HO121.out).2.2 | (with_reducible refine Kd.C_alloc ?_ _) | (with_reducible refine Kd.C_drewN ?_ _) | (with_reducible refine Kd.C_drew ?_)))
              (case side2 => exact (Kd.R_reads' HO121.out).2.1)
              (case side3 => repeat (first | exact (by repeat (first | (with_reducible exact HR125.out) | (with_reducible refine Kd.C_alloc ?_ _) | (with_reducible refine Kd.C_drewN ?_ _) | (with_reducible refine Kd.C_drew ?_) | exact HR125.out)) | (with_reducible refine Kd.C_alloc ?_ _) | (with_reducible refine Kd.C_drewN ?_ _) | (with_reducible refine Kd.C_drew ?_)))
              (case side4 => exact HC125.out)
              rintro e w' ⟨rfl, ⟨nd, rfl⟩⟩
              refine ⟨_, rfl, ?_⟩
              refine hK.out _ _ trivial (fun hHeld => ?_)
              clear hK K
              refine norm_ (a' := ?_) ?_ ?_
              rotate_left
              ·show Act.put _ (some 86) _ = _
               simp only [Act.put, List.setIfInBounds_toArray, List.set_cons_zero, List.set_cons_succ, i64_w, i32_w]
               rfl
              refine pure_ (i := 10) (N := some 8) (v := ?_) (a' := ?_) #[true, true, true, true, true, true, true, true, true, true, true] rfl rfl (any_of HT_.out (by kernel_rfl)) (fun _ _ _ h => h) (Or.inl ⟨by rfl, ?_⟩) ?_ ?_
              rotate_left
              ·intro w'
               go_simp
               with_reducible rfl
              rotate_left
              ·simp only [Act.put, List.setIfInBounds_toArray, List.set_cons_zero, List.set_cons_succ, i64_w, i32_w]
               rfl
              refine done_ (done_of HT_.out (by kernel_rfl)) ?_
              try go_wp2
              go_ret
              exact ⟨by first | rfl | (simp [errW_none, errW_some] <;> rfl) | (simp only [← hji32, ← hji35]; first | rfl | (simp [errW_none, errW_some] <;> rfl)) | (simp [*, errW_none, errW_some] <;> rfl), by repeat (first | (with_reducible first | exact HB.out | apply below_alloc | apply pw_below_drewN | apply below_drew1) | exact HB.out)⟩
             ·rw [if_neg c40] at H
              exact absurd H (by simp)
            ·rw [if_neg c37] at H
             exact absurd H (by simp)
           ·rw [if_neg c36] at H
            exact absurd H (by simp)
          ·rw [if_neg c34] at H
           exact absurd H (by simp)
         ·rw [if_neg c33] at H
          exact absurd H (by simp)
        ·rw [if_neg c31] at H
         have c31b0 : decide (0 < (Int.tmod (wrap64 ((wrap64 ((Int.tmod a3 (wrap64 ((t103.length : Int) + 1))) + (t103.length : Int))) + 1)) (wrap64 ((t103.length : Int) + 1)))) = false := decide_eq_false c31
         clear c31
         obtain ⟨ji48, hji48⟩ : ∃ j_ : Int, (Int.tmod (wrap64 ((wrap64 ((Int.tmod a3 (wrap64 ((t103.length : Int) + 1))) + (t103.length : Int))) + 1)) (wrap64 ((t103.length : Int) + 1))) = j_ := ⟨_, rfl⟩
         replace H : (if 0 ≤ (ji48) then (if (ji48) ≤ (t103.length : Int) then ((mac_Chain.f t101 t102 (t103.drop ((ji48) : Int).toNat)).bind fun t131 => (if (ji48) ≤ (t106.length : Int) then ((saltusref04_Same.f t131 (t106.drop ((ji48) : Int).toNat)).bind fun t138 => (some t138)) else (none))) else (none)) else (none)) = some r := by first | (rw [hji48] at H; exact H) | (simp only [hji48] at H ⊢; exact H)
         (try rw [hji48] at c31b0)
         by_cases c49 : 0 ≤ (ji48)
         ·rw [if_pos c49] at H
          have c49b0 := eq_true c49
          have c49b1 : decide (0 ≤ (ji48)) = true := decide_eq_true c49
          clear c49
          by_cases c50 : (ji48) ≤ (t103.length : Int)
          ·rw [if_pos c50] at H
           have c50b0 := eq_true c50
           have c50b1 : decide ((ji48) ≤ (t103.length : Int)) = true := decide_eq_true c50
           clear c50
           obtain ⟨y127, hy127⟩ : ∃ y_ : List ByteArray, y_ = (t103.drop ((ji48) : Int).toNat) := ⟨_, rfl⟩
           replace H : ((mac_Chain.f t101 t102 y127).bind fun t131 => (if (ji48) ≤ (t106.length : Int) then ((saltusref04_Same.f t131 (t106.drop ((ji48) : Int).toNat)).bind fun t138 => (some t138)) else (none))) = some r := by first | (rw [hy127]; with_reducible exact H) | (have H2_ := (Option.bind_some _ _).symm.trans H; rw [hy127]; with_reducible exact H2_) | (have H2_ := (Option.bind_some _ _).symm.trans H; with_reducible exact H2_) | with_reducible exact H | (rw [hy127]; exact H) | exact H
           have Ny127 := Aside0.mk hy127
           clear hy127
           replace H := Option.bind_eq_some_iff.mp H
           obtain ⟨t131, A510, H⟩ := H
           (try dsimp only at H)
           have A51 := Aside0.mk A510
           clear A510
           have c52b0 := eq_true (of_decide_eq_true (by first | (with_reducible assumption) | assumption) : 0 ≤ (ji48))
           by_cases c53 : (ji48) ≤ (t106.length : Int)
           ·rw [if_pos c53] at H
            have c53b0 := eq_true c53
            have c53b1 : decide ((ji48) ≤ (t106.length : Int)) = true := decide_eq_true c53
            clear c53
            obtain ⟨y134, hy134⟩ : ∃ y_ : List ByteArray, y_ = (t106.drop ((ji48) : Int).toNat) := ⟨_, rfl⟩
            replace H : ((saltusref04_Same.f t131 y134).bind fun t138 => (some t138)) = some r := by first | (rw [hy134]; with_reducible exact H) | (have H2_ := (Option.bind_some _ _).symm.trans H; rw [hy134]; with_reducible exact H2_) | (have H2_ := (Option.bind_some _ _).symm.trans H; with_reducible exact H2_) | with_reducible exact H | (rw [hy134]; exact H) | exact H
            have Ny134 := Aside0.mk hy134
            clear hy134
            replace H := Option.bind_eq_some_iff.mp H
            obtain ⟨t138, A540, H⟩ := H
            (try dsimp only at H)
            have A54 := Aside0.mk A540
            clear A540
            obtain rfl := Option.some.inj H
            try go_wp2
            have n0_ := Aside0.mk (Kd.R_drew HO_2.out)
            have n1_ := Aside0.mk (Kd.R_drew HO_9.out)
            have n2_ := Aside0.mk (Kd.R_drew HO_47.out)
            have n3_ := Aside0.mk (below_drew1 HB.out)
            clear HO_2
            clear HO_9
            clear HO_47
            clear HB
            have HO_2 := n0_
            have HO_9 := n1_
            have HO_47 := n2_
            have HB := n3_
            clear n0_ n1_ n2_ n3_
            have q56 : ((ji48) : Int) ≤ ((t103.length : Int) : Int) := of_decide_eq_true (by first | (with_reducible assumption) | assumption)
            obtain ⟨i056, hi056, _, hsz56, _⟩ := info_parts info9
            have hroom56 : t103.length ≤ co14 := (Kd.R_reads' HO_2.out).2.1
            have hC56 : Kd.C Kd.string _ Ao14 t103.length t103 := (Kd.R_reads' HO_2.out).2.2
            have q056 : (0 : Int) ≤ ((ji48) : Int) := of_decide_eq_true (by first | (with_reducible assumption) | assumption)
            have hcut56 := cut_from (P := Try.prog) 41 9 .i64 Try.underlying41 hi056 1 hsz56 Ao14 t103.length co14 (ji48) q056 q56
            have hr56 := Kd.C_drop (m := ((ji48) : Int).toNat) (c := co14) hC56 (by omega) hroom56
            obtain ⟨A56, hA56⟩ : ∃ A1, A1 = (if co14 = ((ji48) : Int).toNat then Ao14 else (Ao14 : Option Addr).map (·.add (((ji48) : Int).toNat * 1))) := ⟨_, rfl⟩
            obtain ⟨c56, hc56⟩ : ∃ c1, c1 = co14 - ((ji48) : Int).toNat := ⟨_, rfl⟩
            have hy56 : y127.length = t103.length - ((ji48) : Int).toNat := (by rw [Ny127.out, List.length_drop] <;> omega)
            rw [show (t103).drop ((ji48) : Int).toNat = y127 from Ny127.out.symm] at hr56
            replace hr56 : Kd.C Kd.string _ A56 y127.length y127 := (by rw [hA56]; exact hr56)
            rw [← hy56, ← hA56, ← hc56] at hcut56
            have HR130 := Aside0.mk hr56
            have HC130 := Aside0.mk (show y127.length ≤ c56 from by rw [hy56, hc56]; exact Nat.sub_le_sub_right hroom56 _)
            clear hr56 hC56 hroom56 hi056 hsz56 hc56
            have KY56 := Aside0.mk hy56
            have KA56 := Aside0.mk hA56
            clear hy56 hA56
            have KL56 := Aside0.mk (show ((ji48) : Int).toNat ≤ t103.length from by omega)
            replace q56 := eq_true q56
            obtain ⟨Ao58, co58, eo58⟩ := Kd.R_slice HO_9.out
            (first | subst eo58 | (injection eo58 with f1_ f2_ f3_; have f4_ := f1_.symm; have f5_ := f3_.symm; clear f1_ f2_ f3_; subst f4_; subst f5_))
            have q57 : ((ji48) : Int) ≤ ((t106.length : Int) : Int) := of_decide_eq_true (by first | (with_reducible assumption) | assumption)
            obtain ⟨i057, hi057, _, hsz57, _⟩ := info_parts info9
            have hroom57 : t106.length ≤ co58 := (Kd.R_reads' HO_9.out).2.1
            have hC57 : Kd.C Kd.string _ Ao58 t106.length t106 := (Kd.R_reads' HO_9.out).2.2
            have q057 : (0 : Int) ≤ ((ji48) : Int) := of_decide_eq_true (by first | (with_reducible assumption) | assumption)
            have hcut57 := cut_from (P := Try.prog) 41 9 .i64 Try.underlying41 hi057 1 hsz57 Ao58 t106.length co58 (ji48) q057 q57
            have hr57 := Kd.C_drop (m := ((ji48) : Int).toNat) (c := co58) hC57 (by omega) hroom57
            obtain ⟨A57, hA57⟩ : ∃ A1, A1 = (if co58 = ((ji48) : Int).toNat then Ao58 else (Ao58 : Option Addr).map (·.add (((ji48) : Int).toNat * 1))) := ⟨_, rfl⟩
            obtain ⟨c57, hc57⟩ : ∃ c1, c1 = co58 - ((ji48) : Int).toNat := ⟨_, rfl⟩
            have hy57 : y134.length = t106.length - ((ji48) : Int).toNat := (by rw [Ny134.out, List.length_drop] <;> omega)
            rw [show (t106).drop ((ji48) : Int).toNat = y134 from Ny134.out.symm] at hr57
            replace hr57 : Kd.C Kd.string _ A57 y134.length y134 := (by rw [hA57]; exact hr57)
            rw [← hy57, ← hA57, ← hc57] at hcut57
            have HR137 := Aside0.mk hr57
            have HC137 := Aside0.mk (show y134.length ≤ c57 from by rw [hy57, hc57]; exact Nat.sub_le_sub_right hroom57 _)
            clear hr57 hC57 hroom57 hi057 hsz57 hc57
            have KY57 := Aside0.mk hy57
            have KA57 := Aside0.mk hA57
            clear hy57 hA57
            have KL57 := Aside0.mk (show ((ji48) : Int).toNat ≤ t106.length from by omega)
            replace q57 := eq_true q57
            refine start_ (n := 11) (S := fun w' => True) (ds := []) #[false, false, false, false, false, false, false, false, false, false, false] (by kernel_rfl) rfl rfl trivial (fun hHeld => ?_); refine with_tabW saltuslaw04_MacGoes.tab17 saltuslaw04_MacGoes.bits17 (fun HT_ HW_ => ?_)
            generalize wr.drew = w55 at HO_2 HO_9 HO_47 HB HR130 HR137 hHeld ⊢
            refine pure_ (i := 0) (N := some 77) (v := ?_) (a' := ?_) #[true, false, false, false, false, false, false, false, false, false, false] rfl rfl (any_of HT_.out (by kernel_rfl)) (fun _ _ _ h => h) (Or.inl ⟨by rfl, ?_⟩) ?_ ?_
            rotate_left
            ·intro w'
             go_simp
             with_reducible rfl
            rotate_left
            ·simp only [Act.put, List.setIfInBounds_toArray, List.set_cons_zero, List.set_cons_succ, i64_w, i32_w]
             rfl
            refine pure_ (i := 1) (N := some 78) (v := ?_) (a' := ?_) #[true, true, false, false, false, false, false, false, false, false, false] rfl rfl (any_of HT_.out (by kernel_rfl)) (fun _ _ _ h => h) (Or.inl ⟨by rfl, ?_⟩) ?_ ?_
            rotate_left
            ·intro w'
             go_simp
             with_reducible rfl
            rotate_left
            ·simp only [Act.put, List.setIfInBounds_toArray, List.set_cons_zero, List.set_cons_succ, i64_w, i32_w]
             rfl
            refine pure_ (i := 2) (N := some 79) (v := ?_) (a' := ?_) #[true, true, true, false, false, false, false, false, false, false, false] rfl rfl (any_of HT_.out (by kernel_rfl)) (fun _ _ _ h => h) (Or.inl ⟨by rfl, ?_⟩) ?_ ?_
            rotate_left
            ·intro w'
             go_simp
             with_reducible rfl
            rotate_left
            ·simp only [Act.put, List.setIfInBounds_toArray, List.set_cons_zero, List.set_cons_succ, i64_w, i32_w]
             rfl
            refine pure_ (i := 3) (N := some 80) (v := ?_) (a' := ?_) #[true, true, true, true, false, false, false, false, false, false, false] rfl rfl (any_of HT_.out (by kernel_rfl)) (fun _ _ _ h => h) (Or.inl ⟨by rfl, ?_⟩) ?_ ?_
            rotate_left
            ·intro w'
             go_simp
             with_reducible rfl
            rotate_left
            ·simp only [Act.put, List.setIfInBounds_toArray, List.set_cons_zero, List.set_cons_succ, i64_w, i32_w]
             rfl
            refine pure_ (i := 4) (N := some 81) (v := ?_) (a' := ?_) #[true, true, true, true, true, false, false, false, false, false, false] rfl rfl (any_of HT_.out (by kernel_rfl)) (fun _ _ _ h => h) (Or.inl ⟨by rfl, ?_⟩) ?_ ?_
            rotate_left
            ·intro w'
             go_simp
             with_reducible rfl
            rotate_left
            ·simp only [Act.put, List.setIfInBounds_toArray, List.set_cons_zero, List.set_cons_succ, i64_w, i32_w]
             rfl
            refine pure_ (i := 6) (N := some 83) (v := ?_) (a' := ?_) #[true, true, true, true, true, false, true, false, false, false, false] rfl rfl (any_of HT_.out (by kernel_rfl)) (fun _ _ _ h => h) (Or.inl ⟨by rfl, ?_⟩) ?_ ?_
            rotate_left
            ·intro w'
             go_simp
             with_reducible rfl
            rotate_left
            ·simp only [Act.put, List.setIfInBounds_toArray, List.set_cons_zero, List.set_cons_succ, i64_w, i32_w]
             rfl
            refine pure_ (i := 7) (N := some 84) (v := ?_) (a' := ?_) #[true, true, true, true, true, false, true, true, false, false, false] rfl rfl (any_of HT_.out (by kernel_rfl)) (fun _ _ _ h => h) (Or.inl ⟨by rfl, ?_⟩) ?_ ?_
            rotate_left
            ·intro w'
             go_simp
             with_reducible rfl
            rotate_left
            ·simp only [Act.put, List.setIfInBounds_toArray, List.set_cons_zero, List.set_cons_succ, i64_w, i32_w]
             rfl
            refine pure_ (i := 8) (N := some 85) (v := ?_) (a' := ?_) #[true, true, true, true, true, false, true, true, true, false, false] rfl rfl (any_of HT_.out (by kernel_rfl)) (fun _ _ _ h => h) (Or.inl ⟨by rfl, ?_⟩) ?_ ?_
            rotate_left
            ·intro w'
             go_simp
             with_reducible rfl
            rotate_left
            ·simp only [Act.put, List.setIfInBounds_toArray, List.set_cons_zero, List.set_cons_succ, i64_w, i32_w]
             rfl
            refine one_ (i := 5) (N := some 82) #[true, true, true, true, true, true, true, true, true, false, false] rfl rfl (one_of HT_.out (by kernel_rfl)) (by decide) (fun K hK => ?_)
            refine goes_ Try.func40 (by kernel_rfl) rfl #[.string t101, .string t102, .slice A56 y127.length c56] (by rfl) rfl rfl (by (try simp only [List.map_toArray, List.map_cons, List.map_nil]); first | done | rfl | (simp only [List.length_drop, List.length_take]; rfl)) ?_
            with_reducible refine (mac_Chain.calls t101 t102 _ _ y127 t131 _ ?side1 ?side2 A51.out).mono ?_
            (case side1 => repeat (first | exact (by repeat (first | (with_reducible exact HR130.out) | (with_reducible refine Kd.C_alloc ?_ _) | (with_reducible refine Kd.C_drewN ?_ _) | (with_reducible refine Kd.C_drew ?_) | exact HR130.out)) | (with_reducible refine Kd.C_alloc ?_ _) | (with_reducible refine Kd.C_drewN ?_ _) | (with_reducible refine Kd.C_drew ?_)))
            (case side2 => exact HC130.out)
            rintro e w59 ⟨v132, rfl, ho0, hb⟩
            refine ⟨_, rfl, ?_⟩
            have n0_ := Aside0.mk (Kd.R_elder' (by (with_reducible repeat (first | apply Kd.R_alloc | apply Kd.R_drewN | apply Kd.R_drew)); exact HO_2.out) (Kd.R_base ho0) hb)
            have n1_ := Aside0.mk (Kd.R_elder' (by (with_reducible repeat (first | apply Kd.R_alloc | apply Kd.R_drewN | apply Kd.R_drew)); exact HO_9.out) (Kd.R_base ho0) hb)
            have n2_ := Aside0.mk (Kd.R_elder' (by (with_reducible repeat (first | apply Kd.R_alloc | apply Kd.R_drewN | apply Kd.R_drew)); exact HO_47.out) (Kd.R_base ho0) hb)
            have n3_ := Aside0.mk (Kd.R_lower (Kd.R_new' (Kd.R_new' (Kd.R_new' ho0 (Kd.R_lt (by (with_reducible repeat (first | apply Kd.R_alloc | apply Kd.R_drewN | apply Kd.R_drew)); exact HO_2.out))) (Kd.R_lt (by (with_reducible repeat (first | apply Kd.R_alloc | apply Kd.R_drewN | apply Kd.R_drew)); exact HO_9.out))) (Kd.R_lt (by (with_reducible repeat (first | apply Kd.R_alloc | apply Kd.R_drewN | apply Kd.R_drew)); exact HO_47.out))) (below_size (by repeat (first | (with_reducible first | exact HB.out | apply below_alloc | apply pw_below_drewN | apply below_drew1) | exact HB.out))))
            have n4_ := Aside0.mk (Kd.C_below (by repeat (first | (with_reducible exact HR130.out) | (with_reducible refine Kd.C_alloc ?_ _) | (with_reducible refine Kd.C_drewN ?_ _) | (with_reducible refine Kd.C_drew ?_) | exact HR130.out)) hb)
            have n5_ := Aside0.mk (Kd.C_below (by repeat (first | (with_reducible exact HR137.out) | (with_reducible refine Kd.C_alloc ?_ _) | (with_reducible refine Kd.C_drewN ?_ _) | (with_reducible refine Kd.C_drew ?_) | exact HR137.out)) hb)
            have n6_ := Aside0.mk (below_step (by repeat (first | (with_reducible first | exact HB.out | apply below_alloc | apply pw_below_drewN | apply below_drew1) | exact HB.out)) hb)
            clear HO_2
            clear HO_9
            clear HO_47
            clear HR130
            clear HR137
            clear HB
            have HO_2 := n0_
            have HO_9 := n1_
            have HO_47 := n2_
            have HO133 := n3_
            have HR130 := n4_
            have HR137 := n5_
            have HB := n6_
            clear n0_ n1_ n2_ n3_ n4_ n5_ n6_
            (try clear hb)
            (try clear hb2)
            (try clear hk)
            (try clear hi)
            (try clear ho0)
            obtain ⟨Ao60, co60, eo60⟩ := Kd.R_slice HO133.out
            (first | subst eo60 | (injection eo60 with f1_ f2_ f3_; have f4_ := f1_.symm; have f5_ := f3_.symm; clear f1_ f2_ f3_; subst f4_; subst f5_))
            refine hK.out _ _ trivial (fun hHeld => ?_)
            clear hK K
            refine norm_ (a' := ?_) ?_ ?_
            rotate_left
            ·show Act.put _ (some 82) _ = _
             simp only [Act.put, List.setIfInBounds_toArray, List.set_cons_zero, List.set_cons_succ, i64_w, i32_w]
             rfl
            refine one_ (i := 9) (N := some 86) #[true, true, true, true, true, true, true, true, true, true, false] rfl rfl (one_of HT_.out (by kernel_rfl)) (by decide) (fun K hK => ?_)
            refine goes_ Try.func39 (by kernel_rfl) rfl #[.slice Ao60 t131.length co60, .slice A57 y134.length c57] (by rfl) rfl rfl (by (try simp only [List.map_toArray, List.map_cons, List.map_nil]); first | done | rfl | (simp only [List.length_drop, List.length_take]; rfl)) ?_
            with_reducible refine (saltusref04_Same.calls _ _ t131 _ _ y134 t138 _ ?side1 ?side2 ?side3 ?side4 A54.out).mono ?_
            (case side1 => repeat (first | exact (Kd.R_reads' HO133.out).2.2 | (with_reducible refine Kd.C_alloc ?_ _) | (with_reducible refine Kd.C_drewN ?_ _) | (with_reducible refine Kd.C_drew ?_)))
            (case side2 => exact (Kd.R_reads' HO133.out).2.1)
            (case side3 => repeat (first | exact (by repeat (first | (with_reducible exact HR137.out) | (with_reducible refine Kd.C_alloc ?_ _) | (with_reducible refine Kd.C_drewN ?_ _) | (with_reducible refine Kd.C_drew ?_) | exact HR137.out)) | (with_reducible refine Kd.C_alloc ?_ _) | (with_reducible refine Kd.C_drewN ?_ _) | (with_reducible refine Kd.C_drew ?_)))
            (case side4 => exact HC137.out)
            rintro e w' ⟨rfl, ⟨nd, rfl⟩⟩
            refine ⟨_, rfl, ?_⟩
            refine hK.out _ _ trivial (fun hHeld => ?_)
            clear hK K
            refine norm_ (a' := ?_) ?_ ?_
            rotate_left
            ·show Act.put _ (some 86) _ = _
             simp only [Act.put, List.setIfInBounds_toArray, List.set_cons_zero, List.set_cons_succ, i64_w, i32_w]
             rfl
            refine pure_ (i := 10) (N := some 8) (v := ?_) (a' := ?_) #[true, true, true, true, true, true, true, true, true, true, true] rfl rfl (any_of HT_.out (by kernel_rfl)) (fun _ _ _ h => h) (Or.inl ⟨by rfl, ?_⟩) ?_ ?_
            rotate_left
            ·intro w'
             go_simp
             with_reducible rfl
            rotate_left
            ·simp only [Act.put, List.setIfInBounds_toArray, List.set_cons_zero, List.set_cons_succ, i64_w, i32_w]
             rfl
            refine done_ (done_of HT_.out (by kernel_rfl)) ?_
            try go_wp2
            go_ret
            exact ⟨by first | rfl | (simp [errW_none, errW_some] <;> rfl) | (simp only [← hji48]; first | rfl | (simp [errW_none, errW_some] <;> rfl)) | (simp [*, errW_none, errW_some] <;> rfl), by repeat (first | (with_reducible first | exact HB.out | apply below_alloc | apply pw_below_drewN | apply below_drew1) | exact HB.out)⟩
           ·rw [if_neg c53] at H
            exact absurd H (by simp)
          ·rw [if_neg c50] at H
           exact absurd H (by simp)
         ·rw [if_neg c49] at H
          exact absurd H (by simp)
end Go.Proofs.Ytolbhliepkcihaa.QMO
end
section
namespace Go.Proofs.Ytolbhliepkcihaa.QMC
open Go.RowKit Go.Proofs.YtolbhliepkcihaaW.PrintWords Go.Proofs.YtolbhliepkcihaaW.PrintLast Go.Proofs.YtolbhliepkcihaaW.PrintMore
attribute [local go_sem] max2_int min2_int max_two min_two max_three min_three max_four min_four   -- for this text's walks alone
set_option linter.unusedVariables false
set_option linter.unusedSimpArgs false
def errW : Option Int → Value
 | none => .nilIface
 | some c => .iface 0 (.int .i64 c)
theorem errW_none : errW none = .nilIface := rfl
theorem errW_some (c : Int) : errW (some c) = .iface 0 (.int .i64 c) := rfl
-- the values' own types
end Go.Proofs.Ytolbhliepkcihaa.QMC
end
section
namespace Go.Proofs.Ytolbhliepkcihaa.QMC
open Go.RowKit Go.Proofs.YtolbhliepkcihaaW.PrintWords Go.Proofs.YtolbhliepkcihaaW.PrintLast Go.Proofs.YtolbhliepkcihaaW.PrintMore
attribute [local go_sem] max2_int min2_int max_two min_two max_three min_three max_four min_four   -- for this text's walks alone
set_option linter.unusedVariables false
set_option linter.unusedSimpArgs false
/-! ### saltuslaw04_MacChains: function 9 -/
def saltuslaw04_MacChains.f (a0 : ByteArray) (a1 : ByteArray) (l2 : List ByteArray) : Option (Bool) := (saltuslaw04_cut.f a0).bind fun t101 => ((saltuslaw04_cut.f a1).bind fun t102 => ((saltuslaw04_few.f l2).bind fun t103 => ((saltuslaw04_alive.f).bind fun t106 => (if t106 = true then ((mac_Chain.f t101 t102 t103).bind fun t107 => ((saltusref04_Chain.f t101 t102 t103).bind fun t110 => ((saltusref04_Same.f t107 t110).bind fun t113 => (some t113)))) else (some false)))))
set_option maxHeartbeats 8000000 in
set_option maxRecDepth 100000 in
theorem saltuslaw04_MacChains.calls (a0 : ByteArray) (a1 : ByteArray) (A2 : Option Addr) (c2 : Nat) (l2 : List ByteArray) (r : Bool) (w : World) (hr2 : Kd.C Kd.string w A2 l2.length l2) (hc2 : l2.length ≤ c2) (hr : Aside0 (r = true)) (h : saltuslaw04_MacChains.f a0 a1 l2 = some r) :
  Calls Try.prog 9 #[.string a0, .string a1, .slice A2 l2.length c2] w fun e w' => e = .returned (.bool r) ∧ Below w.heap.size w w' := by
 have HR2 := Aside0.mk hr2
 have HC2 := Aside0.mk hc2
 clear hr2 hc2
 have HB := Aside0.mk (Below.refl w.heap.size w)
 have H : ((saltuslaw04_cut.f a0).bind fun t101 => ((saltuslaw04_cut.f a1).bind fun t102 => ((saltuslaw04_few.f l2).bind fun t103 => ((saltuslaw04_alive.f).bind fun t106 => (if t106 = true then ((mac_Chain.f t101 t102 t103).bind fun t107 => ((saltusref04_Chain.f t101 t102 t103).bind fun t110 => ((saltusref04_Same.f t107 t110).bind fun t113 => (some t113)))) else (some false)))))) = some r := h
 clear h
 replace H := Option.bind_eq_some_iff.mp H
 obtain ⟨t101, A40, H⟩ := H
 (try dsimp only at H)
 have A4 := Aside0.mk A40
 clear A40
 replace H := Option.bind_eq_some_iff.mp H
 obtain ⟨t102, A50, H⟩ := H
 (try dsimp only at H)
 have A5 := Aside0.mk A50
 clear A50
 replace H := Option.bind_eq_some_iff.mp H
 obtain ⟨t103, A60, H⟩ := H
 (try dsimp only at H)
 have A6 := Aside0.mk A60
 clear A60
 replace H := Option.bind_eq_some_iff.mp H
 obtain ⟨t106, A70, H⟩ := H
 (try dsimp only at H)
 have A7 := Aside0.mk A70
 clear A70
 by_cases c8 : t106 = true
 ·subst c8
  have H1 : ((mac_Chain.f t101 t102 t103).bind fun t107 => ((saltusref04_Chain.f t101 t102 t103).bind fun t110 => ((saltusref04_Same.f t107 t110).bind fun t113 => (some t113)))) = some r := by rw [if_pos rfl] at H; exact H
  clear H
  have H := H1
  clear H1
  replace H := Option.bind_eq_some_iff.mp H
  obtain ⟨t107, A90, H⟩ := H
  (try dsimp only at H)
  have A9 := Aside0.mk A90
  clear A90
  replace H := Option.bind_eq_some_iff.mp H
  obtain ⟨t110, A100, H⟩ := H
  (try dsimp only at H)
  have A10 := Aside0.mk A100
  clear A100
  replace H := Option.bind_eq_some_iff.mp H
  obtain ⟨t113, A110, H⟩ := H
  (try dsimp only at H)
  have A11 := Aside0.mk A110
  clear A110
  obtain rfl := Option.some.inj H
  go_enter Try.func9, Try.ntmps9
  go_wp2_with (first | ((with_reducible refine gate_callee (f := 33) rfl ?_); refine goesL_ (some 8) rfl rfl Try.func33 (by kernel_rfl) rfl #[.string a0] rfl (by (try simp only [List.map_toArray, List.map_cons, List.map_nil]); first | done | rfl | (simp only [List.length_drop, List.length_take]; rfl)) ?_; (with_reducible refine (saltuslaw04_cut.calls a0 t101 _ A4.out).mono ?_); rintro e w12 ⟨rfl, hb⟩; refine ⟨_, rfl, ?_⟩; have n0_ := Aside0.mk (below_step (by repeat (first | (with_reducible first | exact HB.out | apply below_alloc | apply pw_below_drewN | apply below_drew1) | exact HB.out)) hb); clear HB; have HB := n0_; clear n0_; (try clear hb); (try clear hb2); (try clear hk); (try clear hi)) | ((with_reducible refine gate_callee (f := 33) rfl ?_); refine goesL_ (some 10) rfl rfl Try.func33 (by kernel_rfl) rfl #[.string a1] rfl (by (try simp only [List.map_toArray, List.map_cons, List.map_nil]); first | done | rfl | (simp only [List.length_drop, List.length_take]; rfl)) ?_; (with_reducible refine (saltuslaw04_cut.calls a1 t102 _ A5.out).mono ?_); rintro e w13 ⟨rfl, hb⟩; refine ⟨_, rfl, ?_⟩; have n0_ := Aside0.mk (below_step (by repeat (first | (with_reducible first | exact HB.out | apply below_alloc | apply pw_below_drewN | apply below_drew1) | exact HB.out)) hb); clear HB; have HB := n0_; clear n0_; (try clear hb); (try clear hb2); (try clear hk); (try clear hi)) | ((with_reducible refine gate_callee (f := 38) rfl ?_); refine goesL_ (some 12) rfl rfl Try.func38 (by kernel_rfl) rfl #[.slice A2 l2.length c2] rfl (by (try simp only [List.map_toArray, List.map_cons, List.map_nil]); first | done | rfl | (simp only [List.length_drop, List.length_take]; rfl)) ?_; (with_reducible refine (saltuslaw04_few.calls _ _ l2 t103 _ ?side1 ?side2 A6.out).mono ?_); (case side1 => repeat (first | exact (Kd.C_below HR2.out HB.out) | (with_reducible refine Kd.C_alloc ?_ _) | (with_reducible refine Kd.C_drewN ?_ _) | (with_reducible refine Kd.C_drew ?_))); (case side2 => exact HC2.out); rintro e w14 ⟨v104, rfl, ho0, hb⟩; refine ⟨_, rfl, ?_⟩; have n0_ := Aside0.mk (Kd.R_lower ho0 (below_size (by repeat (first | (with_reducible first | exact HB.out | apply below_alloc | apply pw_below_drewN | apply below_drew1) | exact HB.out)))); have n1_ := Aside0.mk (below_step (by repeat (first | (with_reducible first | exact HB.out | apply below_alloc | apply pw_below_drewN | apply below_drew1) | exact HB.out)) hb); clear HB; have HO105 := n0_; have HB := n1_; clear n0_ n1_; (try clear hb); (try clear hb2); (try clear hk); (try clear hi); (try clear ho0)) | ((with_reducible refine gate_callee (f := 35) rfl ?_); refine goesL_ (some 13) rfl rfl Try.func35 (by kernel_rfl) rfl #[] rfl (by (try simp only [List.map_toArray, List.map_cons, List.map_nil]); first | done | rfl | (simp only [List.length_drop, List.length_take]; rfl)) ?_; (with_reducible refine (saltuslaw04_alive.calls  true _ A7.out).mono ?_); rintro e w15 ⟨rfl, hb⟩; refine ⟨_, rfl, ?_⟩; have n0_ := Aside0.mk (Kd.R_below (by (with_reducible repeat (first | apply Kd.R_alloc | apply Kd.R_drewN | apply Kd.R_drew)); exact HO105.out) hb); have n1_ := Aside0.mk (below_step (by repeat (first | (with_reducible first | exact HB.out | apply below_alloc | apply pw_below_drewN | apply below_drew1) | exact HB.out)) hb); clear HO105; clear HB; have HO105 := n0_; have HB := n1_; clear n0_ n1_; (try clear hb); (try clear hb2); (try clear hk); (try clear hi); obtain ⟨Ao16, co16, eo16⟩ := Kd.R_slice HO105.out; subst eo16) | (go_at_call 40; (with_reducible refine (mac_Chain.calls t101 t102 _ _ t103 t107 _ ?side1 ?side2 A9.out).mono ?_); (case side1 => repeat (first | exact (Kd.R_reads' HO105.out).2.2 | (with_reducible refine Kd.C_alloc ?_ _) | (with_reducible refine Kd.C_drewN ?_ _) | (with_reducible refine Kd.C_drew ?_))); (case side2 => exact (Kd.R_reads' HO105.out).2.1); rintro e w17 ⟨v108, rfl, ho0, hb⟩; have n0_ := Aside0.mk (Kd.R_elder' (by (with_reducible repeat (first | apply Kd.R_alloc | apply Kd.R_drewN | apply Kd.R_drew)); exact HO105.out) (Kd.R_base ho0) hb); have n1_ := Aside0.mk (Kd.R_lower (Kd.R_new' ho0 (Kd.R_lt (by (with_reducible repeat (first | apply Kd.R_alloc | apply Kd.R_drewN | apply Kd.R_drew)); exact HO105.out))) (below_size (by repeat (first | (with_reducible first | exact HB.out | apply below_alloc | apply pw_below_drewN | apply below_drew1) | exact HB.out)))); have n2_ := Aside0.mk (below_step (by repeat (first | (with_reducible first | exact HB.out | apply below_alloc | apply pw_below_drewN | apply below_drew1) | exact HB.out)) hb); clear HO105; clear HB; have HO105 := n0_; have HO109 := n1_; have HB := n2_; clear n0_ n1_ n2_; (try clear hb); (try clear hb2); (try clear hk); (try clear hi); (try clear ho0)) | (go_at_call 41; (with_reducible refine (saltusref04_Chain.calls t101 t102 _ _ t103 t110 _ ?side1 ?side2 A10.out).mono ?_); (case side1 => repeat (first | exact (Kd.R_reads' HO105.out).2.2 | (with_reducible refine Kd.C_alloc ?_ _) | (with_reducible refine Kd.C_drewN ?_ _) | (with_reducible refine Kd.C_drew ?_))); (case side2 => exact (Kd.R_reads' HO105.out).2.1); rintro e w18 ⟨v111, rfl, ho0, hb⟩; have n0_ := Aside0.mk (Kd.R_elder' (by (with_reducible repeat (first | apply Kd.R_alloc | apply Kd.R_drewN | apply Kd.R_drew)); exact HO105.out) (Kd.R_base ho0) hb); have n1_ := Aside0.mk (Kd.R_elder' (by (with_reducible repeat (first | apply Kd.R_alloc | apply Kd.R_drewN | apply Kd.R_drew)); exact HO109.out) (Kd.R_base ho0) hb); have n2_ := Aside0.mk (Kd.R_lower (Kd.R_new' (Kd.R_new' ho0 (Kd.R_lt (by (with_reducible repeat (first | apply Kd.R_alloc | apply Kd.R_drewN | apply Kd.R_drew)); exact HO105.out))) (Kd.R_lt (by (with_reducible repeat (first | apply Kd.R_alloc | apply Kd.R_drewN | apply Kd.R_drew)); exact HO109.out))) (below_size (by repeat (first | (with_reducible first | exact HB.out | apply below_alloc | apply pw_below_drewN | apply below_drew1) | exact HB.out)))); have n3_ := Aside0.mk (below_step (by repeat (first | (with_reducible first | exact HB.out | apply below_alloc | apply pw_below_drewN | apply below_drew1) | exact HB.out)) hb); clear HO105; clear HO109; clear HB; have HO105 := n0_; have HO109 := n1_; have HO112 := n2_; have HB := n3_; clear n0_ n1_ n2_ n3_; (try clear hb); (try clear hb2); (try clear hk); (try clear hi); (try clear ho0); obtain ⟨Ao19, co19, eo19⟩ := Kd.R_slice HO109.out; subst eo19; obtain ⟨Ao20, co20, eo20⟩ := Kd.R_slice HO112.out; subst eo20) | (go_at_call 39; (with_reducible refine (saltusref04_Same.calls _ _ t107 _ _ t110 t113 _ ?side1 ?side2 ?side3 ?side4 A11.out).mono ?_); (case side1 => repeat (first | exact (Kd.R_reads' HO109.out).2.2 | (with_reducible refine Kd.C_alloc ?_ _) | (with_reducible refine Kd.C_drewN ?_ _) | (with_reducible refine Kd.C_drew ?_))); (case side2 => exact (Kd.R_reads' HO109.out).2.1); (case side3 => repeat (first | exact (Kd.R_reads' HO112.out).2.2 | (with_reducible refine Kd.C_alloc ?_ _) | (with_reducible refine Kd.C_drewN ?_ _) | (with_reducible refine Kd.C_drew ?_))); (case side4 => exact (Kd.R_reads' HO112.out).2.1); rintro e w' ⟨rfl, ⟨nd, rfl⟩⟩))
  go_ret
  exact ⟨by first | rfl | (simp [errW_none, errW_some] <;> rfl) | (simp [*, errW_none, errW_some] <;> rfl), by repeat (first | (with_reducible first | exact HB.out | apply below_alloc | apply pw_below_drewN | apply below_drew1) | exact HB.out)⟩
 ·replace c8 := Bool.eq_false_iff.mpr c8
  subst c8
  have H1 : (some false) = some r := by rw [if_neg (show ¬ (false = true) by decide)] at H; exact H
  clear H
  have H := H1
  clear H1
  exact absurd ((Option.some.inj H).trans hr.out) (by decide)
end Go.Proofs.Ytolbhliepkcihaa.QMC
end
section
namespace Go.Proofs.Ytolbhliepkcihaa
open Go.ChangeShapes Go.WideShapes Go.RowKit Go.Proofs.YtolbhliepkcihaaW.PrintWords
theorem row_strs {H : Type} {enc : TypeId × Value → H} {P : Program} {W : World} {base : Nat} {spare : Nat → Bool} {held : Bool} {t e : TypeId} {fuel : Nat} {A : Option Addr} {len cap : Nat} {x : DataW H × List MemPlace}
  (ht : P.underlying t = some (.slice e)) (he : P.underlying e = some .string) (hc : P.cellsOf e = 1) (h : DataW.trod enc P W base spare held fuel t (Value.cells (.slice A len cap)).toList = some x) :
  ∃ l : List ByteArray, l.length = len ∧ len ≤ cap ∧ Kd.C Kd.string W A l.length l := by
 rcases open_strings ht he hc h with ⟨hcs, _⟩ | ⟨a, len', cap', ss, hcs, _, hl, hm, hz, _, hcell, _⟩
 ·simp [Value.cells] at hcs
  obtain ⟨rfl, rfl, rfl⟩ := hcs
  exact ⟨[], rfl, Nat.le_refl _, Kd.C_nil _ _⟩
 ·simp [Value.cells] at hcs
  obtain ⟨rfl, rfl, rfl⟩ := hcs
  have hls : len ≤ ss.length := by
   rw [hz]
   split
   ·exact hl
   ·exact Nat.le_refl _
  have h1 : (ss.take len).length = len := by rw [List.length_take]; omega
  unfold maxLen at hm
  refine ⟨ss.take len, h1, hl, ?_⟩
  rw [h1]
  refine ⟨h1, by omega, fun _ => ⟨a, rfl, fun j p hj => ⟨[.string p], rfl, rfl, fun i u hu => ?_⟩⟩⟩
  have hjl : j < len := by
   have := (List.getElem?_eq_some_iff.1 hj).1
   omega
  match i, hu with
  | 0, hu =>
   have hu : Value.string p = u := by simpa using hu
   subst hu
   rw [List.getElem?_take, if_pos hjl] at hj
   have h2 := hcell j (by omega)
   rw [List.getD_eq_getElem?_getD, hj] at h2
   show W.cell? (a.add (j * 1 + 0)) = _
   rw [Nat.mul_one, Nat.add_zero]
   exact h2
end Go.Proofs.Ytolbhliepkcihaa
end
section
namespace Go.Proofs.Ytolbhliepkcihaa.Pure
open Go.RowKit Go.Proofs.Ytolbhliepkcihaa.QMC Go.Proofs.YtolbhliepkcihaaW.PrintWords Go.Proofs.YtolbhliepkcihaaW.PrintLast Go.Proofs.YtolbhliepkcihaaW.PrintMore Go.Proofs.Ytolbhliepkcihaa.Sha Go.Proofs.Ytolbhliepkcihaa.Mac Go.Proofs.Ytolbhliepkcihaa.Rows4
theorem upto_few (n : Nat) (l : List ByteArray) (hn : n ≤ 1000000) : uptoB 500000000 1000000 (fewN n 200 l) = true :=
 uptoB_of (fun s hs => by have := few_size hs; omega) (by have := few_len n 200 l; omega)
theorem macChains_f (a0 a1 : ByteArray) (l2 : List ByteArray) : saltuslaw04_MacChains.f a0 a1 l2 = some true := by
 have hk := cut_size 200 a0
 have hf := cut_size 200 a1
 have hu := upto_few 8 l2 (by decide)
 unfold saltuslaw04_MacChains.f
 have e0 : saltuslaw04_cut.f a0 = some (cutN 200 a0) := rfl
 have e1 : saltuslaw04_cut.f a1 = some (cutN 200 a1) := rfl
 have e2 : saltuslaw04_few.f l2 = some (fewN 8 200 l2) := rfl
 have e3 : saltuslaw04_alive.f = some true := rfl
 have e4 : mac_Chain.f (cutN 200 a0) (cutN 200 a1) (fewN 8 200 l2) = some (chainS (cutN 200 a0) (cutN 200 a1) (fewN 8 200 l2)) := if_pos ⟨by omega, by omega, hu⟩
 have e5 : saltusref04_Chain.f (cutN 200 a0) (cutN 200 a1) (fewN 8 200 l2) = some (chainS (cutN 200 a0) (cutN 200 a1) (fewN 8 200 l2)) := if_pos ⟨by omega, by omega, hu⟩
 rw [e0, Option.bind_some, e1, Option.bind_some, e2, Option.bind_some, e3, Option.bind_some, if_pos rfl, e4, Option.bind_some, e5, Option.bind_some]
 generalize chainS (cutN 200 a0) (cutN 200 a1) (fewN 8 200 l2) = c
 have e6 : saltusref04_Same.f c c = some true := by
  show some (decide (c = c)) = some true
  rw [decide_eq_true rfl]
 rw [e6]
 rfl
theorem macChains_row (a0 a1 : ByteArray) (A2 : Option Addr) (c2 : Nat) (l2 : List ByteArray) (w : World) (_ : a0.size ≤ 140737488351232) (_ : a1.size ≤ 140737488351232) (hr2 : Kd.C Kd.string w A2 l2.length l2) (hc2 : l2.length ≤ c2) :
  Calls Try.prog 9 #[.string a0, .string a1, .slice A2 l2.length c2] w fun e w' => e = .returned (.bool true) ∧ Below w.heap.size w w' :=
 saltuslaw04_MacChains.calls a0 a1 A2 c2 l2 true w hr2 hc2 ⟨rfl⟩ (macChains_f a0 a1 l2)
end Go.Proofs.Ytolbhliepkcihaa.Pure
end
section
namespace Go.Proofs.Ytolbhliepkcihaa.Pure
open Go.RowKit Go.Proofs.Ytolbhliepkcihaa.QMO Go.Proofs.YtolbhliepkcihaaW.PrintWords Go.Proofs.YtolbhliepkcihaaW.PrintLast Go.Proofs.YtolbhliepkcihaaW.PrintMore Go.Proofs.Ytolbhliepkcihaa.Sha Go.Proofs.Ytolbhliepkcihaa.Mac Go.Proofs.Ytolbhliepkcihaa.Rows4
/-- the text ahead of a place in a chain -/
def ahead (first : ByteArray) (c : List ByteArray) (i : Nat) : ByteArray := if i = 0 then first else rdOf ByteArray.empty c ((i - 1 : Nat) : Int)
theorem chain_drop (key : ByteArray) : ∀ (l : List ByteArray) (first : ByteArray) (k : Nat), k ≤ l.length → (chainS key first l).drop k = chainS key (ahead first (chainS key first l) k) (l.drop k)
 | l, first, 0, _ => rfl
 | s :: l, first, k + 1, h => by
  have ih := chain_drop key l (tagS key (first ++ s)) k (by simpa using h)
  show (chainS key (tagS key (first ++ s)) l).drop k = chainS key (ahead first (tagS key (first ++ s) :: chainS key (tagS key (first ++ s)) l) (k + 1)) (l.drop k)
  rw [ih]
  congr 1
  have hl := chain_len key l (tagS key (first ++ s))
  have hk : k ≤ l.length := by simpa using h
  have r1 : ahead first (tagS key (first ++ s) :: chainS key (tagS key (first ++ s)) l) (k + 1) = rdOf ByteArray.empty (tagS key (first ++ s) :: chainS key (tagS key (first ++ s)) l) ((k : Nat) : Int) := by
   unfold ahead
   rw [if_neg (by omega)]
   rfl
  rw [r1]
  by_cases h0 : k = 0
  ·subst h0
   rfl
  ·obtain ⟨j, rfl⟩ : ∃ j, k = j + 1 := ⟨k - 1, by omega⟩
   unfold ahead
   rw [if_neg (by omega), show j + 1 - 1 = j from rfl, rd_at _ _ j (by omega), rd_at _ _ (j + 1) (by simp; omega)]
   rfl
theorem chain_at (key : ByteArray) (l : List ByteArray) (first : ByteArray) (i : Nat) (h : i < l.length) :
  rdOf ByteArray.empty (chainS key first l) (i : Int) = tagS key (ahead first (chainS key first l) i ++ rdOf ByteArray.empty l (i : Int)) := by
 have h1 := chain_drop key l first i (by omega)
 have hl := chain_len key l first
 rw [rd_drop ByteArray.empty l i h, rd_drop ByteArray.empty (chainS key first l) i (by omega)] at h1
 have h2 : chainS key (ahead first (chainS key first l) i) (rdOf ByteArray.empty l (i : Int) :: l.drop (i + 1)) = tagS key (ahead first (chainS key first l) i ++ rdOf ByteArray.empty l (i : Int)) :: _ := rfl
 rw [h2] at h1
 exact (List.cons.inj h1).1
theorem ahead_size (key : ByteArray) (l : List ByteArray) (first : ByteArray) (hf : first.size ≤ 200) (i : Nat) (h : i ≤ l.length) : (ahead first (chainS key first l) i).size ≤ 200 := by
 unfold ahead
 by_cases h0 : i = 0
 ·rw [if_pos h0]; exact hf
 ·rw [if_neg h0]
  have hl := chain_len key l first
  rw [rd_at _ _ (i - 1) (by omega)]
  have := chain_size key l first _ (List.getElem_mem (l := chainS key first l) (n := i - 1) (by omega))
  omega
theorem goes_end (key first : ByteArray) (l : List ByteArray) (hk : key.size ≤ 200) (hf : first.size ≤ 200) (hu : uptoB 500000000 1000000 l = true) (k : Nat) (h : k ≤ l.length) :
  mac_Chain.f key (ahead first (chainS key first l) k) (l.drop k) = some ((chainS key first l).drop k) := by
 have hs := ahead_size key l first hf k h
 have hu2 := uptoB_out hu
 have hu3 : uptoB 500000000 1000000 (l.drop k) = true := uptoB_of (fun s hs => hu2.1 s (List.mem_of_mem_drop hs)) (by rw [List.length_drop]; omega)
 rw [chain_drop key l first k h]
 exact if_pos ⟨by omega, by omega, hu3⟩
theorem same_self (c : List ByteArray) : saltusref04_Same.f c c = some true := by
 show some (decide (c = c)) = some true
 rw [decide_eq_true rfl]
theorem goes_l0 (key first : ByteArray) (l : List ByteArray) (hk : key.size ≤ 200) (hf : first.size ≤ 200) (hs : ∀ s, s ∈ l → s.size ≤ 200) (hn : l.length ≤ 8) (k : Nat) (hkl : k ≤ l.length) (d : Nat) :
  ∀ (r i : Nat), i + d = l.length → d < r →
  saltuslaw04_MacGoes.l0 r key first l (k : Int) (chainS key first l) (ahead first (chainS key first l) i) l (l.length : Int) (i : Int) = some true := by
 have hu : uptoB 500000000 1000000 l = true := uptoB_of (fun s h => by have := hs s h; omega) (by omega)
 have hl := chain_len key l first
 induction d with
 | zero =>
  intro r i hi hr
  obtain ⟨r, rfl⟩ : ∃ m, r = m + 1 := ⟨r - 1, by omega⟩
  have he := goes_end key first l hk hf hu k hkl
  have hsm := same_self ((chainS key first l).drop k)
  rw [saltuslaw04_MacGoes.l0, if_neg (by omega)]
  by_cases h0 : k = 0
  ·subst h0
   have ea : ahead first (chainS key first l) 0 = first := if_pos rfl
   rw [ea] at he
   rw [if_neg (by omega), if_pos (by omega), if_pos (by omega), Int.toNat_natCast, he, Option.bind_some, if_pos (by omega), hsm]
   rfl
  ·have ew : wrap64 ((k : Int) - 1) = ((k - 1 : Nat) : Int) := by unfold wrap64; omega
   have ea : ahead first (chainS key first l) k = rdOf ByteArray.empty (chainS key first l) ((k - 1 : Nat) : Int) := if_neg h0
   rw [ea] at he
   rw [if_pos (by omega), ew, if_pos (by omega), if_pos (by omega), if_pos (by omega), if_pos (by omega), Int.toNat_natCast, he, Option.bind_some, if_pos (by omega), hsm]
   rfl
 | succ d ih =>
  intro r i hi hr
  obtain ⟨r, rfl⟩ : ∃ m, r = m + 1 := ⟨r - 1, by omega⟩
  have hz := ahead_size key l first hf i (by omega)
  have hx : (rdOf ByteArray.empty l (i : Int)).size ≤ 200 := by rw [rd_at _ l i (by omega)]; exact hs _ (List.getElem_mem (by omega))
  have hc : mac_Check.f key (ahead first (chainS key first l) i ++ rdOf ByteArray.empty l (i : Int)) (rdOf ByteArray.empty (chainS key first l) (i : Int)) = some true := by
   have e : mac_Check.f key (ahead first (chainS key first l) i ++ rdOf ByteArray.empty l (i : Int)) (rdOf ByteArray.empty (chainS key first l) (i : Int)) = some ((rdOf ByteArray.empty (chainS key first l) (i : Int)).toList == (tagS key (ahead first (chainS key first l) i ++ rdOf ByteArray.empty l (i : Int))).toList) :=
    if_pos ⟨by omega, by rw [ByteArray.size_append]; omega⟩
   rw [e, ← chain_at key l first i (by omega), beq_self_eq_true]
  have ea : ahead first (chainS key first l) (i + 1) = rdOf ByteArray.empty (chainS key first l) (i : Int) := by
   unfold ahead
   rw [if_neg (by omega)]
   rfl
  rw [saltuslaw04_MacGoes.l0, if_pos (by omega), if_pos (by omega), if_pos (by omega), if_pos (by omega), if_pos (by omega), hc, Option.bind_some, if_pos rfl, w_succ i l.length (by omega) (by omega), ← ea]
  exact ih r (i + 1) (by omega) (by omega)
theorem place_in (a : Int) (n : Nat) (hn : n ≤ 8) (_ : (Lit.int .i64 a).wf = true) : ∃ k : Nat, k ≤ n ∧ Int.tmod (wrap64 ((wrap64 ((Int.tmod a (wrap64 ((n : Int) + 1))) + (n : Int))) + 1)) (wrap64 ((n : Int) + 1)) = (k : Int) := by
 have e1 : wrap64 ((n : Int) + 1) = (n : Int) + 1 := by unfold wrap64; omega
 rw [e1]
 have h1 := Int.tmod_lt_of_pos a (show 0 < (n : Int) + 1 by omega)
 have h2 : -((n : Int) + 1) < Int.tmod a ((n : Int) + 1) := by
  have h3 := Int.tmod_lt_of_pos (-a) (show 0 < (n : Int) + 1 by omega)
  rw [Int.neg_tmod] at h3
  omega
 generalize Int.tmod a ((n : Int) + 1) = t at *
 have e2 : wrap64 (t + (n : Int)) = t + n := by unfold wrap64; omega
 have e3 : wrap64 (t + n + 1) = t + n + 1 := by unfold wrap64; omega
 rw [e2, e3]
 obtain ⟨m, hm⟩ := Int.eq_ofNat_of_zero_le (show 0 ≤ t + n + 1 by omega)
 rw [hm, Int.tmod_eq_emod_of_nonneg (Int.natCast_nonneg _)]
 exact ⟨m % (n + 1), by have := Nat.mod_lt m (show 0 < n + 1 by omega); omega, rfl⟩
theorem macGoes_f (a0 a1 : ByteArray) (l2 : List ByteArray) (a3 : Int) (ha : (Lit.int .i64 a3).wf = true) : saltuslaw04_MacGoes.f 20 a0 a1 l2 a3 = some true := by
 have hk := cut_size 200 a0
 have hf := cut_size 200 a1
 have hs : ∀ s, s ∈ fewN 8 200 l2 → s.size ≤ 200 := fun s h => few_size h
 have hn := few_len 8 200 l2
 have hu := upto_few 8 l2 (by decide)
 unfold saltuslaw04_MacGoes.f
 have e0 : saltuslaw04_cut.f a0 = some (cutN 200 a0) := rfl
 have e1 : saltuslaw04_cut.f a1 = some (cutN 200 a1) := rfl
 have e2 : saltuslaw04_few.f l2 = some (fewN 8 200 l2) := rfl
 have e3 : saltuslaw04_alive.f = some true := rfl
 rw [e0, Option.bind_some, e1, Option.bind_some, e2, Option.bind_some]
 generalize cutN 200 a0 = key at *
 generalize cutN 200 a1 = first at *
 generalize fewN 8 200 l2 = l at *
 have e4 : mac_Chain.f key first l = some (chainS key first l) := if_pos ⟨by omega, by omega, hu⟩
 have hl := chain_len key l first
 obtain ⟨k, hkl, ek⟩ := place_in a3 l.length hn ha
 have ew : wrap64 ((l.length : Int) + 1) ≠ 0 := by unfold wrap64; omega
 have h0 := goes_l0 key first l hk hf hs hn k hkl l.length 19 0 (by omega) (by omega)
 have ea : ahead first (chainS key first l) 0 = first := if_pos rfl
 rw [ea, show ((0 : Nat) : Int) = 0 from rfl] at h0
 rw [if_neg ew, e4, Option.bind_some, if_pos (by omega), e3, Option.bind_some, ek, saltuslaw04_MacGoes.j0, if_neg (by decide)]
 exact h0
theorem macGoes_row (a0 a1 : ByteArray) (A2 : Option Addr) (c2 : Nat) (l2 : List ByteArray) (a3 : Int) (w : World) (_ : a0.size ≤ 140737488351232) (_ : a1.size ≤ 140737488351232) (hr2 : Kd.C Kd.string w A2 l2.length l2) (hc2 : l2.length ≤ c2) (h3 : (Lit.int .i64 a3).wf = true) :
  Calls Try.prog 11 #[.string a0, .string a1, .slice A2 l2.length c2, .int .i64 a3] w fun e w' => e = .returned (.bool true) ∧ Below w.heap.size w w' :=
 saltuslaw04_MacGoes.calls 20 a0 a1 A2 c2 l2 a3 true w hr2 hc2 ⟨rfl⟩ (macGoes_f a0 a1 l2 a3 h3)
end Go.Proofs.Ytolbhliepkcihaa.Pure
end
