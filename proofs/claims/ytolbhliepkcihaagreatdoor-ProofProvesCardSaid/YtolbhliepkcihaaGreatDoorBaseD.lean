/- Joined by a program of this session (wip/pack.py) for this claim: QMTx0, QMTx1, MacPure, MacStub2. -/
import Derived.Test.YtolbhliepkcihaaGreatDoorProg
import Derived.Below
import Derived.Deep.Draws
import Derived.Deep.AppendLies
import Derived.Maps.AppendAt
import Derived.OwnWalk
import Derived.Laws.BytesArg
import Derived.Laws.MakeOwn
import Derived.Laws.OwnMore
import Derived.Deep.OwnRows
import Derived.Tactics
import Derived.Lib.ConvBytes
import Derived.Laws.Slices
import Derived.WalkKit
import Derived.KernelRfl
import Derived.RowKit3
import Derived.Deep.LoopGhost
import Derived.Deep.QuietTactic
import Derived.BigQuiet
import Derived.WideLaws
import Derived.Deep.DeepCutAuto
import Derived.Deep.CutBlock
import Derived.Deep.RegionHeld3
import Derived.Laws.Rows
import Derived.Lib.AppendStr
import Derived.ArgAppend
import Derived.Laws.IdiomCopy
import Derived.OrdersHeld
import Derived.Laws.BitsLemmas
import Derived.RowKit
import Derived.Test.YtolbhliepkcihaaGreatDoorBaseC
import Derived.Test.YtolbhliepkcihaaGreatDoorPWa
section
namespace Go.Proofs.YtolbhliepkcihaaGreatDoor.QMT
open Go.RowKit YtolbhliepkcihaaGreatDoorW.PrintWords YtolbhliepkcihaaGreatDoorW.PrintLast YtolbhliepkcihaaGreatDoorW.PrintMore
attribute [local go_sem] max2_int min2_int max_two min_two max_three min_three max_four min_four   -- for this text's walks alone
set_option linter.unusedVariables false
set_option linter.unusedSimpArgs false
def errW : Option Int → Value
 | none => .nilIface
 | some c => .iface 0 (.int .i64 c)
theorem errW_none : errW none = .nilIface := rfl
theorem errW_some (c : Int) : errW (some c) = .iface 0 (.int .i64 c) := rfl
end Go.Proofs.YtolbhliepkcihaaGreatDoor.QMT
end
section
namespace Go.Proofs.YtolbhliepkcihaaGreatDoor.QMT
open Go.RowKit YtolbhliepkcihaaGreatDoorW.PrintWords YtolbhliepkcihaaGreatDoorW.PrintLast YtolbhliepkcihaaGreatDoorW.PrintMore
attribute [local go_sem] max2_int min2_int max_two min_two max_three min_three max_four min_four   -- for this text's walks alone
set_option linter.unusedVariables false
set_option linter.unusedSimpArgs false
/-! ### mac_Tag: function 46 -/
def mac_Tag.f (a0 : ByteArray) (a1 : ByteArray) : Option (ByteArray) := (mac_keys.f a0).bind fun bt101 => ((mac_of.f (([bt101.1, a1] : List ByteArray))).bind fun t106 => ((mac_of.f (([bt101.2, t106] : List ByteArray))).bind fun t110 => (some t110)))
set_option maxHeartbeats 8000000 in
set_option maxRecDepth 100000 in
theorem mac_Tag.calls (a0 : ByteArray) (a1 : ByteArray) (r : ByteArray) (w : World) (h : mac_Tag.f a0 a1 = some r) :
  Calls Tryz.prog 46 #[.string a0, .string a1] w fun e w' => e = .returned (.string r) ∧ Below w.heap.size w w' := by
 have HB := qf (Below.refl w.heap.size w); have H : ((mac_keys.f a0).bind fun bt101 => ((mac_of.f (([bt101.1, a1] : List ByteArray))).bind fun t106 => ((mac_of.f (([bt101.2, t106] : List ByteArray))).bind fun t110 => (some t110)))) = some r := h; clear h; replace H := qi H; obtain ⟨⟨t101, t102⟩, A30, H⟩ := H
 (try dsimp only at H)
 have A3 := qf A30; clear A30
 obtain ⟨y103, hy103⟩ : ∃ y_ : List ByteArray, y_ = (([t101, a1] : List ByteArray)) := ⟨_, rfl⟩
 replace H : ((mac_of.f y103).bind fun t106 => ((mac_of.f (([t102, t106] : List ByteArray))).bind fun t110 => (some t110))) = some r := by first | (rw [hy103]; with_reducible exact H) | (have H2_ := (qv _ _).symm.trans H; rw [hy103]; with_reducible exact H2_) | (have H2_ := (qv _ _).symm.trans H; with_reducible exact H2_) | with_reducible exact H | (rw [hy103]; exact H) | exact H
 have Ny103 := qf hy103; clear hy103; replace H := qi H; obtain ⟨t106, A40, H⟩ := H
 (try dsimp only at H)
 have A4 := qf A40; clear A40
 obtain ⟨y107, hy107⟩ : ∃ y_ : List ByteArray, y_ = (([t102, t106] : List ByteArray)) := ⟨_, rfl⟩
 replace H : ((mac_of.f y107).bind fun t110 => (some t110)) = some r := by first | (rw [hy107]; with_reducible exact H) | (have H2_ := (qv _ _).symm.trans H; rw [hy107]; with_reducible exact H2_) | (have H2_ := (qv _ _).symm.trans H; with_reducible exact H2_) | with_reducible exact H | (rw [hy107]; exact H) | exact H
 have Ny107 := qf hy107; clear hy107; replace H := qi H; obtain ⟨t110, A50, H⟩ := H
 (try dsimp only at H)
 have A5 := qf A50; clear A50; obtain rfl := Option.some.inj H
 go_enter Tryz.func46, Tryz.ntmps46
 go_wp2_with (first | ((with_reducible refine gate_callee (f := 67) rfl ?_); refine goesL_ (some 9) rfl rfl Tryz.func67 (by kernel_rfl) rfl #[.string a0] rfl (by (try simp only [List.map_toArray, List.map_cons, List.map_nil]); first | done | rfl | (simp only [List.length_drop, qw]; rfl)) ?_; (with_reducible refine (mac_keys.calls a0 t101 t102 _ A3.out).mono ?_); rintro e w6 ⟨rfl, hb⟩; refine ⟨_, rfl, ?_⟩; have n0_ := qf (below_step (by repeat (first | (with_reducible first | exact HB.out | apply qa | apply qb | apply qc) | exact HB.out)) hb); clear HB; have HB := n0_; clear n0_; (try clear hb); (try clear hi)) | ((with_reducible refine gate_dst (N := 15) rfl ?_); refine Kd.R_lit Kd.string _ 9 ?hg (N := 15) ?hd (xs := ([t101, a1] : List ByteArray)) (inner := [.string t101, .string a1]) (ok := fun _ => True) (okp := fun _ => True) ?hr ?hp (fun _ hk => hk) trivial (Below.refl _ _) (Nat.le_refl _) (by simp) ?_; (case hd => rfl); (case hg => rfl); (case hr => first | (go_simp; done) | (go_simp; rfl)); (case hp => exact (Reps.one (show Kd.M Kd.string _ _ _ t101 [.string t101] from rfl) (Reps.one (show Kd.M Kd.string _ _ _ a1 [.string a1] from rfl) (Reps.none _ _)))); intro v104 w7 ho8 hb hg_ hnew_; clear hg_ hnew_; (first | rw [← Ny103.out] at ho8 | (simp only [Int.reduceToNat] at ho8; rw [← Ny103.out] at ho8)); have n0_ := qf (Kd.R_lower ho8 (below_size (by repeat (first | (with_reducible first | exact HB.out | apply qa | apply qb | apply qc) | exact HB.out)))); have n1_ := qf (below_step (by repeat (first | (with_reducible first | exact HB.out | apply qa | apply qb | apply qc) | exact HB.out)) hb); clear HB; have HO105 := n0_; have HB := n1_; clear n0_ n1_ hb ho8; obtain ⟨Ao9, co9, eo9⟩ := Kd.R_slice HO105.out; subst eo9) | ((with_reducible refine gate_callee (f := 68) rfl ?_); refine goesL_ (some 16) rfl rfl Tryz.func68 (by kernel_rfl) rfl #[.slice Ao9 y103.length co9] rfl (by (try simp only [List.map_toArray, List.map_cons, List.map_nil]); first | done | rfl | (simp only [List.length_drop, qw]; rfl)) ?_; (refine (mac_of_own (by (with_reducible repeat (first | apply Kd.R_alloc | apply Kd.R_drewN | apply Kd.R_drew)); exact HO105.out) A4.out).mono ?_); rintro e w10 ⟨rfl, hb⟩; refine ⟨_, rfl, ?_⟩; have n0_ := qf (Kd.R_below (by (with_reducible repeat (first | apply Kd.R_alloc | apply Kd.R_drewN | apply Kd.R_drew)); exact HO105.out) hb); have n1_ := qf (below_step (by repeat (first | (with_reducible first | exact HB.out | apply qa | apply qb | apply qc) | exact HB.out)) hb); clear HO105 HB; have HO105 := n0_; have HB := n1_; clear n0_ n1_; (try clear hb); (try clear hi)) | ((with_reducible refine gate_dst (N := 17) rfl ?_); refine Kd.R_lit Kd.string _ 9 ?hg (N := 17) ?hd (xs := ([t102, t106] : List ByteArray)) (inner := [.string t102, .string t106]) (ok := fun _ => True) (okp := fun _ => True) ?hr ?hp (fun _ hk => hk) trivial (Below.refl _ _) (Nat.le_refl _) (by simp) ?_; (case hd => rfl); (case hg => rfl); (case hr => first | (go_simp; done) | (go_simp; rfl)); (case hp => exact (Reps.one (show Kd.M Kd.string _ _ _ t102 [.string t102] from rfl) (Reps.one (show Kd.M Kd.string _ _ _ t106 [.string t106] from rfl) (Reps.none _ _)))); intro v108 w11 ho12 hb hg_ hnew_; clear hg_ hnew_; (first | rw [← Ny107.out] at ho12 | (simp only [Int.reduceToNat] at ho12; rw [← Ny107.out] at ho12)); have n0_ := qf (Kd.R_elder' (by (with_reducible repeat (first | apply Kd.R_alloc | apply Kd.R_drewN | apply Kd.R_drew)); exact HO105.out) (Kd.R_base ho12) hb); have n1_ := qf (Kd.R_lower (Kd.R_new' ho12 (Kd.R_lt (by (with_reducible repeat (first | apply Kd.R_alloc | apply Kd.R_drewN | apply Kd.R_drew)); exact HO105.out))) (below_size (by repeat (first | (with_reducible first | exact HB.out | apply qa | apply qb | apply qc) | exact HB.out)))); have n2_ := qf (below_step (by repeat (first | (with_reducible first | exact HB.out | apply qa | apply qb | apply qc) | exact HB.out)) hb); clear HO105 HB; have HO105 := n0_; have HO109 := n1_; have HB := n2_; clear n0_ n1_ n2_ hb ho12; obtain ⟨Ao13, co13, eo13⟩ := Kd.R_slice HO109.out; subst eo13) | ((with_reducible refine gate_callee (f := 68) rfl ?_); refine goesL_ (some 18) rfl rfl Tryz.func68 (by kernel_rfl) rfl #[.slice Ao13 y107.length co13] rfl (by (try simp only [List.map_toArray, List.map_cons, List.map_nil]); first | done | rfl | (simp only [List.length_drop, qw]; rfl)) ?_; (refine (mac_of_own (by (with_reducible repeat (first | apply Kd.R_alloc | apply Kd.R_drewN | apply Kd.R_drew)); exact HO109.out) A5.out).mono ?_); rintro e w14 ⟨rfl, hb⟩; refine ⟨_, rfl, ?_⟩; have n0_ := qf (Kd.R_below (by (with_reducible repeat (first | apply Kd.R_alloc | apply Kd.R_drewN | apply Kd.R_drew)); exact HO105.out) hb); have n1_ := qf (Kd.R_below (by (with_reducible repeat (first | apply Kd.R_alloc | apply Kd.R_drewN | apply Kd.R_drew)); exact HO109.out) hb); have n2_ := qf (below_step (by repeat (first | (with_reducible first | exact HB.out | apply qa | apply qb | apply qc) | exact HB.out)) hb); clear HO105 HO109 HB; have HO105 := n0_; have HO109 := n1_; have HB := n2_; clear n0_ n1_ n2_; (try clear hb); (try clear hi)))
 go_ret; exact ⟨by first | rfl | (simp [errW_none, errW_some] <;> rfl) | (simp [*, errW_none, errW_some] <;> rfl), by repeat (first | (with_reducible first | exact HB.out | apply qa | apply qb | apply qc) | exact HB.out)⟩
/-! ### saltusref04_fitted: function 103 -/
mutual
def saltusref04_fitted.j0 : Nat → ByteArray → Option (ByteArray)
 | 0, _ => none
 | k + 1, x0 => saltusref04_fitted.l0 k x0
def saltusref04_fitted.l0 : Nat → ByteArray → Option (ByteArray)
 | 0, _ => none
 | k + 1, x0 => if (x0.size : Int) < 64 then ((some (([0] : List Int) : List Int)).bind fun y112 => (if x0.size + (strOfNums y112).size ≤ 9223372036854775807 then (saltusref04_fitted.l0 k (x0 ++ (strOfNums y112))) else (none))) else (some x0)
end
def saltusref04_fitted.f (k : Nat) (a0 : ByteArray) : Option (ByteArray) := if (a0.size : Int) > 64 then ((saltusref03_Sum.f a0).bind fun t111 => (saltusref04_fitted.j0 k t111)) else (saltusref04_fitted.j0 k a0)
set_option maxHeartbeats 8000000 in
set_option maxRecDepth 100000 in
theorem saltusref04_fitted.calls (k : Nat) (a0 : ByteArray) (r : ByteArray) (w : World) (h : saltusref04_fitted.f k a0 = some r) :
  Calls Tryz.prog 103 #[.string a0] w fun e w' => e = .returned (.string r) ∧ Below w.heap.size w w' := by
 have HB := qf (Below.refl w.heap.size w); have H : (if (a0.size : Int) > 64 then ((saltusref03_Sum.f a0).bind fun t111 => (saltusref04_fitted.j0 k t111)) else (saltusref04_fitted.j0 k a0)) = some r := h; clear h; have HC2 := qf H; clear H
 go_enter Tryz.func103, Tryz.ntmps103
 go_upto_if 5 with (fail)
 go_cut [0] (fun v0 wc => ∃ (kq : Nat) (x0_1 : ByteArray), v0 = .string x0_1 ∧ Aside0 (saltusref04_fitted.j0 kq x0_1 = some r) ∧ Aside0 (kq ≤ k) ∧ Aside0 (Below w.heap.size w wc))
 case first =>
  have H := HC2.out; clear HC2
  by_cases c3 : (a0.size : Int) > 64
  ·rw [if_pos c3] at H; have c3b0 := qj c3; have c3b1 : decide (64 < a0.size) = true := qj (by omega); clear c3
   (first | rw [c3b0] | (simp only [i64_w, i32_w]; rw [c3b0]) | skip)
   replace H := qi H; obtain ⟨t111, A40, H⟩ := H
   (try dsimp only at H)
   have A4 := qf A40; clear A40; have H' := qf H; clear H
   go_wp2_with (first | ((with_reducible refine gate_callee (f := 41) rfl ?_); refine goesL_ (some 7) rfl rfl Tryz.func41 (by kernel_rfl) rfl #[.string a0] rfl (by (try simp only [List.map_toArray, List.map_cons, List.map_nil]); first | done | rfl | (simp only [List.length_drop, qw]; rfl)) ?_; (with_reducible refine (saltusref03_Sum.calls a0 t111 _ A4.out).mono ?_); rintro e w5 ⟨rfl, hb⟩; refine ⟨_, rfl, ?_⟩; have n0_ := qf (below_step (by repeat (first | (with_reducible first | exact HB.out | apply qa | apply qb | apply qc) | exact HB.out)) hb); clear HB; have HB := n0_; clear n0_; (try clear hb); (try clear hi)))
   go_meet
   case rel => exact ⟨_, (t111), (by first | rfl | (simp; done) | (simp [*]; done)), H', ⟨by first | omega | exact Nat.le_refl _⟩, ⟨by repeat (first | (with_reducible first | exact HB.out | apply qa | apply qb | apply qc) | exact HB.out)⟩⟩
  ·rw [if_neg c3] at H; have c3b0 := decide_eq_false c3; have c3b1 : decide (64 < a0.size) = false := decide_eq_false (by omega); clear c3
   (first | rw [c3b0] | (simp only [i64_w, i32_w]; rw [c3b0]) | skip)
   have H' := qf H; clear H; go_wp2
   go_meet
   case rel => exact ⟨_, (a0), (by first | rfl | (simp; done) | (simp [*]; done)), H', ⟨by first | omega | exact Nat.le_refl _⟩, ⟨by repeat (first | (with_reducible first | exact HB.out | apply qa | apply qb | apply qc) | exact HB.out)⟩⟩
 case rest =>
  clear HC2; (try clear c1); (try clear p2); (try clear c3); (try clear c3b0); (try clear c3b1); (try clear c4); obtain ⟨kq, x0_1, rfl, HA, HJ1, HB⟩ := hcut
  cases kq with
  | zero => exact absurd HA.out (by simp [saltusref04_fitted.j0])
  | succ kj1 =>
   have H := HA.out; clear HA; simp only [saltusref04_fitted.j0] at H; have H' := qf H; clear H; go_wp2
   go_loopg [0] kj1 (fun kq v0 w' => ∃ (x0_2 : ByteArray), v0 = .string x0_2 ∧ Aside0 (saltusref04_fitted.l0 kq x0_2 = some r) ∧ Aside0 (kq ≤ kj1) ∧ Aside0 (Below w.heap.size w w'))
   case atStart => exact ⟨(x0_1), (by first | rfl | (simp; done) | (simp [*]; done)), H', ⟨Nat.le_refl _⟩, ⟨by repeat (first | (with_reducible first | exact HB.out | apply qa | apply qb | apply qc) | exact HB.out)⟩⟩
   case round =>
    clear H'; (try clear c1); (try clear p2); (try clear c3); (try clear c3b0); (try clear c3b1); (try clear c4); (try clear p2); obtain ⟨x0_2, rfl, HA, HK2, HB⟩ := hrel
    cases gk with
    | zero => exact absurd HA.out (by simp [saltusref04_fitted.l0])
    | succ k2 =>
     have H := HA.out; clear HA; simp only [saltusref04_fitted.l0] at H
     by_cases c6 : (x0_2.size : Int) < 64
     ·rw [if_pos c6] at H; have c6b0 := qj c6; have c6b1 : decide (x0_2.size < 64) = true := qj (by omega); clear c6
      obtain ⟨y112, hy112⟩ : ∃ y_ : List Int, y_ = (([0] : List Int)) := ⟨_, rfl⟩
      replace H : (if x0_2.size + (strOfNums y112).size ≤ 9223372036854775807 then (saltusref04_fitted.l0 k2 (x0_2 ++ (strOfNums y112))) else (none)) = some r := by first | (rw [hy112]; with_reducible exact H) | (have H2_ := (qv _ _).symm.trans H; rw [hy112]; with_reducible exact H2_) | (have H2_ := (qv _ _).symm.trans H; with_reducible exact H2_) | with_reducible exact H | (rw [hy112]; exact H) | exact H
      have Ny112 := qf hy112; clear hy112
      by_cases c7 : x0_2.size + (strOfNums y112).size ≤ 9223372036854775807
      ·rw [if_pos c7] at H; have c7b0 := eq_true c7; have c7b1 := qj c7
       try have c7b2 : (9223372036854775807 < x0_2.size + (strOfNums y112).size) = False := eq_false (Nat.not_lt.2 c7)
       have H' := qf H; clear H
       go_wp2_with (first | ((with_reducible refine gate_dst (N := 12) rfl ?_); refine Kd.R_lit (Kd.int .u8) _ 5 ?hg (N := 12) ?hd (xs := ([0] : List Int)) (inner := [.int .u8 0]) (ok := fun _ => True) (okp := fun _ => True) ?hr ?hp (fun _ hk => hk) trivial (Below.refl _ _) (Nat.le_refl _) (by simp) ?_; (case hd => rfl); (case hg => rfl); (case hr => first | (go_simp; done) | (go_simp; rfl)); (case hp => exact (Reps.one (show Kd.M (Kd.int .u8) _ _ _ 0 [.int .u8 0] from rfl) (Reps.none _ _))); intro v113 w8 ho9 hb hg_ hnew_; clear hg_ hnew_; (first | rw [← Ny112.out] at ho9 | (simp only [Int.reduceToNat] at ho9; rw [← Ny112.out] at ho9)); have n0_ := qf (Kd.R_lower ho9 (below_size (by repeat (first | (with_reducible first | exact HB.out | apply qa | apply qb | apply qc) | exact HB.out)))); have n1_ := qf (below_step (by repeat (first | (with_reducible first | exact HB.out | apply qa | apply qb | apply qc) | exact HB.out)) hb); clear HB; have HO114 := n0_; have HB := n1_; clear n0_ n1_ hb ho9; have hcv10 := own_string (P := Tryz.prog) Tryz.underlying74 Tryz.underlying5 Tryz.underlying9 (Kd.own_of_R HO114.out)))
       go_roundg k2
       case measure => have := HJ1.out; have := HK2.out; omega
       case rel => exact ⟨(x0_2 ++ (strOfNums y112)), (by first | rfl | (simp; done) | (simp [*]; done)), H', ⟨by have := HJ1.out; have := HK2.out; omega⟩, ⟨by repeat (first | (with_reducible first | exact HB.out | apply qa | apply qb | apply qc) | exact HB.out)⟩⟩
      ·rw [if_neg c7] at H; exact absurd H (by simp)
     ·rw [if_neg c6] at H; have c6b0 := decide_eq_false c6; have c6b1 : decide (x0_2.size < 64) = false := decide_eq_false (by omega); clear c6; obtain rfl := Option.some.inj H; go_wp2; go_ret; exact ⟨by first | rfl | (simp [errW_none, errW_some] <;> rfl) | (simp [*, errW_none, errW_some] <;> rfl), by repeat (first | (with_reducible first | exact HB.out | apply qa | apply qb | apply qc) | exact HB.out)⟩
/-! ### saltusref04_with: function 104 -/
def saltusref04_with.l0 : Nat → ByteArray → Int → ByteArray → Int → Option (ByteArray)
 | 0, _, _, _, _ => none
 | k + 1, x0, x1, x5, x6 => if x6 < (x0.size : Int) then (if 0 ≤ x6 then ((some (([Go.bits .xor .u8 (bt x0 x6) x1] : List Int) : List Int)).bind fun y115 => (if x5.size + (strOfNums y115).size ≤ 9223372036854775807 then (saltusref04_with.l0 k x0 x1 (x5 ++ (strOfNums y115)) (wrap64 (x6 + 1))) else (none))) else (none)) else (some x5)
def saltusref04_with.f (k : Nat) (a0 : ByteArray) (a1 : Int) : Option (ByteArray) := saltusref04_with.l0 k a0 a1 (⟨#[]⟩ : ByteArray) 0
set_option maxHeartbeats 8000000 in
set_option maxRecDepth 100000 in
theorem saltusref04_with.calls (k : Nat) (a0 : ByteArray) (a1 : Int) (r : ByteArray) (w : World) (h : saltusref04_with.f k a0 a1 = some r) :
  Calls Tryz.prog 104 #[.string a0, .int .u8 a1] w fun e w' => e = .returned (.string r) ∧ Below w.heap.size w w' := by
 have HB := qf (Below.refl w.heap.size w); have H : (saltusref04_with.l0 k a0 a1 (⟨#[]⟩ : ByteArray) 0) = some r := h; clear h; have H' := qf H; clear H
 go_enter Tryz.func104, Tryz.ntmps104
 go_wp2
 go_loopg [5, 6] k (fun kq v5 v6 w' => ∃ (x5_1 : ByteArray) (x6_1 : Int), v5 = .string x5_1 ∧ v6 = .int .i64 x6_1 ∧ Aside0 (saltusref04_with.l0 kq a0 a1 x5_1 x6_1 = some r) ∧ Aside0 (kq ≤ k) ∧ Aside0 (Below w.heap.size w w'))
 case atStart => exact ⟨((⟨#[]⟩ : ByteArray)), (0), (by first | rfl | (simp; done) | (simp [*]; done)), (by first | rfl | (simp; done) | (simp [*]; done)), H', ⟨Nat.le_refl _⟩, ⟨by repeat (first | (with_reducible first | exact HB.out | apply qa | apply qb | apply qc) | exact HB.out)⟩⟩
 case round =>
  clear H'; (try clear c1); (try clear p2); obtain ⟨x5_1, x6_1, rfl, rfl, HA, HK1, HB⟩ := hrel
  cases gk with
  | zero => exact absurd HA.out (by simp [saltusref04_with.l0])
  | succ k1 =>
   have H := HA.out; clear HA; simp only [saltusref04_with.l0] at H
   by_cases c3 : x6_1 < (a0.size : Int)
   ·rw [if_pos c3] at H; have c3b0 := qj c3; clear c3
    by_cases c4 : 0 ≤ x6_1
    ·rw [if_pos c4] at H; have c4b0 := qj c4; clear c4
     obtain ⟨y115, hy115⟩ : ∃ y_ : List Int, y_ = (([Go.bits .xor .u8 (bt a0 x6_1) a1] : List Int)) := ⟨_, rfl⟩
     replace H : (if x5_1.size + (strOfNums y115).size ≤ 9223372036854775807 then (saltusref04_with.l0 k1 a0 a1 (x5_1 ++ (strOfNums y115)) (wrap64 (x6_1 + 1))) else (none)) = some r := by first | (rw [hy115]; with_reducible exact H) | (have H2_ := (qv _ _).symm.trans H; rw [hy115]; with_reducible exact H2_) | (have H2_ := (qv _ _).symm.trans H; with_reducible exact H2_) | with_reducible exact H | (rw [hy115]; exact H) | exact H
     have Ny115 := qf hy115; clear hy115
     by_cases c6 : x5_1.size + (strOfNums y115).size ≤ 9223372036854775807
     ·rw [if_pos c6] at H; have c6b0 := eq_true c6; have c6b1 := qj c6
      try have c6b2 : (9223372036854775807 < x5_1.size + (strOfNums y115).size) = False := eq_false (Nat.not_lt.2 c6)
      have H' := qf H; clear H; have p5 : 0 ≤ (x6_1 : Int) := qe (by with_reducible assumption); have q5 : x6_1 < (a0.size : Int) := qe (by with_reducible assumption); have hx5 := bt_at a0 x6_1; replace p5 := eq_true p5; replace q5 := eq_true q5
      go_wp2_with (first | ((with_reducible refine gate_dst (N := 19) rfl ?_); refine Kd.R_lit (Kd.int .u8) _ 5 ?hg (N := 19) ?hd (xs := ([Go.bits .xor .u8 (bt a0 x6_1) a1] : List Int)) (inner := [.int .u8 (Go.bits .xor .u8 (bt a0 x6_1) a1)]) (ok := fun _ => True) (okp := fun _ => True) ?hr ?hp (fun _ hk => hk) trivial (Below.refl _ _) (Nat.le_refl _) (by simp) ?_; (case hd => rfl); (case hg => rfl); (case hr => first | (go_simp; done) | (go_simp; rfl)); (case hp => exact (Reps.one (show Kd.M (Kd.int .u8) _ _ _ (Go.bits .xor .u8 (bt a0 x6_1) a1) [.int .u8 (Go.bits .xor .u8 (bt a0 x6_1) a1)] from rfl) (Reps.none _ _))); intro v116 w7 ho8 hb hg_ hnew_; clear hg_ hnew_; (first | rw [← Ny115.out] at ho8 | (simp only [Int.reduceToNat] at ho8; rw [← Ny115.out] at ho8)); have n0_ := qf (Kd.R_lower ho8 (below_size (by repeat (first | (with_reducible first | exact HB.out | apply qa | apply qb | apply qc) | exact HB.out)))); have n1_ := qf (below_step (by repeat (first | (with_reducible first | exact HB.out | apply qa | apply qb | apply qc) | exact HB.out)) hb); clear HB; have HO117 := n0_; have HB := n1_; clear n0_ n1_ hb ho8; have hcv9 := own_string (P := Tryz.prog) Tryz.underlying74 Tryz.underlying5 Tryz.underlying9 (Kd.own_of_R HO117.out)))
      go_roundg k1
      case measure => have := HK1.out; omega
      case rel => exact ⟨(x5_1 ++ (strOfNums y115)), (wrap64 (x6_1 + 1)), (by first | rfl | (simp; done) | (simp [*]; done)), (by first | rfl | (simp; done) | (simp [*]; done)), H', ⟨by have := HK1.out; omega⟩, ⟨by repeat (first | (with_reducible first | exact HB.out | apply qa | apply qb | apply qc) | exact HB.out)⟩⟩
     ·rw [if_neg c6] at H; exact absurd H (by simp)
    ·rw [if_neg c4] at H; exact absurd H (by simp)
   ·rw [if_neg c3] at H; have c3b0 := decide_eq_false c3; clear c3; obtain rfl := Option.some.inj H; go_wp2; go_ret; exact ⟨by first | rfl | (simp [errW_none, errW_some] <;> rfl) | (simp [*, errW_none, errW_some] <;> rfl), by repeat (first | (with_reducible first | exact HB.out | apply qa | apply qb | apply qc) | exact HB.out)⟩
/-! ### saltusref04_Tag: function 88 -/
def saltusref04_Tag.f (k : Nat) (a0 : ByteArray) (a1 : ByteArray) : Option (ByteArray) := (saltusref04_fitted.f k a0).bind fun t118 => ((saltusref04_with.f k t118 92).bind fun t119 => ((saltusref04_with.f k t118 54).bind fun t120 => (if t120.size + a1.size ≤ 9223372036854775807 then ((saltusref03_Sum.f (t120 ++ a1)).bind fun t121 => (if t119.size + t121.size ≤ 9223372036854775807 then ((saltusref03_Sum.f (t119 ++ t121)).bind fun t122 => (some t122)) else (none))) else (none))))
set_option maxHeartbeats 8000000 in
set_option maxRecDepth 100000 in
theorem saltusref04_Tag.calls (k : Nat) (a0 : ByteArray) (a1 : ByteArray) (r : ByteArray) (w : World) (h : saltusref04_Tag.f k a0 a1 = some r) :
  Calls Tryz.prog 88 #[.string a0, .string a1] w fun e w' => e = .returned (.string r) ∧ Below w.heap.size w w' := by
 have HB := qf (Below.refl w.heap.size w); have H : ((saltusref04_fitted.f k a0).bind fun t118 => ((saltusref04_with.f k t118 92).bind fun t119 => ((saltusref04_with.f k t118 54).bind fun t120 => (if t120.size + a1.size ≤ 9223372036854775807 then ((saltusref03_Sum.f (t120 ++ a1)).bind fun t121 => (if t119.size + t121.size ≤ 9223372036854775807 then ((saltusref03_Sum.f (t119 ++ t121)).bind fun t122 => (some t122)) else (none))) else (none))))) = some r := h; clear h; replace H := qi H; obtain ⟨t118, A30, H⟩ := H
 (try dsimp only at H)
 have A3 := qf A30; clear A30; replace H := qi H; obtain ⟨t119, A40, H⟩ := H
 (try dsimp only at H)
 have A4 := qf A40; clear A40; replace H := qi H; obtain ⟨t120, A50, H⟩ := H
 (try dsimp only at H)
 have A5 := qf A50; clear A50
 by_cases c6 : t120.size + a1.size ≤ 9223372036854775807
 ·rw [if_pos c6] at H; have c6b0 := eq_true c6; have c6b1 := qj c6
  try have c6b2 : (9223372036854775807 < t120.size + a1.size) = False := eq_false (Nat.not_lt.2 c6)
  replace H := qi H; obtain ⟨t121, A70, H⟩ := H
  (try dsimp only at H)
  have A7 := qf A70; clear A70
  by_cases c8 : t119.size + t121.size ≤ 9223372036854775807
  ·rw [if_pos c8] at H; have c8b0 := eq_true c8; have c8b1 := qj c8
   try have c8b2 : (9223372036854775807 < t119.size + t121.size) = False := eq_false (Nat.not_lt.2 c8)
   replace H := qi H; obtain ⟨t122, A90, H⟩ := H
   (try dsimp only at H)
   have A9 := qf A90; clear A90; obtain rfl := Option.some.inj H
   go_enter Tryz.func88, Tryz.ntmps88
   go_wp2_with (first | ((with_reducible refine gate_callee (f := 103) rfl ?_); refine goesL_ (some 7) rfl rfl Tryz.func103 (by kernel_rfl) rfl #[.string a0] rfl (by (try simp only [List.map_toArray, List.map_cons, List.map_nil]); first | done | rfl | (simp only [List.length_drop, qw]; rfl)) ?_; (with_reducible refine (saltusref04_fitted.calls k a0 t118 _ A3.out).mono ?_); rintro e w10 ⟨rfl, hb⟩; refine ⟨_, rfl, ?_⟩; have n0_ := qf (below_step (by repeat (first | (with_reducible first | exact HB.out | apply qa | apply qb | apply qc) | exact HB.out)) hb); clear HB; have HB := n0_; clear n0_; (try clear hb); (try clear hi)) | ((with_reducible refine gate_callee (f := 104) rfl ?_); refine goesL_ (some 9) rfl rfl Tryz.func104 (by kernel_rfl) rfl #[.string t118, .int .u8 92] rfl (by (try simp only [List.map_toArray, List.map_cons, List.map_nil]); first | done | rfl | (simp only [List.length_drop, qw]; rfl)) ?_; (with_reducible refine (saltusref04_with.calls k t118 92 t119 _ A4.out).mono ?_); rintro e w11 ⟨rfl, hb⟩; refine ⟨_, rfl, ?_⟩; have n0_ := qf (below_step (by repeat (first | (with_reducible first | exact HB.out | apply qa | apply qb | apply qc) | exact HB.out)) hb); clear HB; have HB := n0_; clear n0_; (try clear hb); (try clear hi)) | ((with_reducible refine gate_callee (f := 104) rfl ?_); refine goesL_ (some 11) rfl rfl Tryz.func104 (by kernel_rfl) rfl #[.string t118, .int .u8 54] rfl (by (try simp only [List.map_toArray, List.map_cons, List.map_nil]); first | done | rfl | (simp only [List.length_drop, qw]; rfl)) ?_; (with_reducible refine (saltusref04_with.calls k t118 54 t120 _ A5.out).mono ?_); rintro e w12 ⟨rfl, hb⟩; refine ⟨_, rfl, ?_⟩; have n0_ := qf (below_step (by repeat (first | (with_reducible first | exact HB.out | apply qa | apply qb | apply qc) | exact HB.out)) hb); clear HB; have HB := n0_; clear n0_; (try clear hb); (try clear hi)) | ((with_reducible refine gate_callee (f := 41) rfl ?_); refine goesL_ (some 14) rfl rfl Tryz.func41 (by kernel_rfl) rfl #[.string (t120 ++ a1)] rfl (by (try simp only [List.map_toArray, List.map_cons, List.map_nil]); first | done | rfl | (simp only [List.length_drop, qw]; rfl)) ?_; (with_reducible refine (saltusref03_Sum.calls (t120 ++ a1) t121 _ A7.out).mono ?_); rintro e w13 ⟨rfl, hb⟩; refine ⟨_, rfl, ?_⟩; have n0_ := qf (below_step (by repeat (first | (with_reducible first | exact HB.out | apply qa | apply qb | apply qc) | exact HB.out)) hb); clear HB; have HB := n0_; clear n0_; (try clear hb); (try clear hi)) | ((with_reducible refine gate_callee (f := 41) rfl ?_); refine goesL_ (some 16) rfl rfl Tryz.func41 (by kernel_rfl) rfl #[.string (t119 ++ t121)] rfl (by (try simp only [List.map_toArray, List.map_cons, List.map_nil]); first | done | rfl | (simp only [List.length_drop, qw]; rfl)) ?_; (with_reducible refine (saltusref03_Sum.calls (t119 ++ t121) t122 _ A9.out).mono ?_); rintro e w14 ⟨rfl, hb⟩; refine ⟨_, rfl, ?_⟩; have n0_ := qf (below_step (by repeat (first | (with_reducible first | exact HB.out | apply qa | apply qb | apply qc) | exact HB.out)) hb); clear HB; have HB := n0_; clear n0_; (try clear hb); (try clear hi)))
   go_ret; exact ⟨by first | rfl | (simp [errW_none, errW_some] <;> rfl) | (simp [*, errW_none, errW_some] <;> rfl), by repeat (first | (with_reducible first | exact HB.out | apply qa | apply qb | apply qc) | exact HB.out)⟩
  ·rw [if_neg c8] at H; exact absurd H (by simp)
 ·rw [if_neg c6] at H; exact absurd H (by simp)
end Go.Proofs.YtolbhliepkcihaaGreatDoor.QMT
end
section
namespace Go.Proofs.YtolbhliepkcihaaGreatDoor.MacPure
open Go.RowKit QMT YtolbhliepkcihaaGreatDoorW.PrintWords YtolbhliepkcihaaGreatDoorW.PrintLast YtolbhliepkcihaaGreatDoorW.PrintMore Sha Mac
theorem ref_fitted (d : Nat) : ∀ (k : Nat) (x : ByteArray), x.size + d = 64 → d < k → saltusref04_fitted.l0 k x = some (x ++ ofNats (List.replicate d 0)) := by
 induction d with
 | zero =>
  intro k x hx hk
  obtain ⟨k, rfl⟩ : ∃ m, k = m + 1 := ⟨k - 1, by omega⟩
  rw [saltusref04_fitted.l0, if_neg (by omega)]
  congr 1
  have : ofNats (List.replicate 0 0) = ByteArray.empty := rfl; rw [this, ByteArray.append_empty]
 | succ d ih =>
  intro k x hx hk
  obtain ⟨k, rfl⟩ : ∃ m, k = m + 1 := ⟨k - 1, by omega⟩
  rw [saltusref04_fitted.l0, if_pos (by omega)]; simp only [qv]; have e : strOfNums [(0 : Int)] = ofNats [0] := ofNats_eq [0]; have h1 : (ofNats [0]).size = 1 := rfl; rw [e, if_pos (by omega), ih k _ (by rw [ByteArray.size_append]; omega) (by omega), ByteArray.append_assoc, ofNats_append]; rfl
theorem ref_fit (key : ByteArray) (hk : key.size ≤ 1000000000) (k : Nat) (h : 100 < k) : saltusref04_fitted.f k key = some (fitS key) := by
 obtain ⟨k, rfl⟩ : ∃ m, k = m + 1 := ⟨k - 1, by omega⟩
 unfold saltusref04_fitted.f fitS; have hs := short_size key
 by_cases hl : key.size > 64
 rotate_left
 ·have e : shortS key = key := if_neg hl; rw [e] at hs ⊢; rw [if_neg (by omega), saltusref04_fitted.j0]; exact ref_fitted (64 - key.size) k _ (by omega) (by omega)
 have e : shortS key = sumS key := if_pos hl; rw [e] at hs ⊢; rw [if_pos (by omega), refsum_f key (by omega)]; simp only [qv]; rw [saltusref04_fitted.j0]; exact ref_fitted (64 - (sumS key).size) k _ (by omega) (by omega)
theorem ref_with_l0 (x : ByteArray) (hx : x.size = 64) (c : Nat) (hc : c < 256) (d : Nat) : ∀ (k t : Nat), d + t = 64 → d < k →
  saltusref04_with.l0 k x (c : Int) (ofNats ((List.range t).map fun i => bn x i ^^^ c)) (t : Int) = some (xorS x c) := by
 induction d with
 | zero =>
  intro k t ht hk
  obtain ⟨k, rfl⟩ : ∃ m, k = m + 1 := ⟨k - 1, by omega⟩
  obtain rfl : t = 64 := by omega
  rw [saltusref04_with.l0, if_neg (by omega)]; rfl
 | succ d ih =>
  intro k t ht hk
  obtain ⟨k, rfl⟩ : ∃ m, k = m + 1 := ⟨k - 1, by omega⟩
  have e : strOfNums [((bn x t ^^^ c : Nat) : Int)] = ofNats [bn x t ^^^ c] := ofNats_eq [bn x t ^^^ c]
  have w1 : wrap64 ((t : Int) + 1) = ((t + 1 : Nat) : Int) := by unfold wrap64; omega
  rw [saltusref04_with.l0, if_pos (by omega), if_pos (by omega)]; simp only [qv]; rw [bt_bn, Mac.x8 _ _ (bn_lt x t) hc, e, if_pos (by rw [ofNats_size, ofNats_size]; simp; omega), ofNats_append, w1]
  have e2 : (List.range t).map (fun i => bn x i ^^^ c) ++ [bn x t ^^^ c] = (List.range (t + 1)).map fun i => bn x i ^^^ c := by rw [List.range_succ, List.map_append]; rfl
  rw [e2]; exact ih k (t + 1) (by omega) (by omega)
theorem ref_with (x : ByteArray) (hx : x.size = 64) (c : Nat) (hc : c < 256) (k : Nat) (hk : 100 < k) : saltusref04_with.f k x (c : Int) = some (xorS x c) :=
 ref_with_l0 x hx c hc 64 k 0 rfl (by omega)
theorem ref_tag (key s : ByteArray) (hk : key.size ≤ 1000000000) (hs : s.size ≤ 1000000000) (k : Nat) (h : 200 < k) : saltusref04_Tag.f k key s = some (tagS key s) := by
 unfold saltusref04_Tag.f; have h92 := ref_with (fitS key) (fit_size key) 92 (by decide) k (by omega); have h54 := ref_with (fitS key) (fit_size key) 54 (by decide) k (by omega); rw [show ((92 : Nat) : Int) = 92 from rfl] at h92; rw [show ((54 : Nat) : Int) = 54 from rfl] at h54; rw [ref_fit key hk k (by omega)]; simp only [qv]; rw [h92]; simp only [qv]; rw [h54]; simp only [qv]; have z1 := xor_size (fitS key) 54; have z2 := xor_size (fitS key) 92; rw [if_pos (by omega), refsum_f _ (by rw [ByteArray.size_append]; omega)]; simp only [qv]; rw [if_pos (by rw [sumS_size]; omega), refsum_f _ (by rw [ByteArray.size_append, sumS_size]; omega)]; rfl
theorem of_two (a b : ByteArray) (h : a.size + b.size ≤ 1099511627776) : mac_of.f [a, b] = some (sumS (a ++ b)) := if_pos h
theorem tag_f (key s : ByteArray) (hk : key.size ≤ 1000000000) (hs : s.size ≤ 1000000000) : mac_Tag.f key s = some (tagS key s) := by
 have h1 : mac_keys.f key = some (xorS (fitS key) 54, xorS (fitS key) 92) := if_pos (by omega); have z1 := xor_size (fitS key) 54; have z2 := xor_size (fitS key) 92; have h2 : mac_of.f [xorS (fitS key) 54, s] = some (sumS (xorS (fitS key) 54 ++ s)) := if_pos (by omega); have h3 : mac_of.f [xorS (fitS key) 92, sumS (xorS (fitS key) 54 ++ s)] = some (sumS (xorS (fitS key) 92 ++ sumS (xorS (fitS key) 54 ++ s))) := of_two _ _ (by rw [sumS_size]; omega); unfold mac_Tag.f; rw [h1]; simp only [qv]; rw [h2]; simp only [qv]; rw [h3]; rfl
end Go.Proofs.YtolbhliepkcihaaGreatDoor.MacPure
end
section
namespace Go.Proofs.YtolbhliepkcihaaGreatDoor
open Go.RowKit YtolbhliepkcihaaGreatDoorW.PrintWords YtolbhliepkcihaaGreatDoorW.PrintLast YtolbhliepkcihaaGreatDoorW.PrintMore Sha Mac MacPure
def mac_Tag.f (a0 a1 : ByteArray) : Option ByteArray := if a0.size ≤ 1000000000 ∧ a1.size ≤ 1000000000 then some (tagS a0 a1) else none
theorem mac_Tag.calls (a0 a1 : ByteArray) (r : ByteArray) (w : World) (h : mac_Tag.f a0 a1 = some r) :
  Calls Tryz.prog 46 #[.string a0, .string a1] w fun e w' => e = .returned (.string r) ∧ Below w.heap.size w w' := by
 unfold mac_Tag.f at h
 split at h
 ·rename_i hc; obtain rfl := Option.some.inj h; exact QMT.mac_Tag.calls a0 a1 _ w (tag_f a0 a1 hc.1 hc.2)
 ·cases h
def saltusref04_Tag.f (a0 a1 : ByteArray) : Option ByteArray := if a0.size ≤ 1000000000 ∧ a1.size ≤ 1000000000 then some (tagS a0 a1) else none
theorem saltusref04_Tag.calls (a0 a1 : ByteArray) (r : ByteArray) (w : World) (h : saltusref04_Tag.f a0 a1 = some r) :
  Calls Tryz.prog 88 #[.string a0, .string a1] w fun e w' => e = .returned (.string r) ∧ Below w.heap.size w w' := by
 unfold saltusref04_Tag.f at h
 split at h
 ·rename_i hc; obtain rfl := Option.some.inj h; exact QMT.saltusref04_Tag.calls 201 a0 a1 _ w (ref_tag a0 a1 hc.1 hc.2 201 (by decide))
 ·cases h
end Go.Proofs.YtolbhliepkcihaaGreatDoor
end
