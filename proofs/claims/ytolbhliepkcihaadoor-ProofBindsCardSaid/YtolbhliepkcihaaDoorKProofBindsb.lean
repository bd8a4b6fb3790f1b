/- Joined by a program of this session (wip/pack.py) for this claim: QSFx3, QSFx4, QSFx5, SkipPure, SkipPure2, SkipPure3, QSQx0, QSQx3, QSQx1, QSQx2, SkipOps, SkipCon, LabTop, LabTop2, LabStub2, ProofMay, QPAx0, QPAx1, QPAx2, QPAx3, ProofPure, BindPure, ProofPure2, ProofStub, BindAll, ProvePure, ProvePure2, ProveIdx, Prove0, ProveDel, ProveTok. -/
import Derived.Test.YtolbhliepkcihaaDoorKProofBindsa
import Derived.Test.YtolbhliepkcihaaDoorProg
import Derived.Below
import Derived.Deep.Draws
import Derived.Deep.AppendLies
import Derived.Maps.AppendAt
import Derived.OwnWalk
import Derived.Laws.BytesArg
import Derived.Laws.MakeOwn
import Derived.Laws.OwnMore
import Derived.Deep.OwnRows
import Derived.Tactics
import Derived.Lib.ConvBytes
import Derived.Laws.Slices
import Derived.WalkKit
import Derived.KernelRfl
import Derived.RowKit3
import Derived.Deep.LoopGhost
import Derived.Deep.QuietTactic
import Derived.BigQuiet
import Derived.WideLaws
import Derived.Deep.DeepCutAuto
import Derived.Deep.CutBlock
import Derived.Deep.RegionHeld3
import Derived.Laws.Rows
import Derived.Lib.AppendStr
import Derived.ArgAppend
import Derived.Laws.IdiomCopy
import Derived.OrdersHeld
import Derived.Laws.BitsLemmas
import Derived.RowKit
import Derived.Test.YtolbhliepkcihaaDoorBaseH
import Derived.Test.YtolbhliepkcihaaDoorPWa
import Derived.Sort.OwnSortedInts
import Derived.Lib.SliceRun
section
namespace Go.Proofs.YtolbhliepkcihaaDoor.QSF
open Go.RowKit Kinds YtolbhliepkcihaaDoorW.PrintWords YtolbhliepkcihaaDoorW.PrintLast YtolbhliepkcihaaDoorW.PrintMore
attribute [local go_sem] max2_int min2_int max_two min_two max_three min_three max_four min_four   -- for this text's walks alone
set_option linter.unusedVariables false
set_option linter.unusedSimpArgs false
attribute [local go_sem high] eqA48
/-! ### saltusref16_Right: function 25 -/
/-! ### saltuslaw16_alive: function 26 -/
/-! ### saltusref16_Floor: function 27 -/
/-! ### saltusref16_HopsSame: function 28 -/
/-! ### saltusref15_Height: function 18 -/
def saltusref15_Height.l0 : Nat → Int → Int → Option (Int)
 | 0, _, _ => none
 | k + 1, x5, x6 => if (Int.tmod x5 2) = 0 then (if x6 < 8 then (saltusref15_Height.l0 k (IntKind.u64.wrap (Int.tdiv x5 2)) (wrap64 (x6 + 1))) else (some x6)) else (some x6)
def saltusref15_Height.f (k : Nat) (a0 : ByteArray) (a1 : Int) : Option (Int) := (saltusref02_Low.f a1 8).bind fun t137 => ((saltusref10_Word.f a0 t137).bind fun t138 => (saltusref15_Height.l0 k t138 1))
set_option maxHeartbeats 8000000 in
set_option maxRecDepth 100000 in
theorem saltusref15_Height.calls (k : Nat) (a0 : ByteArray) (a1 : Int) (r : Int) (w : World) (h : saltusref15_Height.f k a0 a1 = some r) :
  Calls Tryd.prog 18 #[.string a0, .int .u64 a1] w fun e w' => e = .returned (.int .i64 r) ∧ Below w.heap.size w w' := by
 have HB := qf (Below.refl w.heap.size w); have H : ((saltusref02_Low.f a1 8).bind fun t137 => ((saltusref10_Word.f a0 t137).bind fun t138 => (saltusref15_Height.l0 k t138 1))) = some r := h; clear h; replace H := qi H; obtain ⟨t137, A30, H⟩ := H
 (try dsimp only at H)
 have A3 := qf A30; clear A30; replace H := qi H; obtain ⟨t138, A40, H⟩ := H
 (try dsimp only at H)
 have A4 := qf A40; clear A40; have H' := qf H; clear H
 go_enter Tryd.func18, Tryd.ntmps18
 go_wp2_with (first | ((with_reducible refine gate_callee (f := 64) rfl ?_); refine goesL_ (some 9) rfl rfl Tryd.func64 (by kernel_rfl) rfl #[.int .u64 a1, .int .i64 8] rfl (by (try simp only [List.map_toArray, List.map_cons, List.map_nil]); first | done | rfl | (simp only [List.length_drop, qw]; rfl)) ?_; (with_reducible refine (saltusref02_Low.calls a1 8 t137 _ A3.out).mono ?_); rintro e w5 ⟨rfl, hb⟩; refine ⟨_, rfl, ?_⟩; have n0_ := qf (below_step (by repeat (first | (with_reducible first | exact HB.out | apply qa | apply qb | apply qc) | exact HB.out)) hb); clear HB; have HB := n0_; clear n0_; (try clear hb); (try clear hb2); (try clear hk); (try clear hi)) | ((with_reducible refine gate_callee (f := 63) rfl ?_); refine goesL_ (some 10) rfl rfl Tryd.func63 (by kernel_rfl) rfl #[.string a0, .string t137] rfl (by (try simp only [List.map_toArray, List.map_cons, List.map_nil]); first | done | rfl | (simp only [List.length_drop, qw]; rfl)) ?_; (with_reducible refine (saltusref10_Word.calls a0 t137 t138 _ A4.out).mono ?_); rintro e w6 ⟨rfl, hb⟩; refine ⟨_, rfl, ?_⟩; have n0_ := qf (below_step (by repeat (first | (with_reducible first | exact HB.out | apply qa | apply qb | apply qc) | exact HB.out)) hb); clear HB; have HB := n0_; clear n0_; (try clear hb); (try clear hb2); (try clear hk); (try clear hi)))
 go_loopg [5, 6] k (fun kq v5 v6 w' => ∃ (x5_1 : Int) (x6_1 : Int), v5 = .int .u64 x5_1 ∧ v6 = .int .i64 x6_1 ∧ Aside0 (saltusref15_Height.l0 kq x5_1 x6_1 = some r) ∧ Aside0 (kq ≤ k) ∧ Aside0 (Below w.heap.size w w'))
 case atStart => exact ⟨(t138), (1), (by first | rfl | (simp; done) | (simp [*]; done)), (by first | rfl | (simp; done) | (simp [*]; done)), H', ⟨Nat.le_refl _⟩, ⟨by repeat (first | (with_reducible first | exact HB.out | apply qa | apply qb | apply qc) | exact HB.out)⟩⟩
 case round =>
  clear H'; (try clear c1); (try clear p2); (try clear c6); obtain ⟨x5_1, x6_1, rfl, rfl, HA, HK1, HB⟩ := hrel
  cases gk with
  | zero => exact absurd HA.out (by simp [saltusref15_Height.l0])
  | succ k1 =>
   have H := HA.out; clear HA; simp only [saltusref15_Height.l0] at H
   by_cases c7 : (Int.tmod x5_1 2) = 0
   ·rw [if_pos c7] at H; have c7b0 : ((Int.tmod x5_1 2) == 0) = true := beq_iff_eq.mpr c7; have c7b1 : ((Int.tmod x5_1 2) != 0) = false := bne_eq_false_iff_eq.mpr c7; clear c7
    by_cases c8 : x6_1 < 8
    ·rw [if_pos c8] at H; have c8b0 : decide (x6_1 < 8) = true := qj c8; clear c8; have H' := qf H; clear H; go_wp2
     go_roundg k1
     case measure => have := HK1.out; omega
     case rel => exact ⟨(IntKind.u64.wrap (Int.tdiv x5_1 2)), (wrap64 (x6_1 + 1)), (by first | rfl | (simp; done) | (simp [*]; done)), (by first | rfl | (simp; done) | (simp [*]; done)), H', ⟨by have := HK1.out; omega⟩, ⟨by repeat (first | (with_reducible first | exact HB.out | apply qa | apply qb | apply qc) | exact HB.out)⟩⟩
    ·rw [if_neg c8] at H; have c8b0 : decide (x6_1 < 8) = false := decide_eq_false c8; clear c8; obtain rfl := Option.some.inj H; go_wp2; go_ret; exact ⟨by first | rfl | (simp [errW_none, errW_some] <;> rfl) | (simp [*, errW_none, errW_some] <;> rfl), by repeat (first | (with_reducible first | exact HB.out | apply qa | apply qb | apply qc) | exact HB.out)⟩
   ·rw [if_neg c7] at H; have c7b0 : ((Int.tmod x5_1 2) == 0) = false := beq_eq_false_iff_ne.mpr c7; have c7b1 : ((Int.tmod x5_1 2) != 0) = true := bne_iff_ne.mpr c7; obtain rfl := Option.some.inj H; go_wp2; go_ret; exact ⟨by first | rfl | (simp [errW_none, errW_some] <;> rfl) | (simp [*, errW_none, errW_some] <;> rfl), by repeat (first | (with_reducible first | exact HB.out | apply qa | apply qb | apply qc) | exact HB.out)⟩
/-! ### saltusref15_Heights: function 21 -/
def saltusref15_Heights.l0 : Nat → ByteArray → List Int → List Int → Int → Int → Option (List Int)
 | 0, _, _, _, _, _ => none
 | k + 1, x0, x5, x9, x10, x11 => if x11 < x10 then (if 0 ≤ x11 then (if x11 < (x9.length : Int) then ((saltusref15_Height.f k x0 (rd x9 x11)).bind fun t143 => (if x5.length < 17592186044416 then (saltusref15_Heights.l0 k x0 (x5 ++ [t143]) x9 x10 (wrap64 (x11 + 1))) else (none))) else (none)) else (none)) else (some x5)
def saltusref15_Heights.f (k : Nat) (a0 : ByteArray) (l1 : List Int) : Option (List Int) := saltusref15_Heights.l0 k a0 (([] : List Int)) l1 (l1.length : Int) 0
set_option maxHeartbeats 8000000 in
set_option maxRecDepth 100000 in
theorem saltusref15_Heights.calls (k : Nat) (a0 : ByteArray) (A1 : Option Addr) (c1 : Nat) (l1 : List Int) (r : List Int) (w : World) (hr1 : Kd.C (Kd.int .u64) w A1 l1.length l1) (hc1 : l1.length ≤ c1) (h : saltusref15_Heights.f k a0 l1 = some r) :
  Calls Tryd.prog 21 #[.string a0, .slice A1 l1.length c1] w fun e w' => ∃ v0_ : Value, e = .returned (v0_) ∧ Kd.R (Kd.int .i64) 3 w' w.heap.size (fun _ => True) v0_ r ∧ Below w.heap.size w w' := by
 have HR1 := qf hr1; have HC1 := qf hc1; clear hr1 hc1; have HB := qf (Below.refl w.heap.size w); have H : (saltusref15_Heights.l0 k a0 (([] : List Int)) l1 (l1.length : Int) 0) = some r := h; clear h
 obtain ⟨y139, hy139⟩ : ∃ y_ : List Int, y_ = (([] : List Int)) := ⟨_, rfl⟩
 replace H : (saltusref15_Heights.l0 k a0 y139 l1 (l1.length : Int) 0) = some r := by first | (rw [hy139]; with_reducible exact H) | (have H2_ := (qv _ _).symm.trans H; rw [hy139]; with_reducible exact H2_) | (have H2_ := (qv _ _).symm.trans H; with_reducible exact H2_) | with_reducible exact H | (rw [hy139]; exact H) | exact H
 have Ny139 := qf hy139; clear hy139; have H' := qf H; clear H
 go_enter Tryd.func21, Tryd.ntmps21
 go_wp2_with (first | ((with_reducible refine gate_dst (N := 8) rfl ?_); refine Kd.R_lit (Kd.int .i64) _ 3 ?hg (N := 8) ?hd (xs := ([] : List Int)) (inner := []) (ok := fun _ => True) (okp := fun _ => True) ?hr ?hp (fun _ hk => hk) trivial (Below.refl _ _) (Nat.le_refl _) (by simp) ?_; (case hd => rfl); (case hg => rfl); (case hr => first | (go_simp; done) | (go_simp; rfl)); (case hp => exact (Reps.none _ _)); intro v140 w3 ho4 hb hg_ hnew_; clear hg_ hnew_; (first | rw [← Ny139.out] at ho4 | (simp only [Int.reduceToNat] at ho4; rw [← Ny139.out] at ho4)); have n0_ := qf (Kd.R_lower ho4 (below_size (by repeat (first | (with_reducible first | exact HB.out | apply qa | apply qb | apply qc) | exact HB.out)))); have n1_ := qf (below_step (by repeat (first | (with_reducible first | exact HB.out | apply qa | apply qb | apply qc) | exact HB.out)) hb); clear HB; have HO141 := n0_; have HB := n1_; clear n0_ n1_; clear hb ho4))
 go_loopg [5, 11] k (fun kq v5 v11 w' => ∃ (x5_1 : List Int) (x11_1 : Int), v11 = .int .i64 x11_1 ∧ Aside0 (saltusref15_Heights.l0 kq a0 x5_1 l1 (l1.length : Int) x11_1 = some r) ∧ Aside0 (kq ≤ k) ∧ Aside0 (Kd.R (Kd.int .i64) 3 w' w.heap.size (fun _ => True) v5 x5_1) ∧ Aside0 (Below w.heap.size w w'))
 case atStart => exact ⟨(y139), (0), (by first | rfl | (simp; done) | (simp [*]; done)), H', ⟨Nat.le_refl _⟩, ⟨by (with_reducible repeat (first | apply Kd.R_alloc | apply Kd.R_drewN | apply Kd.R_drew)); exact HO141.out⟩, ⟨by repeat (first | (with_reducible first | exact HB.out | apply qa | apply qb | apply qc) | exact HB.out)⟩⟩
 case round =>
  clear H'; (try clear c1); (try clear c2); (try clear p2); obtain ⟨x5_1, x11_1, rfl, HA, HK1, HO_5, HB⟩ := hrel
  cases gk with
  | zero => exact absurd HA.out (by simp [saltusref15_Heights.l0])
  | succ k1 =>
   have H := HA.out; clear HA; simp only [saltusref15_Heights.l0] at H
   by_cases c5 : x11_1 < (l1.length : Int)
   ·rw [if_pos c5] at H; have c5b0 : decide (x11_1 < (l1.length : Int)) = true := qj c5; clear c5
    by_cases c6 : 0 ≤ x11_1
    ·rw [if_pos c6] at H; have c6b0 : decide (0 ≤ x11_1) = true := qj c6; clear c6
     by_cases c7 : x11_1 < (l1.length : Int)
     ·rw [if_pos c7] at H; have c7b0 : decide (x11_1 < (l1.length : Int)) = true := qj c7; clear c7; replace H := qi H; obtain ⟨t143, A80, H⟩ := H
      (try dsimp only at H)
      have A8 := qf A80; clear A80
      by_cases c9 : x5_1.length < 17592186044416
      ·rw [if_pos c9] at H; have LMc9 := qf c9; clear c9
       obtain ⟨y144, hy144⟩ : ∃ y_ : List Int, y_ = (x5_1 ++ [t143]) := ⟨_, rfl⟩
       replace H : (saltusref15_Heights.l0 k1 a0 y144 l1 (l1.length : Int) (wrap64 (x11_1 + 1))) = some r := by first | (rw [hy144]; with_reducible exact H) | (have H2_ := (qv _ _).symm.trans H; rw [hy144]; with_reducible exact H2_) | (have H2_ := (qv _ _).symm.trans H; with_reducible exact H2_) | with_reducible exact H | (rw [hy144]; exact H) | exact H
       have Ny144 := qf hy144; clear hy144; have H' := qf H; clear H; have p142 : 0 ≤ (x11_1 : Int) := qe (by first | (with_reducible assumption) | assumption); have q142 : x11_1 < (l1.length : Int) := qe (by first | (with_reducible assumption) | assumption); obtain ⟨ad142, e142, hx142_0⟩ := Kd.at_int HR1.out x11_1 p142 q142; cases e142; replace hx142_0 := (HB.out.cell (qd w _ hx142_0)).trans hx142_0; replace p142 := eq_true p142; replace q142 := eq_true q142
       go_wp2_with (first | ((with_reducible refine gate_callee (f := 18) rfl ?_); refine goesL_ (some 18) rfl rfl Tryd.func18 (by kernel_rfl) rfl #[.string a0, .int .u64 (rd l1 x11_1)] rfl (by (try simp only [List.map_toArray, List.map_cons, List.map_nil]); first | done | rfl | (simp only [List.length_drop, qw]; rfl)) ?_; (with_reducible refine (saltusref15_Height.calls k1 a0 (rd l1 x11_1) t143 _ A8.out).mono ?_); rintro e w10 ⟨rfl, hb⟩; refine ⟨_, rfl, ?_⟩; have n0_ := qf (Kd.R_below (by (with_reducible repeat (first | apply Kd.R_alloc | apply Kd.R_drewN | apply Kd.R_drew)); exact HO_5.out) hb); have n1_ := qf (below_step (by repeat (first | (with_reducible first | exact HB.out | apply qa | apply qb | apply qc) | exact HB.out)) hb); clear HO_5; clear HB; have HO_5 := n0_; have HB := n1_; clear n0_ n1_; (try clear hb); (try clear hb2); (try clear hk); (try clear hi)) | ((with_reducible refine gate_builtin (b := .append) (xs := #[.tmp 15, .tmp 19]) rfl ?_); at_builtin; refine Kd.R_append (Kd.int .i64) (w0 := w) w.heap.size rfl (.tmp 15) (.tmp 19) 27 3 (.int .i64 0) 8 rfl Tryd.underlying27 info3 rfl (by decide) (by omega) u5 x5_1 t143 [.int .i64 t143] (fun _ => True) (fun _ => False) rfl rfl ?aP (fun _ hk => hk.elim) ?aF ?aO ?aB ?aS ?aL ?_; (case aP => exact rfl); (case aB => exact (by repeat (first | (with_reducible first | exact HB.out | apply qa | apply qb | apply qc) | exact HB.out))); (case aF => exact (fun _ _ => trivial)); (case aO => exact (by (with_reducible repeat (first | apply Kd.R_alloc | apply Kd.R_drewN | apply Kd.R_drew)); exact HO_5.out)); (case aS => exact (below_size (by repeat (first | (with_reducible first | exact HB.out | apply qa | apply qb | apply qc) | exact HB.out)))); (case aL => have := LMc9.out; omega); intro v145 w11 ho hb hg hat; rw [← Ny144.out] at ho; have n0_ := qf (hb); have n1_ := qf (ho); clear HB; clear HO_5; have HB := n0_; have HO146 := n1_; clear n0_ n1_; clear ho hb hg hat))
       go_roundg k1
       case measure => have := HK1.out; omega
       case rel => exact ⟨(y144), (wrap64 (x11_1 + 1)), (by first | rfl | (simp; done) | (simp [*]; done)), H', ⟨by have := HK1.out; omega⟩, ⟨by (with_reducible repeat (first | apply Kd.R_alloc | apply Kd.R_drewN | apply Kd.R_drew)); exact HO146.out⟩, ⟨by repeat (first | (with_reducible first | exact HB.out | apply qa | apply qb | apply qc) | exact HB.out)⟩⟩
      ·rw [if_neg c9] at H; exact absurd H (by simp)
     ·rw [if_neg c7] at H; exact absurd H (by simp)
    ·rw [if_neg c6] at H; exact absurd H (by simp)
   ·rw [if_neg c5] at H; have c5b0 : decide (x11_1 < (l1.length : Int)) = false := decide_eq_false c5; clear c5; obtain rfl := Option.some.inj H; go_wp2; go_ret; exact ⟨_, by first | rfl | (simp [errW_none, errW_some] <;> rfl) | (simp [*, errW_none, errW_some] <;> rfl), by (with_reducible repeat (first | apply Kd.R_alloc | apply Kd.R_drewN | apply Kd.R_drew)); exact HO_5.out, by repeat (first | (with_reducible first | exact HB.out | apply qa | apply qb | apply qc) | exact HB.out)⟩
end Go.Proofs.YtolbhliepkcihaaDoor.QSF
end
section
namespace Go.Proofs.YtolbhliepkcihaaDoor.QSF
open Go.RowKit Kinds YtolbhliepkcihaaDoorW.PrintWords YtolbhliepkcihaaDoorW.PrintLast YtolbhliepkcihaaDoorW.PrintMore
attribute [local go_sem] max2_int min2_int max_two min_two max_three min_three max_four min_four   -- for this text's walks alone
set_option linter.unusedVariables false
set_option linter.unusedSimpArgs false
/-! ### saltusref16_Keys: function 66 -/
def saltusref16_Keys.l0 : Nat → List Int → List (S46) → Int → Int → Option (List Int)
 | 0, _, _, _, _ => none
 | k + 1, x3, x7, x8, x9 => if x9 < x8 then (if 0 ≤ x9 then (if x9 < (x7.length : Int) then (if x3.length < 17592186044416 then (saltusref16_Keys.l0 k (x3 ++ [(rd_T46 x7 x9).f0]) x7 x8 (wrap64 (x9 + 1))) else (none)) else (none)) else (none)) else (some x3)
def saltusref16_Keys.f (k : Nat) (l0 : List (S46)) : Option (List Int) := saltusref16_Keys.l0 k (([] : List Int)) l0 (l0.length : Int) 0
set_option maxHeartbeats 8000000 in
set_option maxRecDepth 100000 in
theorem saltusref16_Keys.calls (k : Nat) (A0 : Option Addr) (c0 : Nat) (l0 : List (S46)) (r : List Int) (w : World) (hr0 : Kd.C k46 w A0 l0.length l0) (hc0 : l0.length ≤ c0) (h : saltusref16_Keys.f k l0 = some r) :
  Calls Tryd.prog 66 #[.slice A0 l0.length c0] w fun e w' => ∃ v0_ : Value, e = .returned (v0_) ∧ Kd.R (Kd.int .u64) 22 w' w.heap.size (fun _ => True) v0_ r ∧ Below w.heap.size w w' := by
 have hu46 := Tryd.underlying46; have HR0 := qf hr0; have HC0 := qf hc0; clear hr0 hc0; have HB := qf (Below.refl w.heap.size w); have H : (saltusref16_Keys.l0 k (([] : List Int)) l0 (l0.length : Int) 0) = some r := h; clear h
 obtain ⟨y147, hy147⟩ : ∃ y_ : List Int, y_ = (([] : List Int)) := ⟨_, rfl⟩
 replace H : (saltusref16_Keys.l0 k y147 l0 (l0.length : Int) 0) = some r := by first | (rw [hy147]; with_reducible exact H) | (have H2_ := (qv _ _).symm.trans H; rw [hy147]; with_reducible exact H2_) | (have H2_ := (qv _ _).symm.trans H; with_reducible exact H2_) | with_reducible exact H | (rw [hy147]; exact H) | exact H
 have Ny147 := qf hy147; clear hy147; have H' := qf H; clear H
 go_enter Tryd.func66, Tryd.ntmps66
 go_wp2_with (first | ((with_reducible refine gate_dst (N := 6) rfl ?_); refine Kd.R_lit (Kd.int .u64) _ 22 ?hg (N := 6) ?hd (xs := ([] : List Int)) (inner := []) (ok := fun _ => True) (okp := fun _ => True) ?hr ?hp (fun _ hk => hk) trivial (Below.refl _ _) (Nat.le_refl _) (by simp) ?_; (case hd => rfl); (case hg => rfl); (case hr => first | (go_simp; done) | (go_simp; rfl)); (case hp => exact (Reps.none _ _)); intro v148 w2 ho3 hb hg_ hnew_; clear hg_ hnew_; (first | rw [← Ny147.out] at ho3 | (simp only [Int.reduceToNat] at ho3; rw [← Ny147.out] at ho3)); have n0_ := qf (Kd.R_lower ho3 (below_size (by repeat (first | (with_reducible first | exact HB.out | apply qa | apply qb | apply qc) | exact HB.out)))); have n1_ := qf (below_step (by repeat (first | (with_reducible first | exact HB.out | apply qa | apply qb | apply qc) | exact HB.out)) hb); clear HB; have HO149 := n0_; have HB := n1_; clear n0_ n1_; clear hb ho3))
 go_loopg [3, 9] k (fun kq v3 v9 w' => ∃ (x3_1 : List Int) (x9_1 : Int), v9 = .int .i64 x9_1 ∧ Aside0 (saltusref16_Keys.l0 kq x3_1 l0 (l0.length : Int) x9_1 = some r) ∧ Aside0 (kq ≤ k) ∧ Aside0 (Kd.R (Kd.int .u64) 22 w' w.heap.size (fun _ => True) v3 x3_1) ∧ Aside0 (Below w.heap.size w w'))
 case atStart => exact ⟨(y147), (0), (by first | rfl | (simp; done) | (simp [*]; done)), H', ⟨Nat.le_refl _⟩, ⟨by (with_reducible repeat (first | apply Kd.R_alloc | apply Kd.R_drewN | apply Kd.R_drew)); exact HO149.out⟩, ⟨by repeat (first | (with_reducible first | exact HB.out | apply qa | apply qb | apply qc) | exact HB.out)⟩⟩
 case round =>
  clear H'; (try clear p2); obtain ⟨x3_1, x9_1, rfl, HA, HK1, HO_3, HB⟩ := hrel
  cases gk with
  | zero => exact absurd HA.out (by simp [saltusref16_Keys.l0])
  | succ k1 =>
   have H := HA.out; clear HA; simp only [saltusref16_Keys.l0] at H
   by_cases c4 : x9_1 < (l0.length : Int)
   ·rw [if_pos c4] at H; have c4b0 : decide (x9_1 < (l0.length : Int)) = true := qj c4; clear c4
    by_cases c5 : 0 ≤ x9_1
    ·rw [if_pos c5] at H; have c5b0 : decide (0 ≤ x9_1) = true := qj c5; clear c5
     by_cases c6 : x9_1 < (l0.length : Int)
     ·rw [if_pos c6] at H; have c6b0 : decide (x9_1 < (l0.length : Int)) = true := qj c6; clear c6
      by_cases c7 : x3_1.length < 17592186044416
      ·rw [if_pos c7] at H; have LMc7 := qf c7; clear c7
       obtain ⟨y152, hy152⟩ : ∃ y_ : List Int, y_ = (x3_1 ++ [(rd_T46 l0 x9_1).f0]) := ⟨_, rfl⟩
       replace H : (saltusref16_Keys.l0 k1 y152 l0 (l0.length : Int) (wrap64 (x9_1 + 1))) = some r := by first | (rw [hy152]; with_reducible exact H) | (have H2_ := (qv _ _).symm.trans H; rw [hy152]; with_reducible exact H2_) | (have H2_ := (qv _ _).symm.trans H; with_reducible exact H2_) | with_reducible exact H | (rw [hy152]; exact H) | exact H
       have Ny152 := qf hy152; clear hy152; have H' := qf H; clear H; have p150 : 0 ≤ (x9_1 : Int) := qe (by first | (with_reducible assumption) | assumption); have q150 : x9_1 < (l0.length : Int) := qe (by first | (with_reducible assumption) | assumption); obtain ⟨ad150, e150, hx150_0, hx150_1⟩ := at_T46 HR0.out x9_1 p150 q150; cases e150; replace hx150_0 := (HB.out.cell (qd w _ hx150_0)).trans hx150_0; replace hx150_1 := (HB.out.cell (qd w _ hx150_1)).trans hx150_1; replace p150 := eq_true p150; replace q150 := eq_true q150
       go_wp2_with (first | ((with_reducible refine gate_dst (N := 5) rfl ?_); refine box_event ?hg (N := 5) ?hd (cs := #[.int .u64 0, .string (⟨#[]⟩ : ByteArray)]) (t := 46) ?hr ?_; (case hd => rfl); (case hg => rfl); (case hr => first | (go_simp; done) | (go_simp; rfl)); intro gb151 hg w8 hbox hb; have n0_ := qf (Kd.R_below (by (with_reducible repeat (first | apply Kd.R_alloc | apply Kd.R_drewN | apply Kd.R_drew)); exact HO_3.out) hb); have n1_ := qf (below_step (by repeat (first | (with_reducible first | exact HB.out | apply qa | apply qb | apply qc) | exact HB.out)) hb); have n2_ := qf (hbox); have n3_ := qf ((by rw [hg]; exact (below_size (by repeat (first | (with_reducible first | exact HB.out | apply qa | apply qb | apply qc) | exact HB.out))) : w.heap.size ≤ gb151)); have n4_ := qf ((by rw [hg]; exact (below_size (by repeat (first | (with_reducible first | exact HB.out | apply qa | apply qb | apply qc) | exact HB.out))) : w.heap.size ≤ gb151)); clear HO_3; clear HB; have HO_3 := n0_; have HB := n1_; have BK151 := n2_; have GW151 := n3_; have GE151 := n4_; clear n0_ n1_ n2_ n3_ n4_; clear hb hbox hg; have hcz9_0 : w8.cell? ⟨gb151, 0, none⟩ = some (.int .u64 0) := (blk_cell BK151.out 0).trans rfl; have hcz9_1 : w8.cell? ⟨gb151, 1, none⟩ = some (.string (⟨#[]⟩ : ByteArray)) := (blk_cell BK151.out 1).trans rfl; have hfz9_0 := blk_frozen BK151.out 0; have hfz9_1 := blk_frozen BK151.out 1) | ((with_reducible refine gate_builtin (b := .append) (xs := #[.tmp 13, .tmp 16]) rfl ?_); at_builtin; refine Kd.R_append (Kd.int .u64) (w0 := w) w.heap.size rfl (.tmp 13) (.tmp 16) 23 22 (.int .u64 0) 8 rfl Tryd.underlying23 info22 rfl (by decide) (by omega) u3 x3_1 ((rd_T46 l0 x9_1).f0) [.int .u64 ((rd_T46 l0 x9_1).f0)] (fun _ => True) (fun _ => False) rfl (by first | (go_simp; done) | (go_simp; rfl)) ?aP (fun _ hk => hk.elim) ?aF ?aO ?aB ?aS ?aL ?_; (case aP => exact rfl); (case aB => exact (by repeat (first | (with_reducible first | exact HB.out | apply qa | apply qb | apply qc | refine qg ?_ GE151.out) | exact HB.out))); (case aF => exact (fun _ _ => trivial)); (case aO => exact (by (with_reducible repeat (first | apply Kd.R_alloc | apply Kd.R_drewN | apply Kd.R_drew)); exact Kd.R_mono (Kd.R_far (p := ⟨gb151, 1, none⟩) (Kd.R_far (p := ⟨gb151, 0, none⟩) (Kd.R_types HO_3.out BK151.out (by decide)) (fun _ hk => hk.2) (.int .u64 ((rd_T46 l0 x9_1).f0))) (fun _ hk => hk.2) (.string ((rd_T46 l0 x9_1).f1))) (fun _ hk => trivial))); (case aS => exact (below_size (by repeat (first | (with_reducible first | exact HB.out | apply qa | apply qb | apply qc | refine qg ?_ GE151.out) | exact HB.out)))); (case aL => have := LMc7.out; omega); intro v153 w10 ho hb hg hat; rw [← Ny152.out] at ho; have n0_ := qf (blk_grown (g := gb151) (o := .cells #[.int .u64 ((rd_T46 l0 x9_1).f0), .string ((rd_T46 l0 x9_1).f1)] 46 (0, 0)) (by (with_reducible repeat (first | refine blk_drewN ?_ _ | refine blk_drew ?_ | refine qh ?_ _)); refine blk_put (cs := #[.int .u64 ((rd_T46 l0 x9_1).f0), .string (⟨#[]⟩ : ByteArray)]) ?_ 1 _ rfl; (with_reducible repeat (first | refine blk_drewN ?_ _ | refine blk_drew ?_ | refine qh ?_ _)); refine blk_put (cs := #[.int .u64 0, .string (⟨#[]⟩ : ByteArray)]) ?_ 0 _ rfl; (with_reducible repeat (first | refine blk_drewN ?_ _ | refine blk_drew ?_ | refine qh ?_ _)); exact BK151.out) hg (Kd.R_ne HO_3.out BK151.out (by decide))); have n1_ := qf (hb); have n2_ := qf (ho); clear BK151; clear HB; clear HO_3; have BK151 := n0_; have HB := n1_; have HO154 := n2_; clear n0_ n1_ n2_; clear ho hb hg hat))
       go_roundg k1
       case measure => have := HK1.out; omega
       case rel => exact ⟨(y152), (wrap64 (x9_1 + 1)), (by first | rfl | (simp; done) | (simp [*]; done)), H', ⟨by have := HK1.out; omega⟩, ⟨by (with_reducible repeat (first | apply Kd.R_alloc | apply Kd.R_drewN | apply Kd.R_drew)); exact HO154.out⟩, ⟨by repeat (first | (with_reducible first | exact HB.out | apply qa | apply qb | apply qc | refine qg ?_ GE151.out) | exact HB.out)⟩⟩
      ·rw [if_neg c7] at H; exact absurd H (by simp)
     ·rw [if_neg c6] at H; exact absurd H (by simp)
    ·rw [if_neg c5] at H; exact absurd H (by simp)
   ·rw [if_neg c4] at H; have c4b0 : decide (x9_1 < (l0.length : Int)) = false := decide_eq_false c4; clear c4; obtain rfl := Option.some.inj H; go_wp2; go_ret; exact ⟨_, by first | rfl | (simp [errW_none, errW_some] <;> rfl) | (simp [*, errW_none, errW_some] <;> rfl), by (with_reducible repeat (first | apply Kd.R_alloc | apply Kd.R_drewN | apply Kd.R_drew)); exact HO_3.out, by repeat (first | (with_reducible first | exact HB.out | apply qa | apply qb | apply qc) | exact HB.out)⟩
/-! ### saltusref16_next: function 67 -/
/-! ### saltusref16_Hops: function 29 -/
/-! ### saltuslaw16_SkipFinds: function 6 -/
end Go.Proofs.YtolbhliepkcihaaDoor.QSF
end
section
namespace Go.Proofs.YtolbhliepkcihaaDoor.QSF
open Go.RowKit Kinds YtolbhliepkcihaaDoorW.PrintWords YtolbhliepkcihaaDoorW.PrintLast YtolbhliepkcihaaDoorW.PrintMore
attribute [local go_sem] max2_int min2_int max_two min_two max_three min_three max_four min_four   -- for this text's walks alone
set_option linter.unusedVariables false
set_option linter.unusedSimpArgs false
/-! ### saltuslaw16_SkipHops: function 7 -/
end Go.Proofs.YtolbhliepkcihaaDoor.QSF
end
section
namespace Go.Proofs.YtolbhliepkcihaaDoor.SkipPure
open Go.RowKit Kinds QSF YtolbhliepkcihaaDoorW.PrintWords YtolbhliepkcihaaDoorW.PrintLast YtolbhliepkcihaaDoorW.PrintMore Sha Mac Codec Tower
abbrev Item := S46
abbrev Hop := S48
def it (l : List Item) (i : Nat) : Item := rd_T46 l (i : Int)
def ky (l : List Item) (i : Nat) : Int := (it l i).f0
theorem w_succ (i n : Nat) (h : i < n) (hn : n ≤ 1000000000) : wrap64 ((i : Int) + 1) = ((i + 1 : Nat) : Int) := by unfold wrap64; omega
theorem mn_nat (a b : Nat) : mn (a : Int) (b : Int) = ((min a b : Nat) : Int) := by unfold mn; split <;> omega
/-! ### a tower's height, by halving -/
def tz (f x : Nat) : Nat := if x = 0 then f else Lib.ctzFrom f x
theorem tz_succ (f x : Nat) (h : x % 2 = 0) : tz (f + 1) x = tz f (x / 2) + 1 := by
 unfold tz
 by_cases h0 : x = 0
 ·subst h0; rfl
 ·rw [if_neg h0, if_neg (by omega), Lib.ctzFrom, if_neg (by omega)]
  omega
theorem tz_odd (f x : Nat) (h : x % 2 ≠ 0) : tz (f + 1) x = 0 := by
 unfold tz; rw [if_neg (by omega), Lib.ctzFrom, if_pos (by omega)]
theorem refheight_l0 (f : Nat) : ∀ (k x o : Nat), x < 18446744073709551616 → o ≤ 8 → 8 ≤ o + f → f < k → saltusref15_Height.l0 k (x : Int) (o : Int) = some ((min (tz f x + o) 8 : Nat) : Int) := by
 induction f with
 | zero =>
  intro k x o hx h1 h2 hk
  obtain ⟨k, rfl⟩ : ∃ m, k = m + 1 := ⟨k - 1, by omega⟩
  rw [saltusref15_Height.l0]
  have e : min (tz 0 x + o) 8 = o := by omega
  rw [e]
  split
  ·rw [if_neg (by omega)]
  (rfl)
 | succ f ih =>
  intro k x o hx h1 h2 hk
  obtain ⟨k, rfl⟩ : ∃ m, k = m + 1 := ⟨k - 1, by omega⟩
  have e1 : Int.tmod (x : Int) 2 = ((x % 2 : Nat) : Int) := by rw [Int.tmod_eq_emod_of_nonneg (Int.natCast_nonneg _)]; omega
  rw [saltusref15_Height.l0, e1]
  by_cases hp : x % 2 = 0
  ·rw [if_pos (by omega)]; have ez := tz_succ f x hp
   by_cases h8 : o < 8
   ·have e2 : IntKind.u64.wrap (Int.tdiv (x : Int) 2) = ((x / 2 : Nat) : Int) := by
     rw [Int.tdiv_eq_ediv_of_nonneg (Int.natCast_nonneg _), IntKind.wrap_u64]
     omega
    have e3 : wrap64 ((o : Int) + 1) = ((o + 1 : Nat) : Int) := by unfold wrap64; omega
    rw [if_pos (by omega), e2, e3, ih k (x / 2) (o + 1) (by omega) (by omega) (by omega) (by omega), ez]
    congr 2
    omega
   ·rw [if_neg (by omega)]
    congr 2
    omega
  ·rw [if_neg (by omega), tz_odd f x hp]
   congr 2
   omega
theorem refheight_f (key : ByteArray) (n : Nat) (hk : key.size ≤ 1000000000) (hn : n < 18446744073709551616) (k : Nat) (h : 64 < k) : saltusref15_Height.f k key (n : Int) = some ((heightN key n : Nat) : Int) := by
 have e0 : saltusref02_Low.f (n : Int) 8 = some (numS n) := by unfold saltusref02_Low.f; rw [if_pos ⟨by omega, by omega, by decide, by decide⟩, Int.toNat_natCast]; rfl
 have e1 : saltusref10_Word.f key (numS n) = some ((wordN key (numS n) : Nat) : Int) := if_pos ⟨hk, by rw [numS_size]; decide⟩; unfold saltusref15_Height.f; rw [e0, qv, e1, qv]; have h0 := refheight_l0 64 k (wordN key (numS n)) 1 (wordN_lt key (numS n)) (by decide) (by decide) h; rw [show ((1 : Nat) : Int) = 1 from rfl] at h0; rw [h0]; rfl
/-! ### a list that may be -/
def okAt (l : List Item) (i : Nat) : Prop := (it l i).f1.size ≤ 64 ∧ (0 < i → ky l (i - 1) < ky l i)
def RightP (l : List Item) : Prop := (∀ i, i < l.length → okAt l i) ∧ l.length ≤ 64
theorem right_l0 (l : List Item) (hn : l.length ≤ 100000) (d : Nat) : ∀ i, i + d = l.length → (∀ j, j < i → okAt l j) →
  (RightP l ∧ Ev (fun k => skip_Right.l0 k l l (l.length : Int) (i : Int)) true) ∨ (¬RightP l ∧ Ev (fun k => skip_Right.l0 k l l (l.length : Int) (i : Int)) false) := by
 induction d with
 | zero =>
  intro i hi hp
  obtain rfl : i = l.length := by omega
  by_cases h : l.length ≤ 64
  ·refine .inl ⟨⟨hp, h⟩, Ev.step (fun k => ?_) (Ev.now true)⟩; rw [skip_Right.l0, if_neg (by omega), qj (show (l.length : Int) ≤ 64 by omega)]
  ·refine .inr ⟨fun hr => h hr.2, Ev.step (fun k => ?_) (Ev.now false)⟩; rw [skip_Right.l0, if_neg (by omega), decide_eq_false (show ¬ (l.length : Int) ≤ 64 by omega)]
 | succ d ih =>
  intro i hi hp
  by_cases hs : (it l i).f1.size ≤ 64
  ·by_cases h0 : i = 0
   ·subst h0; have hok : okAt l 0 := ⟨hs, fun h => absurd h (by omega)⟩
    have st : ∀ k, skip_Right.l0 (k + 1) l l (l.length : Int) ((0 : Nat) : Int) = skip_Right.l0 k l l (l.length : Int) ((0 + 1 : Nat) : Int) := fun k => by
     rw [skip_Right.l0, if_pos (by omega), if_pos (by omega), if_pos (by omega), if_neg (show ¬ ((((rd_T46 l ((0 : Nat) : Int)).f1).size : Int) > 64) by have := hs; unfold it at this; omega), if_neg (by omega), w_succ 0 l.length (by omega) (by omega)]
    rcases ih 1 (by omega) (fun j hj => by
     obtain rfl : j = 0 := (by omega)
     exact hok) with ⟨h1, h2⟩ | ⟨h1, h2⟩
    ·exact .inl ⟨h1, Ev.step st h2⟩
    ·exact .inr ⟨h1, Ev.step st h2⟩
   ·have ew : wrap64 ((i : Int) - 1) = ((i - 1 : Nat) : Int) := by unfold wrap64; omega
    by_cases hk : ky l (i - 1) < ky l i
    ·have hok : okAt l i := ⟨hs, fun _ => hk⟩
     have st : ∀ k, skip_Right.l0 (k + 1) l l (l.length : Int) (i : Int) = skip_Right.l0 k l l (l.length : Int) ((i + 1 : Nat) : Int) := fun k => by
      rw [skip_Right.l0, if_pos (by omega), if_pos (by omega), if_pos (by omega), if_neg (show ¬ ((((rd_T46 l (i : Int)).f1).size : Int) > 64) by have := hs; unfold it at this; omega), if_pos (by omega), ew, if_pos (by omega), if_pos (by omega),
       if_neg (show ¬ ((rd_T46 l ((i - 1 : Nat) : Int)).f0 ≥ (rd_T46 l (i : Int)).f0) by have := hk; unfold ky it at this; omega), w_succ i l.length (by omega) (by omega)]
     rcases ih (i + 1) (by omega) (fun j hj => by
      by_cases e : j = i
      ·subst e; exact hok
      ·exact hp j (by omega)) with ⟨h1, h2⟩ | ⟨h1, h2⟩
     ·exact .inl ⟨h1, Ev.step st h2⟩
     ·exact .inr ⟨h1, Ev.step st h2⟩
    ·refine .inr ⟨fun hr => hk ((hr.1 i (by omega)).2 (by omega)), Ev.step (fun k => ?_) (Ev.now false)⟩
     rw [skip_Right.l0, if_pos (by omega), if_pos (by omega), if_pos (by omega), if_neg (show ¬ ((((rd_T46 l (i : Int)).f1).size : Int) > 64) by have := hs; unfold it at this; omega), if_pos (by omega), ew, if_pos (by omega), if_pos (by omega),
       if_pos (show ((rd_T46 l ((i - 1 : Nat) : Int)).f0 ≥ (rd_T46 l (i : Int)).f0) by have := hk; unfold ky it at this; omega)]
  ·refine .inr ⟨fun hr => hs (hr.1 i (by omega)).1, Ev.step (fun k => ?_) (Ev.now false)⟩; rw [skip_Right.l0, if_pos (by omega), if_pos (by omega), if_pos (by omega), if_pos (show ((((rd_T46 l (i : Int)).f1).size : Int) > 64) by have := hs; unfold it at this; omega)]
theorem right_ev (l : List Item) (hn : l.length ≤ 100000) : (RightP l ∧ Ev (fun k => skip_Right.f k l) true) ∨ (¬RightP l ∧ Ev (fun k => skip_Right.f k l) false) :=
 right_l0 l hn l.length 0 (by omega) (fun j hj => absurd hj (by omega))
end Go.Proofs.YtolbhliepkcihaaDoor.SkipPure
end
section
namespace Go.Proofs.YtolbhliepkcihaaDoor.SkipPure
open Go.RowKit Kinds QSF YtolbhliepkcihaaDoorW.PrintWords YtolbhliepkcihaaDoorW.PrintLast YtolbhliepkcihaaDoorW.PrintMore Sha Mac Codec Tower
def htsL (key : ByteArray) (l : List Item) : List Int := l.map fun x => ((heightN key x.f0.toNat : Nat) : Int)
theorem it_mem (l : List Item) (i : Nat) (h : i < l.length) : it l i = l[i] := by
 unfold it rd_T46; rw [Int.toNat_natCast, List.getD_eq_getElem?_getD, List.getElem?_eq_getElem h]; rfl
/-! ### the array of heights is filled -/
/-! ### the next one that is above a level -/
/-! ### the search -/
theorem keys_l0 (l : List Item) (hn : l.length ≤ 100000) (d : Nat) : ∀ i acc, i + d = l.length → acc.length + d ≤ 100000 → Ev (fun k => saltusref16_Keys.l0 k acc l (l.length : Int) (i : Int)) (acc ++ (l.drop i).map (·.f0)) := by
 induction d with
 | zero =>
  intro i acc hi ha; refine Ev.step (fun k => ?_) (Ev.now _); rw [saltusref16_Keys.l0, if_neg (by omega), List.drop_eq_nil_of_le (by omega)]
  simp
 | succ d ih =>
  intro i acc hi ha; have h := ih (i + 1) (acc ++ [(it l i).f0]) (by omega) (by rw [List.length_append, List.length_singleton]; omega); rw [List.drop_eq_getElem_cons (show i < l.length by omega), ← it_mem l i (by omega)]; rw [List.append_assoc] at h; refine Ev.step (fun k => ?_) h; rw [saltusref16_Keys.l0, if_pos (by omega), if_pos (by omega), if_pos (by omega), if_pos (by omega), w_succ i l.length (by omega) (by omega)]; rfl
theorem heights_l0 (key : ByteArray) (hkey : key.size ≤ 1000000000) (l : List Int) (hn : l.length ≤ 100000) (hk : ∀ y, y ∈ l → 0 ≤ y ∧ y ≤ 18446744073709551615) (d : Nat) : ∀ i acc, i + d = l.length → acc.length + d ≤ 100000 →
  Ev (fun k => saltusref15_Heights.l0 k key acc l (l.length : Int) (i : Int)) (acc ++ (l.drop i).map fun y => ((heightN key y.toNat : Nat) : Int)) := by
 induction d with
 | zero =>
  intro i acc hi ha; refine Ev.step (fun k => ?_) (Ev.now _); rw [saltusref15_Heights.l0, if_neg (by omega), List.drop_eq_nil_of_le (by omega)]
  simp
 | succ d ih =>
  intro i acc hi ha
  have hlt : i < l.length := by omega
  have hb := hk l[i] (List.getElem_mem hlt)
  have hrd : rd l (i : Int) = l[i] := by
   unfold rd; rw [Int.toNat_natCast, List.getD_eq_getElem?_getD, List.getElem?_eq_getElem hlt]; rfl
  have h := ih (i + 1) (acc ++ [((heightN key (l[i]).toNat : Nat) : Int)]) (by omega) (by rw [List.length_append, List.length_singleton]; omega); rw [List.drop_eq_getElem_cons hlt]; rw [List.append_assoc] at h; obtain ⟨K, h⟩ := h; refine ⟨max K 65 + 1, fun k hk2 => ?_⟩
  obtain ⟨k, rfl⟩ : ∃ m, k = m + 1 := ⟨k - 1, by omega⟩
  obtain ⟨n, hn2⟩ := Int.eq_ofNat_of_zero_le hb.1; have e := refheight_f key n hkey (by omega) k (by omega)
  show saltusref15_Heights.l0 (k + 1) key acc l (l.length : Int) (i : Int) = _
  rw [saltusref15_Heights.l0, if_pos (by omega), if_pos (by omega), if_pos (by omega), hrd, hn2, e, qv, if_pos (by omega), w_succ i l.length (by omega) (by omega)]; have h2 := h k (by omega); rw [hn2] at h2; exact h2
end Go.Proofs.YtolbhliepkcihaaDoor.SkipPure
end
section
namespace Go.Proofs.YtolbhliepkcihaaDoor.SkipPure
open Go.RowKit Kinds QSF YtolbhliepkcihaaDoorW.PrintWords YtolbhliepkcihaaDoorW.PrintLast YtolbhliepkcihaaDoorW.PrintMore Sha Mac Codec Tower
def hp (hops : List Hop) (i : Nat) : Hop := rd_T48 hops (i : Int)
structure GoodH (s L1 : Nat) (hops : List Hop) : Prop where
 some_ : 0 < s → 0 < hops.length
 none_ : s = 0 → hops = []
 last_ : 0 < hops.length → (hp hops (hops.length - 1)).f1 = (s : Int) - 1
 levels : ∀ i, i < hops.length → 0 ≤ (hp hops i).f0 ∧ (hp hops i).f0 < 8 ∧ (L1 : Int) - 1 ≤ (hp hops i).f0
 chain : ∀ i, 0 < i → i < hops.length → (hp hops (i - 1)).f1 < (hp hops i).f1 ∧ (hp hops i).f0 ≤ (hp hops (i - 1)).f0
/-! ### a known search -/
/-! ### the laws -/
end Go.Proofs.YtolbhliepkcihaaDoor.SkipPure
end
section
namespace Go.Proofs.YtolbhliepkcihaaDoor.QSQ
open Go.RowKit Kinds YtolbhliepkcihaaDoorW.PrintWords YtolbhliepkcihaaDoorW.PrintLast YtolbhliepkcihaaDoorW.PrintMore
attribute [local go_sem] max2_int min2_int max_two min_two max_three min_three max_four min_four   -- for this text's walks alone
set_option linter.unusedVariables false
set_option linter.unusedSimpArgs false
def errW : Option Int → Value
 | none => .nilIface
 | some c => .iface 0 (.int .i64 c)
theorem errW_none : errW none = .nilIface := rfl
theorem errW_some (c : Int) : errW (some c) = .iface 0 (.int .i64 c) := rfl
end Go.Proofs.YtolbhliepkcihaaDoor.QSQ
end
section
namespace Go.Proofs.YtolbhliepkcihaaDoor.QSQ
open Go.RowKit Kinds YtolbhliepkcihaaDoorW.PrintWords YtolbhliepkcihaaDoorW.PrintLast YtolbhliepkcihaaDoorW.PrintMore
attribute [local go_sem] max2_int min2_int max_two min_two max_three min_three max_four min_four   -- for this text's walks alone
set_option linter.unusedVariables false
set_option linter.unusedSimpArgs false
/-! ### saltusref16_Put: function 51 -/
end Go.Proofs.YtolbhliepkcihaaDoor.QSQ
end
section
namespace Go.Proofs.YtolbhliepkcihaaDoor.QSQ
open Go.RowKit Kinds YtolbhliepkcihaaDoorW.PrintWords YtolbhliepkcihaaDoorW.PrintLast YtolbhliepkcihaaDoorW.PrintMore
attribute [local go_sem] max2_int min2_int max_two min_two max_three min_three max_four min_four   -- for this text's walks alone
set_option linter.unusedVariables false
set_option linter.unusedSimpArgs false
theorem eqA46 (d : Nat) (w : World) (x0 y0 : Int) (x1 y1 : ByteArray) :
  (Op.equalIn (d + 2) 46 (.agg #[.int .u64 x0, .string x1]) (.agg #[.int .u64 y0, .string y1])).run Tryd.prog w = .ok (x0 == y0 && (x1.toList == y1.toList)) w := by
 refine eqA_of Tryd.underlying46 (by kernel_rfl) ?_; refine eqf_cons (by rfl) (by go_simp; rfl) (by go_simp; rfl) (by go_simp) ?_; exact eqf_last (by rfl) (by go_simp; rfl) (by go_simp; rfl) (by go_simp)
end Go.Proofs.YtolbhliepkcihaaDoor.QSQ
end
section
namespace Go.Proofs.YtolbhliepkcihaaDoor.QSQ
open Go.RowKit Kinds YtolbhliepkcihaaDoorW.PrintWords YtolbhliepkcihaaDoorW.PrintLast YtolbhliepkcihaaDoorW.PrintMore
attribute [local go_sem] max2_int min2_int max_two min_two max_three min_three max_four min_four   -- for this text's walks alone
set_option linter.unusedVariables false
set_option linter.unusedSimpArgs false
attribute [local go_sem high] eqA46
/-! ### saltusref16_Same: function 39 -/
/-! ### api_Item: function 81 -/
/-! ### skip_Like: function 48 -/
/-! ### saltusref16_At: function 49 -/
/-! ### saltusref16_Drop: function 50 -/
end Go.Proofs.YtolbhliepkcihaaDoor.QSQ
end
section
namespace Go.Proofs.YtolbhliepkcihaaDoor.SkipOps
open Go.RowKit Kinds QSF YtolbhliepkcihaaDoorW.PrintWords YtolbhliepkcihaaDoorW.PrintLast YtolbhliepkcihaaDoorW.PrintMore Sha Mac Codec Tower Skip SkipPure
/-! ### where the search by halves ends -/
/-! ### put and drop -/
end Go.Proofs.YtolbhliepkcihaaDoor.SkipOps
end
section
namespace Go.Proofs.YtolbhliepkcihaaDoor.SkipOps
open Go.RowKit Kinds QSF QSQ YtolbhliepkcihaaDoorW.PrintWords YtolbhliepkcihaaDoorW.PrintLast YtolbhliepkcihaaDoorW.PrintMore Sha Mac Codec Tower Skip SkipPure
/-! ### the callees, at plain functions -/
end Go.Proofs.YtolbhliepkcihaaDoor.SkipOps
end
section
namespace Go.Proofs.YtolbhliepkcihaaDoor.Lab
open Go.RowKit YtolbhliepkcihaaDoorW.PrintWords Kinds Build Sha Mac Codec Tower Mem SkipOps SkipPure
theorem c_rightP (A : Option Addr) (c : Nat) (l : List S46) (hn : l.length ≤ 100000) : ∃ r, (r = true ↔ RightP l) ∧
  (∀ w, Kd.C k46 w A l.length l → l.length ≤ c → Calls Tryd.prog 38 #[.slice A l.length c] w fun e w' => e = .returned (.bool r) ∧ Below w.heap.size w w') ∧ True := by
 rcases right_ev l hn with ⟨p1, h1⟩ | ⟨p1, h1⟩
 ·obtain ⟨k1, e1⟩ := h1.rounds; exact ⟨true, ⟨fun _ => p1, fun _ => rfl⟩, fun w q1 q2 => QSF.skip_Right.calls k1 A c l true w q1 q2 e1, trivial⟩
 ·obtain ⟨k1, e1⟩ := h1.rounds; exact ⟨false, ⟨(fun h => by cases h), fun h => absurd h p1⟩, fun w q1 q2 => QSF.skip_Right.calls k1 A c l false w q1 q2 e1, trivial⟩
theorem Root_bad (key : ByteArray) (A0 : Option Addr) (c0 : Nat) (l : List S46) (w : World) (hr0 : Kd.C k46 w A0 l.length l) (hc0 : l.length ≤ c0) (hl : l.length ≤ 1000) (hb : ¬RightP l) :
  Calls Tryd.prog 31 #[.string key, .slice A0 l.length c0] w fun e w' => e = .returned (.tuple #[.string ⟨#[]⟩, .int .i64 1]) ∧ Below w.heap.size w w' := by
 obtain ⟨r, hr, hA, _⟩ := c_rightP A0 c0 l (by omega)
 obtain rfl : r = false := by
  cases r; (rfl)
  ·exact absurd (hr.1 rfl) hb
 have HA := Lib.hid (hA w hr0 hc0); clear hr hA
 go_enter Tryd.func31, Tryd.ntmps31
 go_wp2_with (go_at_call 38; refine (HA.out).mono ?_; rintro e w1 ⟨rfl, hb1⟩)
 go_ret2
 exact ⟨rfl, hb1⟩
theorem Row_ok (key : ByteArray) (A0 : Option Addr) (c0 : Nat) (l : List S46) (lv : Nat) (w : World) (hr0 : Kd.C k46 w A0 l.length l) (hc0 : l.length ≤ c0) (hl : l.length ≤ 1000) (hkey : key.size ≤ 1000000000) (hok : ∀ x, x ∈ l → x.f1.size ≤ 4096 ∧ 0 ≤ x.f0 ∧ x.f0 < 18446744073709551616) (hlv : lv ≤ 8) (hT : TabW w) (hb : RightP l) :
  Calls Tryd.prog 30 #[.string key, .slice A0 l.length c0, .int .i64 (lv : Int)] w fun e w' => ∃ v, e = .returned (.tuple #[v, .int .i64 0]) ∧ w'.ownsRow w.heap.size 9 1 v (rowL key l lv).length (strV (rowL key l lv)) ∧ Below w.heap.size w w' := by
 obtain ⟨r, hr, hA, _⟩ := c_rightP A0 c0 l (by omega); obtain rfl := hr.2 hb; have HA := Lib.hid (hA w hr0 hc0); have HR := Lib.hid (fun W (h : Below w.heap.size w W) => row_walk key A0 c0 l lv W (Kd.C_below hr0 h) hl hkey hok hlv (tab_below hT h (Nat.le_refl _))); clear hr hA hr0 hok hT hb; have d1 : decide ((lv : Int) < 0) = false := decide_eq_false (by omega); have d2 : decide ((8 : Int) < (lv : Int)) = false := decide_eq_false (by omega)
 go_enter Tryd.func30, Tryd.ntmps30
 go_wp2_with (first | (go_at_call 38; refine (HA.out).mono ?_; rintro e w1 ⟨rfl, hb1⟩) | (go_at_call 68; refine (HR.out _ hb1).mono ?_; rintro e w2 ⟨v, rfl, ho, hb2⟩; have HS := hb1.size; have ho' := qf (own_le ho HS); have hb' := qf (below_step hb1 hb2); clear ho hb2 HS))
 go_ret2
 exact ⟨_, rfl, ho'.out, hb'.out⟩
theorem rootL_row (key : ByteArray) (l : List S46) : rowL key l 8 = [rootL key l] := by
 have h : ∀ s : List S46, rowF (lab 8) 8 (s.map (ent key)) = [] := fun s => by
  induction s with
  | nil => rfl
  | cons x r ih =>
   have := height_hi key x.f0.toNat; rw [List.map_cons, rowF, if_neg (by show ¬8 < heightN key x.f0.toNat; omega), ih]
 unfold rowL ents rootL; rw [rowF, if_pos (by decide), h]; rfl
theorem Root_ok (key : ByteArray) (A0 : Option Addr) (c0 : Nat) (l : List S46) (w : World) (hr0 : Kd.C k46 w A0 l.length l) (hc0 : l.length ≤ c0) (hl : l.length ≤ 1000) (hkey : key.size ≤ 1000000000) (hok : ∀ x, x ∈ l → x.f1.size ≤ 4096 ∧ 0 ≤ x.f0 ∧ x.f0 < 18446744073709551616) (hT : TabW w) (hb : RightP l) :
  Calls Tryd.prog 31 #[.string key, .slice A0 l.length c0] w fun e w' => e = .returned (.tuple #[.string (rootL key l), .int .i64 0]) ∧ Below w.heap.size w w' := by
 obtain ⟨r, hr, hA, _⟩ := c_rightP A0 c0 l (by omega); obtain rfl := hr.2 hb; have HA := Lib.hid (hA w hr0 hc0); have HR := Lib.hid (fun W (h : Below w.heap.size w W) => row_walk key A0 c0 l 8 W (Kd.C_below hr0 h) hl hkey hok (by decide) (tab_below hT h (Nat.le_refl _))); rw [rootL_row] at HR; clear hr hA hr0 hok hT hb; generalize rootL key l = y at *
 go_enter Tryd.func31, Tryd.ntmps31
 go_wp2_with (first | (go_at_call 38; refine (HA.out).mono ?_; rintro e w1 ⟨rfl, hb1⟩) | (go_at_call 68; refine (HR.out _ hb1).mono ?_; rintro e w2 ⟨v, rfl, ho, hb2⟩; obtain ⟨g, cp, rfl, _⟩ := own_succ3 (k := 0) ho; have hcc : w2.cell? ⟨g, 0, none⟩ = some (.string y) := ho.cellAt 0 (by decide); have hb' := qf (below_step hb1 hb2); clear ho hb2))
 go_ret2
 exact ⟨rfl, hb'.out⟩
end Go.Proofs.YtolbhliepkcihaaDoor.Lab
end
section
namespace Go.Proofs.YtolbhliepkcihaaDoor.Lab
open Go.RowKit YtolbhliepkcihaaDoorW.PrintWords Kinds Build Sha Mac Codec Tower Mem SkipOps SkipPure
def okL (l : List S46) : Prop := ∀ x, x ∈ l → x.f1.size ≤ 4096 ∧ 0 ≤ x.f0 ∧ x.f0 < 18446744073709551616
theorem keys_ev (l : List S46) (hn : l.length ≤ 50000) : Ev (fun k => QSF.saltusref16_Keys.f k l) (l.map (·.f0)) := by
 have h1 := keys_l0 l (by omega) l.length 0 [] (by omega) (by simp; omega); simp only [List.nil_append, List.drop_zero] at h1; exact h1
theorem heights_ev (key : ByteArray) (hkey : key.size ≤ 1000000000) (l : List S46) (hn : l.length ≤ 50000) (hok : okL l) : Ev (fun k => QSF.saltusref15_Heights.f k key (l.map (·.f0))) (htsL key l) := by
 have h2 := heights_l0 key hkey (l.map (·.f0)) (by rw [List.length_map]; omega) (fun y hy => by
  obtain ⟨z, hz, rfl⟩ := List.mem_map.1 hy; have := hok z hz
  omega) (l.map (·.f0)).length 0 [] (by omega) (by simp; omega)
 simp only [List.nil_append, List.drop_zero, List.map_map] at h2; exact h2
theorem okT_of (key : ByteArray) (l : List S46) (hn : l.length ≤ 1000) (hok : okL l) : okT l (htsL key l) = true := by
 unfold okT okIt okHt htsL; simp only [Bool.and_eq_true, List.all_eq_true, decide_eq_true_eq, List.length_map]; refine ⟨⟨⟨fun x hx => ?_, fun x hx => ?_⟩, trivial⟩, by omega⟩
 ·have := hok x hx; exact ⟨⟨this.1, this.2.1⟩, this.2.2⟩
 ·obtain ⟨y, _, rfl⟩ := List.mem_map.1 hx; have := height_hi key y.f0.toNat
  omega
theorem esOf_hts (key : ByteArray) : ∀ l : List S46, esOf l (htsL key l) = l.map (ent key)
 | [] => rfl
 | x :: r => by
  have ih := esOf_hts key r
  have e : esOf (x :: r) (htsL key (x :: r)) = ⟨((heightN key x.f0.toNat : Nat) : Int).toNat, itemT x⟩ :: esOf r (htsL key r) := by
   unfold esOf htsL; rw [List.map_cons, List.zipWith_cons_cons]
  rw [e, ih, Int.toNat_natCast, List.map_cons]; unfold ent; exact List.cons_eq_cons.2 ⟨rfl, rfl⟩
theorem suf_at (key : ByteArray) (l : List S46) (a : Int) : sufT l (htsL key l) a = (ents key l).drop (a + 1).toNat := by
 unfold sufT ents; rw [esOf_hts]
theorem set_grown_at (w : World) (b i : Nat) (u : Value) : w.grownBy (w.setCell ⟨b, i, none⟩ u) (some b) :=
 ⟨rfl, rfl, rfl, by simp, fun k _ hk => heap_setCell_other w ⟨b, i, none⟩ k u (fun e => hk (by simp [e]))⟩
set_option maxHeartbeats 2000000 in
set_option maxRecDepth 100000 in
theorem list_walk (key : ByteArray) (A0 : Option Addr) (c0 : Nat) (l : List S46) (w : World) (hr0 : Kd.C k46 w A0 l.length l) (hc0 : l.length ≤ c0) (hl : l.length ≤ 1000) (hkey : key.size ≤ 1000000000) (hok : okL l) :
  Calls Tryd.prog 70 #[.string key, .slice A0 l.length c0] w fun e w' => ∃ A2 c2, e = .returned (.agg #[.slice A0 l.length c0, .slice A2 l.length c2]) ∧ Kd.C (Kd.int .i64) w' A2 l.length (htsL key l) ∧ l.length ≤ c2 ∧ w'.ownsRow w.heap.size 3 1 (.slice A2 l.length c2) l.length (intV (htsL key l)) ∧ Below w.heap.size w w' := by
 obtain ⟨k1, e1⟩ := (keys_ev l (by omega)).rounds; obtain ⟨k2, e2⟩ := (heights_ev key hkey l (by omega) hok).rounds; have HK := Lib.hid (fun W (h : Below w.heap.size w W) => QSF.saltusref16_Keys.calls k1 A0 c0 l _ W (Kd.C_below hr0 h) hc0 e1); have HH := Lib.hid (fun A c W h h2 => QSF.saltusref15_Heights.calls k2 key A c (l.map (·.f0)) _ W h h2 e2); have hlen : (l.map (·.f0)).length = l.length := List.length_map _
 have hlen2 : (htsL key l).length = l.length := by unfold htsL; exact List.length_map _
 clear e1 e2 hr0 hok hkey
 go_enter Tryd.func70, Tryd.ntmps70
 generalize l.map (·.f0) = ks at *; generalize htsL key l = hs at *; rw [hlen] at HH
 go_upto_region 1 with (fail)
 have N := qf (Blk.new w 101 #[.slice none 0 0, .slice none 0 0]); have HB := qf (Below.alloc (Below.refl w.heap.size w) (Nat.le_refl _) (.cells #[.slice none 0 0, .slice none 0 0] 101))
 obtain ⟨g, hg⟩ : ∃ g, w.heap.size = g := ⟨_, rfl⟩
 rw [hg] at N; have HK2 := Lib.hid (HK.out _ HB.out); clear HK; generalize w.alloc (.cells #[.slice none 0 0, .slice none 0 0] 101) = w0 at *; rw [hg]
 go_wp2_with fail
 refine (HK2.out).mono ?_
 rintro e w1 ⟨v1, rfl, hr1, hb1⟩
 obtain ⟨A1, c1, rfl⟩ := Kd.R_slice hr1; have q1 := qf (Kd.R_reads' hr1); replace N := qf (N.out.below hb1 N.out.lt); replace HB := qf (below_step HB.out hb1); have hw1 := HB.out.size; clear hr1 hb1 HK2
 go_wp2_with fail
 have q1c : Kd.C (Kd.int .u64) w1 A1 l.length ks := by rw [← hlen]; exact q1.out.2.2
 have q1d : l.length ≤ c1 := by rw [← hlen]; exact q1.out.2.1
 refine (HH.out A1 c1 w1 q1c q1d).mono ?_
 rintro e w2 ⟨v2, rfl, hr2, hb2⟩
 obtain ⟨A2, c2, rfl⟩ := Kd.R_slice hr2; have q2 := qf (Kd.R_reads' hr2); replace N := qf (N.out.below hb2 N.out.lt); replace HB := qf (below_step HB.out hb2); have hc0' := N.out.cell 0; have hc1' := N.out.cell 1; have hf0' := N.out.frozen 0; have hf1' := N.out.frozen 1; clear hb2 HH q1 q1c
 go_wp2_with fail
 have ho := own_le (Kd.own_of_R hr2) hw1; have h1 : w.heap.size ≤ g := Nat.le_of_eq hg; have n1 := own_ne ho N.out (by decide); have ho1 := ho.kept (set_grown_at w2 g 0 (.slice A0 l.length c0)) (.inr n1); have N1 := N.out.set_ 0 (.slice A0 l.length c0); have ho2 := ho1.kept (set_grown_at _ g 1 (.slice A2 l.length c2)) (.inr n1); have N2 := N1.set_ 1 (.slice A2 l.length c2); have HB2 := (HB.out.setCell (p := ⟨g, 0, none⟩) h1 (.slice A0 l.length c0)).setCell (p := ⟨g, 1, none⟩) h1 (.slice A2 l.length c2); generalize (w2.setCell ⟨g, 0, none⟩ (.slice A0 l.length c0)).setCell ⟨g, 1, none⟩ (.slice A2 l.length c2) = w3 at *; have q3 := (Kd.R_reads' (Kd.R_of_own (h1 := fun _ => rfl) (ok := fun _ => True) ho2 (fun _ _ => trivial))).2; refine bodyPost_ret (v := .agg #[.slice A0 l.length c0, .slice A2 l.length c2]) ?_ rfl ?_
 ·exact results_cell_row rfl _ _ g 101 #[.slice A0 l.length c0, .slice A2 l.length c2] (0, 0) _ rfl N2 Tryd.underlying101 rfl (by kernel_rfl)
 ·rw [hlen2] at q3 ho2; exact ⟨A2, c2, rfl, q3.2, q3.1, ho2, HB2⟩
end Go.Proofs.YtolbhliepkcihaaDoor.Lab
end
section
namespace Go.Proofs.YtolbhliepkcihaaDoor
open Go.RowKit YtolbhliepkcihaaDoorW.PrintWords Kinds Build Lab Sha Mac Codec Tower SkipOps SkipPure
def keysB (l : List S46) : Bool := l.all fun x => decide (0 ≤ x.f0) && decide (x.f0 < 18446744073709551616)
def rightB (l : List S46) : Bool := (List.range l.length).all (fun i => decide ((it l i).f1.size ≤ 64) && (decide (i = 0) || decide (ky l (i - 1) < ky l i))) && decide (l.length ≤ 64)
theorem rightB_iff (l : List S46) : rightB l = true ↔ RightP l := by
 unfold rightB RightP okAt; simp only [Bool.and_eq_true, List.all_eq_true, List.mem_range, decide_eq_true_eq, Bool.or_eq_true]
 constructor
 ·rintro ⟨h1, h2⟩
  refine ⟨fun i hi => ⟨(h1 i hi).1, fun h0 => ?_⟩, h2⟩
  rcases (h1 i hi).2 with h | h
  ·omega
  ·exact h
 ·rintro ⟨h1, h2⟩
  refine ⟨fun i hi => ⟨(h1 i hi).1, ?_⟩, h2⟩
  rcases Nat.eq_zero_or_pos i with h | h
  ·exact .inl h
  ·exact .inr ((h1 i hi).2 h)
theorem keysB_all (l : List S46) (h : keysB l = true) : ∀ x, x ∈ l → 0 ≤ x.f0 ∧ x.f0 < 18446744073709551616 := fun x hx => by
 have := List.all_eq_true.1 h x hx
 simpa [Bool.and_eq_true] using this
theorem right_size (l : List S46) (h : RightP l) : ∀ x, x ∈ l → x.f1.size ≤ 64 := fun x hx => by
 obtain ⟨i, hi, rfl⟩ := List.mem_iff_getElem.1 hx; have := (h.1 i hi).1; rw [it_mem l i hi] at this; exact this
theorem okL_of (l : List S46) (h : RightP l) (hk : keysB l = true) : okL l := fun x hx => by
 have h1 := right_size l h x hx; have h2 := keysB_all l hk x hx; exact ⟨by omega, h2.1, h2.2⟩
def domB (key : ByteArray) (l : List S46) : Bool := decide (key.size ≤ 1000000000) && decide (l.length ≤ 1000) && keysB l
theorem domB_of {key : ByteArray} {l : List S46} (h : domB key l = true) : key.size ≤ 1000000000 ∧ l.length ≤ 1000 ∧ keysB l = true := by
 unfold domB at h; simp only [Bool.and_eq_true, decide_eq_true_eq] at h; exact ⟨h.1.1, h.1.2, h.2⟩
def label_Root.f (a0 : ByteArray) (l1 : List S46) : Option (ByteArray × Int) :=
 if domB a0 l1 = true then some (if rightB l1 = true then (rootL a0 l1, 0) else (⟨#[]⟩, 1)) else none
theorem label_Root.calls (a0 : ByteArray) (A1 : Option Addr) (c1 : Nat) (l1 : List S46) (r1 : ByteArray) (r2 : Int) (w : World) (hr1 : Kd.C k46 w A1 l1.length l1) (hc1 : l1.length ≤ c1) (h : label_Root.f a0 l1 = some (r1, r2)) (hT0 : TabW w) :
  Calls Tryd.prog 31 #[.string a0, .slice A1 l1.length c1] w fun e w' => e = .returned (.tuple #[.string r1, .int .i64 r2]) ∧ Below w.heap.size w w' := by
 unfold label_Root.f at h
 split at h
 ·rename_i hd; obtain ⟨h1, h2, h3⟩ := domB_of hd; have h := Option.some.inj h
  by_cases g1 : rightB l1 = true
  ·have hp := (rightB_iff l1).1 g1; rw [if_pos g1] at h; obtain ⟨rfl, rfl⟩ := Prod.mk.inj h; exact Root_ok a0 A1 c1 l1 w hr1 hc1 h2 h1 (okL_of l1 hp h3) hT0 hp
  ·rw [if_neg g1] at h; obtain ⟨rfl, rfl⟩ := Prod.mk.inj h; exact Root_bad a0 A1 c1 l1 w hr1 hc1 h2 (fun hp => g1 ((rightB_iff l1).2 hp))
 ·cases h
def leafB (a0 : Int) (a1 : ByteArray) : Bool := decide (0 ≤ a0) && decide (a0 < 18446744073709551616) && decide (a1.size ≤ 4096)
theorem leafB_of {a0 : Int} {a1 : ByteArray} (h : leafB a0 a1 = true) : 0 ≤ a0 ∧ a0 < 18446744073709551616 ∧ a1.size ≤ 4096 := by
 unfold leafB at h; simp only [Bool.and_eq_true, decide_eq_true_eq] at h; exact ⟨h.1.1, h.1.2, h.2⟩
def saltusref17_Leaf.f (a0 : Int) (a1 : ByteArray) : Option ByteArray := if leafB a0 a1 = true then some (sumS (itemT ⟨a0, a1⟩)) else none
def saltusref17_Item.f (a0 : Int) (a1 : ByteArray) : Option ByteArray := if leafB a0 a1 = true then some (itemT ⟨a0, a1⟩) else none
theorem saltusref17_Item.calls (a0_0 : Int) (a0_1 : ByteArray) (r : ByteArray) (w : World) (h : saltusref17_Item.f a0_0 a0_1 = some r) :
  Calls Tryd.prog 76 #[.agg #[.int .u64 a0_0, .string a0_1]] w fun e w' => e = .returned (.string r) ∧ Below w.heap.size w w' := by
 unfold saltusref17_Item.f at h
 split at h
 ·rename_i hd; obtain ⟨h1, h2, h3⟩ := leafB_of hd; obtain rfl := Option.some.inj h; exact QLA.saltusref17_Item.calls a0_0 a0_1 _ w (item_f ⟨a0_0, a0_1⟩ h1 h2 h3)
 ·cases h
def saltusref17_Text.f (a0 : Int) (l1 : List ByteArray) : Option ByteArray := if 0 ≤ a0 ∧ a0 ≤ 1000 ∧ l1.length ≤ 1000000 ∧ (catS l1).size ≤ 1000000000000 then some (joinT a0.toNat l1) else none
theorem saltusref17_Text.calls (a0 : Int) (A1 : Option Addr) (c1 : Nat) (l1 : List ByteArray) (r : ByteArray) (w : World) (hr1 : Kd.C Kd.string w A1 l1.length l1) (hc1 : l1.length ≤ c1) (h : saltusref17_Text.f a0 l1 = some r) :
  Calls Tryd.prog 46 #[.int .i64 a0, .slice A1 l1.length c1] w fun e w' => e = .returned (.string r) ∧ Below w.heap.size w w' := by
 unfold saltusref17_Text.f at h
 split at h
 ·rename_i hd; obtain rfl := Option.some.inj h
  obtain ⟨m, rfl⟩ : ∃ m : Nat, a0 = (m : Int) := ⟨a0.toNat, by omega⟩
  obtain ⟨k, hk⟩ := (text_ev m (by omega) l1 hd.2.2.1 hd.2.2.2).rounds; exact QLA.saltusref17_Text.calls k (m : Int) A1 c1 l1 _ w hr1 hc1 hk
 ·cases h
end Go.Proofs.YtolbhliepkcihaaDoor
end
section
namespace Go.Proofs.YtolbhliepkcihaaDoor.Lab
open Go.RowKit YtolbhliepkcihaaDoorW.PrintWords Kinds Build Sha Mac Codec Tower Mem
def oddR (r : List ByteArray) : Bool := decide (64 < r.length) || odds r
def oddRs (l : List (List ByteArray)) : Bool := l.any oddR
theorem oddRs_snoc (l : List (List ByteArray)) (k : Nat) (h : k < l.length) : oddRs (l.take (k + 1)) = (oddRs (l.take k) || oddR l[k]) := by
 unfold oddRs; rw [List.take_succ_eq_append_getElem h, List.any_append]
 simp
theorem oddRs_take (l : List (List ByteArray)) (k : Nat) (h : k < l.length) (ho : oddR l[k] = true) : oddRs l = true := List.any_eq_true.2 ⟨_, List.getElem_mem h, ho⟩
theorem oddR_m (A : Option Addr) (c : Nat) (r : List ByteArray) (w : World) (hr : Kd.C Kd.string w A r.length r) :
  Calls Tryd.prog 112 #[.slice A r.length c] w fun e w' => e = .returned (.bool (oddR r)) ∧ w' = w := by
 by_cases h : 64 < r.length
 ·have e : oddR r = true := by unfold oddR; rw [qj h]; rfl
  rw [e]; have d : decide ((64 : Int) < (r.length : Int)) = true := qj (by omega); clear hr e
  go_enter Tryd.func112, Tryd.ntmps112
  go_wp2; go_ret; exact ⟨rfl, rfl⟩
 ·have e : oddR r = odds r := by unfold oddR; rw [decide_eq_false h]; rfl
  rw [e]; have H := Lib.hid (has_b A c r w hr (by omega)); have d : decide ((64 : Int) < (r.length : Int)) = false := decide_eq_false (by omega); clear hr e; generalize odds r = b at *
  go_enter Tryd.func112, Tryd.ntmps112
  go_wp2_with (go_at_call 73; refine (H.out).mono ?_; rintro e w1 ⟨rfl, rfl⟩)
  go_ret; exact ⟨rfl, rfl⟩
theorem rows_at {w : World} {A : Option Addr} {l : List (List ByteArray)} (h : Kd.C (Kd.slice 9 Kd.string) w A l.length l) (h0 : 0 < l.length) :
  ∃ ad, A = some ad ∧ ∀ k, (hk : k < l.length) → ∃ B d, w.cell? (ad.add k) = some (.slice B l[k].length d) ∧ l[k].length ≤ d ∧ Kd.C Kd.string w B l[k].length l[k] := by
 obtain ⟨ad, e, hc⟩ := h.2.2 h0; refine ⟨ad, e, fun k hk => ?_⟩; obtain ⟨c, _, ⟨B, d, rfl, hd, hC⟩, hcell⟩ := hc k _ (List.getElem?_eq_getElem hk); have h1 := hcell 0 _ rfl
 have h3 : k * (Kd.slice 9 Kd.string).sz + 0 = k := by show k * 1 + 0 = k; omega
 rw [h3] at h1; exact ⟨B, d, h1, hd, hC⟩
set_option maxRecDepth 100000 in
set_option maxHeartbeats 4000000 in
theorem idx_m (ad : Addr) (c : Nat) (l : List (List ByteArray)) (w : World) (hn : l.length ≤ 1000000) (hx : ∀ k, (hk : k < l.length) → ∃ B d, w.cell? (ad.add k) = some (.slice B l[k].length d) ∧ l[k].length ≤ d ∧ Kd.C Kd.string w B l[k].length l[k]) :
  Calls Tryd.prog 130 #[.slice (some ad) l.length c, .func (.func 112) #[] #[]] w fun e w' => (∃ i : Int, e = .returned (.int .i64 i) ∧ decide (0 ≤ i) = oddRs l) ∧ w' = w := by
 have HX := Lib.hid hx; clear hx
 go_enter Tryd.func130, Tryd.ntmps130
 go_wp2
 go_loop [8] (fun iv => ∃ k : Nat, k ≤ l.length ∧ iv = .int .i64 k ∧ Aside0 (oddRs (l.take k) = false)) (fun iv => l.length - (intOf iv).toNat)
 case atStart => exact ⟨0, Nat.zero_le _, rfl, ⟨rfl⟩⟩
 case round =>
  obtain ⟨k, hk, rfl, HO⟩ := hrel
  by_cases hlt : k < l.length
  ·obtain ⟨B, d, hcx, _, hC⟩ := HX.out k hlt; have HS := Lib.hid (oddRs_snoc l k hlt); have HT := Lib.hid (oddRs_take l k hlt); have G := Lib.hid (oddR_m B d l[k] w hC); clear hC; generalize l[k] = x at *
   cases ho : oddR x with
   | true =>
    rw [ho] at G
    go_wp2_with (go_at_call 112; refine (G.out).mono ?_; rintro e w1 ⟨rfl, rfl⟩)
    go_ret; exact ⟨⟨_, rfl, by rw [HT.out ho]; exact qj (by omega)⟩, rfl⟩
   | false =>
    rw [ho] at G; have HO2 := Lib.hid ho; clear ho
    go_wp2_with (go_at_call 112; refine (G.out).mono ?_; rintro e w1 ⟨rfl, rfl⟩)
    go_round
    case rel => exact ⟨k + 1, by omega, by go_num, ⟨by rw [HS.out, HO.out, HO2.out]; rfl⟩⟩
    case measure => simp [intOf]; omega
  ·obtain rfl : k = l.length := by omega
   rw [List.take_length] at HO; go_wp2; go_ret; exact ⟨⟨_, rfl, by rw [HO.out]; rfl⟩, rfl⟩
theorem idx_nil_m (A : Option Addr) (c : Nat) (w : World) : Calls Tryd.prog 130 #[.slice A 0 c, .func (.func 112) #[] #[]] w fun e w' => e = .returned (.int .i64 (-1)) ∧ w' = w := by
 go_enter Tryd.func130, Tryd.ntmps130
 go_wp2
 go_loop [8] (fun iv => iv = .int .i64 0) (fun _ => 0)
 case atStart => rfl
 case round =>
  obtain rfl := hrel; go_wp2; go_ret; exact ⟨rfl, rfl⟩
set_option maxRecDepth 100000 in
theorem has_m (A : Option Addr) (c : Nat) (l : List (List ByteArray)) (w : World) (hr : Kd.C (Kd.slice 9 Kd.string) w A l.length l) (hn : l.length ≤ 1000000) :
  Calls Tryd.prog 114 #[.slice A l.length c, .func (.func 112) #[] #[]] w fun e w' => e = .returned (.bool (oddRs l)) ∧ w' = w := by
 by_cases h0 : 0 < l.length
 ·obtain ⟨ad, rfl, hx⟩ := rows_at hr h0; have H := Lib.hid (idx_m ad c l w hn hx); clear hx hr h0 hn; generalize oddRs l = b at *
  go_enter Tryd.func114, Tryd.ntmps114
  go_wp2_with (go_at_call 130; refine (H.out).mono ?_; rintro e w1 ⟨⟨i, rfl, hi⟩, rfl⟩; have HI := Lib.hid hi; clear hi)
  all_goals go_ret
  all_goals exact ⟨by rw [← HI.out]; simp, rfl⟩
 ·obtain rfl : l = [] := List.eq_nil_of_length_eq_zero (by omega); have H := Lib.hid (idx_nil_m A c w); clear hr h0 hn
  go_enter Tryd.func114, Tryd.ntmps114
  go_wp2_with (go_at_call 130; refine (H.out).mono ?_; rintro e w1 ⟨rfl, rfl⟩)
  go_ret; exact ⟨rfl, rfl⟩
def mayN (v : ByteArray) (b a : List (List ByteArray)) : Int := if 64 < v.size then 4 else if b.length ≠ 8 ∨ a.length ≠ 8 ∨ oddRs b = true ∨ oddRs a = true then 1 else 0
theorem may_walk (a0 : Int) (v : ByteArray) (A : Option Addr) (c : Nat) (b : List (List ByteArray)) (B : Option Addr) (d : Nat) (a : List (List ByteArray)) (w : World) (hr1 : Kd.C (Kd.slice 9 Kd.string) w A b.length b) (hr2 : Kd.C (Kd.slice 9 Kd.string) w B a.length a) (hn1 : b.length ≤ 1000000) (hn2 : a.length ≤ 1000000) :
  Calls Tryd.prog 83 #[.agg #[.int .u64 a0, .string v], .agg #[.slice A b.length c, .slice B a.length d]] w fun e w' => e = .returned (.int .i64 (mayN v b a)) ∧ Below w.heap.size w w' := by
 have H1 := Lib.hid (fun W (h : Below w.heap.size w W) => has_m A c b W (Kd.C_below hr1 h) hn1); have H2 := Lib.hid (fun W (h : Below w.heap.size w W) => has_m B d a W (Kd.C_below hr2 h) hn2); clear hr1 hr2; have HBW := qa (qa (Below.refl w.heap.size w) (.cells #[.int .u64 a0, .string v] 46)) (.cells #[.slice A b.length c, .slice B a.length d] 78)
 obtain ⟨r, hr⟩ : ∃ r, mayN v b a = r := ⟨_, rfl⟩
 rw [hr]; unfold mayN at hr
 by_cases g : 64 < v.size
 ·rw [if_pos g] at hr; subst hr; have q : decide ((64 : Int) < (v.size : Int)) = true := qj (by omega)
  go_enter Tryd.func83, Tryd.ntmps83
  go_wp2; go_ret; exact ⟨rfl, HBW⟩
 ·rw [if_neg g] at hr; have q : decide ((64 : Int) < (v.size : Int)) = false := decide_eq_false (by omega)
  by_cases g1 : b.length = 8
  ·have q1 : (((b.length : Nat) : Int) != 8) = false := bne_eq_false_iff_eq.2 (by omega); have G1 := qf g1; clear g1
   by_cases g2 : a.length = 8
   ·have q2 : (((a.length : Nat) : Int) != 8) = false := bne_eq_false_iff_eq.2 (by omega); have G2 := qf g2; clear g2
    cases o1 : oddRs b with
    | true =>
     rw [o1] at H1 hr; rw [if_pos (.inr (.inr (.inl rfl)))] at hr; subst hr
     go_enter Tryd.func83, Tryd.ntmps83
     go_wp2_with (go_at_call 114; (first | (with_reducible refine (H1.out _ HBW).mono ?_) | (with_reducible refine (H2.out _ HBW).mono ?_)); rintro e w1 ⟨rfl, rfl⟩)
     go_ret; exact ⟨rfl, HBW⟩
    | false =>
     rw [o1] at H1 hr
     cases o2 : oddRs a with
     | true =>
      rw [o2] at H2 hr; rw [if_pos (.inr (.inr (.inr rfl)))] at hr; subst hr
      go_enter Tryd.func83, Tryd.ntmps83
      go_wp2_with (go_at_call 114; (first | (with_reducible refine (H1.out _ HBW).mono ?_) | (with_reducible refine (H2.out _ HBW).mono ?_)); rintro e w1 ⟨rfl, rfl⟩)
      go_ret; exact ⟨rfl, HBW⟩
     | false =>
      rw [o2] at H2 hr; rw [if_neg (by rintro (h | h | h | h); exact h G1.out; exact h G2.out; exact absurd h (by decide); exact absurd h (by decide))] at hr; subst hr
      go_enter Tryd.func83, Tryd.ntmps83
      go_wp2_with (go_at_call 114; (first | (with_reducible refine (H1.out _ HBW).mono ?_) | (with_reducible refine (H2.out _ HBW).mono ?_)); rintro e w1 ⟨rfl, rfl⟩)
      go_ret; exact ⟨rfl, HBW⟩
   ·have q2 : (((a.length : Nat) : Int) != 8) = true := bne_iff_ne.2 (by omega); rw [if_pos (.inr (.inl g2))] at hr; subst hr
    go_enter Tryd.func83, Tryd.ntmps83
    go_wp2; go_ret; exact ⟨rfl, HBW⟩
  ·have q1 : (((b.length : Nat) : Int) != 8) = true := bne_iff_ne.2 (by omega); rw [if_pos (.inl g1)] at hr; subst hr
   go_enter Tryd.func83, Tryd.ntmps83
   go_wp2; go_ret; exact ⟨rfl, HBW⟩
end Go.Proofs.YtolbhliepkcihaaDoor.Lab
namespace Go.Proofs.YtolbhliepkcihaaDoor
open Go.RowKit YtolbhliepkcihaaDoorW.PrintWords Lab
def proof_may.f (_ : Int) (a0_1 : ByteArray) (l1_0 l1_1 : List (List ByteArray)) : Option Int := if l1_0.length ≤ 1000000 ∧ l1_1.length ≤ 1000000 then some (mayN a0_1 l1_0 l1_1) else none
theorem proof_may.calls (a0_0 : Int) (a0_1 : ByteArray) (A1_0 : Option Addr) (c1_0 : Nat) (l1_0 : List (List ByteArray)) (A1_1 : Option Addr) (c1_1 : Nat) (l1_1 : List (List ByteArray)) (r : Int) (w : World) (hr1_0 : Kd.C (Kd.slice 9 Kd.string) w A1_0 l1_0.length l1_0) (_ : l1_0.length ≤ c1_0) (hr1_1 : Kd.C (Kd.slice 9 Kd.string) w A1_1 l1_1.length l1_1) (_ : l1_1.length ≤ c1_1) (h : proof_may.f a0_0 a0_1 l1_0 l1_1 = some r) :
  Calls Tryd.prog 83 #[.agg #[.int .u64 a0_0, .string a0_1], .agg #[.slice A1_0 l1_0.length c1_0, .slice A1_1 l1_1.length c1_1]] w fun e w' => e = .returned (.int .i64 r) ∧ Below w.heap.size w w' := by
 unfold proof_may.f at h
 split at h
 ·rename_i hc; obtain rfl := Option.some.inj h; exact may_walk a0_0 a0_1 A1_0 c1_0 l1_0 A1_1 c1_1 l1_1 w hr1_0 hr1_1 hc.1 hc.2
 ·cases h
end Go.Proofs.YtolbhliepkcihaaDoor
end
section
namespace Go.Proofs.YtolbhliepkcihaaDoor.QPA
open Go.RowKit Kinds YtolbhliepkcihaaDoorW.PrintWords YtolbhliepkcihaaDoorW.PrintLast YtolbhliepkcihaaDoorW.PrintMore
attribute [local go_sem] max2_int min2_int max_two min_two max_three min_three max_four min_four   -- for this text's walks alone
set_option linter.unusedVariables false
set_option linter.unusedSimpArgs false
def errW : Option Int → Value
 | none => .nilIface
 | some c => .iface 0 (.int .i64 c)
theorem errW_none : errW none = .nilIface := rfl
theorem errW_some (c : Int) : errW (some c) = .iface 0 (.int .i64 c) := rfl
theorem info9 : (Tryd.prog.info? 9).map (fun i => (i.zero, i.size, i.bytes)) = some (some (.string ⟨#[]⟩), 1, 16) := by kernel_rfl
theorem info49 : (Tryd.prog.info? 49).map (fun i => (i.zero, i.size, i.bytes)) = some (some (.slice none 0 0), 1, 24) := by kernel_rfl
def rd_L1 (xs : List (List ByteArray)) (i : Int) : (List ByteArray) := xs.getD i.toNat ([] : List ByteArray)
theorem at_L1 {w : World} {A : Option Addr} {n : Nat} {xs : List (List ByteArray)} (h : Kd.C (Kd.slice 9 Kd.string) w A n xs) (i : Int) (h0 : 0 ≤ i) (h1 : i < n) : ∃ ad A0 c0, A = some ad ∧ w.cell? (ad.add i.toNat) = some (.slice A0 (rd_L1 xs i).length c0) ∧ (rd_L1 xs i).length ≤ c0 ∧ Kd.string.C w A0 (rd_L1 xs i).length (rd_L1 xs i) := by
 obtain ⟨ad, c, e, _, hK, hc0⟩ := Kd.C_get h ([] : List ByteArray) i h0 h1
 have hc : ∀ j u, c[j]? = some u → w.cell? (ad.add (i.toNat * 1 + j)) = some u := hc0
 obtain ⟨A0, c0, rfl, l0, g0⟩ := hK; exact ⟨ad, A0, c0, e, by have hq := hc 0 _ rfl; rwa [Nat.mul_one, Nat.add_zero] at hq, l0, g0⟩
end Go.Proofs.YtolbhliepkcihaaDoor.QPA
end
section
namespace Go.Proofs.YtolbhliepkcihaaDoor.QPA
open Go.RowKit Kinds YtolbhliepkcihaaDoorW.PrintWords YtolbhliepkcihaaDoorW.PrintLast YtolbhliepkcihaaDoorW.PrintMore
attribute [local go_sem] max2_int min2_int max_two min_two max_three min_three max_four min_four   -- for this text's walks alone
set_option linter.unusedVariables false
set_option linter.unusedSimpArgs false
/-! ### saltuslaw18_cut: function 82 -/
mutual
def saltuslaw18_cut.l0 : Nat → List (List ByteArray) → List (List ByteArray) → Int → Int → Option ((List (List ByteArray)))
 | 0, _, _, _, _ => none
 | k + 1, x3, x13, x14, x15 => if x15 < x14 then (if 0 ≤ x15 then (if x15 < (x13.length : Int) then (if 0 ≤ (mn ((rd_L1 x13 x15).length : Int) 66) then (if (mn ((rd_L1 x13 x15).length : Int) 66) ≤ ((rd_L1 x13 x15).length : Int) then (saltuslaw18_cut.l1 k x3 ([] : List ByteArray) x13 x14 x15 ((rd_L1 x13 x15).take ((mn ((rd_L1 x13 x15).length : Int) 66) : Int).toNat) (((rd_L1 x13 x15).take ((mn ((rd_L1 x13 x15).length : Int) 66) : Int).toNat).length : Int) 0) else (none)) else (none)) else (none)) else (none)) else (some x3)
def saltuslaw18_cut.l1 : Nat → List (List ByteArray) → List ByteArray → List (List ByteArray) → Int → Int → List ByteArray → Int → Int → Option ((List (List ByteArray)))
 | 0, _, _, _, _, _, _, _, _ => none
 | k + 1, x3, x6, x13, x14, x15, x23, x24, x25 => if x25 < x24 then (if 0 ≤ x25 then (if x25 < (x23.length : Int) then (if 0 ≤ (mn ((rdOf ByteArray.empty x23 x25).size : Int) 40) then (if (mn ((rdOf ByteArray.empty x23 x25).size : Int) 40) ≤ ((rdOf ByteArray.empty x23 x25).size : Int) then (if x6.length < 8796093022208 then (saltuslaw18_cut.l1 k x3 (x6 ++ [(rdOf ByteArray.empty x23 x25).extract 0 ((mn ((rdOf ByteArray.empty x23 x25).size : Int) 40) : Int).toNat]) x13 x14 x15 x23 x24 (wrap64 (x25 + 1))) else (none)) else (none)) else (none)) else (none)) else (none)) else (if x3.length < 5864062014805 then (saltuslaw18_cut.l0 k (x3 ++ [x6]) x13 x14 (wrap64 (x15 + 1))) else (none))
end
def saltuslaw18_cut.f (k : Nat) (l0 : List (List ByteArray)) : Option ((List (List ByteArray))) := if 0 ≤ (mn (l0.length : Int) 9) then (if (mn (l0.length : Int) 9) ≤ (l0.length : Int) then ((some (l0.take ((mn (l0.length : Int) 9) : Int).toNat : List (List ByteArray))).bind fun y101 => (saltuslaw18_cut.l0 k ([] : List (List ByteArray)) y101 (y101.length : Int) 0)) else (none)) else (none)
set_option maxHeartbeats 8000000 in
set_option maxRecDepth 100000 in
theorem saltuslaw18_cut.calls (k : Nat) (A0 : Option Addr) (c0 : Nat) (l0 : List (List ByteArray)) (r : List (List ByteArray)) (w : World) (hr0 : Kd.C (Kd.slice 9 Kd.string) w A0 l0.length l0) (hc0 : l0.length ≤ c0) (h : saltuslaw18_cut.f k l0 = some r) :
  Calls Tryd.prog 82 #[.slice A0 l0.length c0] w fun e w' => ∃ v0_ : Value, e = .returned (v0_) ∧ Kd.S (Kd.slice 9 Kd.string) 49 w' w.heap.size (fun _ => True) v0_ r ∧ Below w.heap.size w w' := by
 have HR0 := qf hr0; have HC0 := qf hc0; clear hr0 hc0; have HB := qf (Below.refl w.heap.size w); have H : (if 0 ≤ (mn (l0.length : Int) 9) then (if (mn (l0.length : Int) 9) ≤ (l0.length : Int) then ((some (l0.take ((mn (l0.length : Int) 9) : Int).toNat : List (List ByteArray))).bind fun y101 => (saltuslaw18_cut.l0 k ([] : List (List ByteArray)) y101 (y101.length : Int) 0)) else (none)) else (none)) = some r := h; clear h
 obtain ⟨ji2, hji2⟩ : ∃ j_ : Int, (mn (l0.length : Int) 9) = j_ := ⟨_, rfl⟩
 replace H : (if 0 ≤ (ji2) then (if (ji2) ≤ (l0.length : Int) then ((some (l0.take ((ji2) : Int).toNat : List (List ByteArray))).bind fun y101 => (saltuslaw18_cut.l0 k ([] : List (List ByteArray)) y101 (y101.length : Int) 0)) else (none)) else (none)) = some r := by first | (rw [hji2] at H; exact H) | (simp only [hji2] at H ⊢; exact H)
 (try (have hji2h : ji2 ≤ 9 := by (rw [← hji2]; unfold mn; (repeat' split) <;> omega)))
 (try (have hji2g : ji2 ≤ 64 := by omega))
 (try (have hji2l : 0 ≤ ji2 := by (rw [← hji2]; unfold mn; (repeat' split) <;> omega)))
 (try (have hji2m : 0 ≤ ji2 := by omega))
 have hji2_ : (if 9 < (l0.length : Int) then 9 else (l0.length : Int)) = ji2 := hji2
 by_cases c3 : 0 ≤ (ji2)
 ·rw [if_pos c3] at H; have c3b0 := eq_true c3; have c3b1 : decide (0 ≤ (ji2)) = true := qj c3; clear c3
  by_cases c4 : (ji2) ≤ (l0.length : Int)
  ·rw [if_pos c4] at H; have c4b0 := eq_true c4; have c4b1 : decide ((ji2) ≤ (l0.length : Int)) = true := qj c4; clear c4
   obtain ⟨y101, hy101⟩ : ∃ y_ : List (List ByteArray), y_ = (l0.take ((ji2) : Int).toNat) := ⟨_, rfl⟩
   replace H : (saltuslaw18_cut.l0 k ([] : List (List ByteArray)) y101 (y101.length : Int) 0) = some r := by first | (rw [hy101]; with_reducible exact H) | (have H2_ := (qv _ _).symm.trans H; rw [hy101]; with_reducible exact H2_) | (have H2_ := (qv _ _).symm.trans H; with_reducible exact H2_) | with_reducible exact H | (rw [hy101]; exact H) | exact H
   have Ny101 := qf hy101; clear hy101; have H' := qf H; clear H; have q5 : ((ji2) : Int) ≤ ((l0.length : Int) : Int) := qe (by first | (with_reducible assumption) | assumption); obtain ⟨i05, hi05, _, hsz5, _⟩ := info_parts info49; have hroom5 : l0.length ≤ c0 := HC0.out; have hC5 : Kd.C (Kd.slice 9 Kd.string) _ A0 l0.length l0 := HR0.out; have hcut5 := cut_to (P := Tryd.prog) 76 49 .i64 Tryd.underlying76 hi05 A0 l0.length c0 (ji2) (qe (by first | (with_reducible assumption) | assumption)) q5 hroom5; have hr5 := Kd.C_take (m := ((ji2) : Int).toNat) hC5 (by omega); have hy5 : y101.length = ((ji2) : Int).toNat := (by rw [Ny101.out, qw]; omega); rw [← Ny101.out] at hr5; rw [← hy5] at hcut5; have HR104 := qf hr5; have HC104 := qf (show y101.length ≤ c0 from by omega); clear hr5 hC5 hroom5 hi05 hsz5; have KY5 := qf hy5; clear hy5; replace q5 := eq_true q5
   go_enter Tryd.func82, Tryd.ntmps82
   go_wp2
   go_loopg [3, 15] k (fun kq v3 v15 w' => ∃ (x3_1 : List (List ByteArray)) (x15_1 : Int), v15 = .int .i64 x15_1 ∧ Aside0 (saltuslaw18_cut.l0 kq x3_1 y101 (y101.length : Int) x15_1 = some r) ∧ Aside0 (kq ≤ k) ∧ Aside0 (Kd.S (Kd.slice 9 Kd.string) 49 w' w.heap.size (fun _ => True) v3 x3_1) ∧ Aside0 (Below w.heap.size w w'))
   case atStart => exact ⟨(([] : List (List ByteArray))), (0), (by first | rfl | (simp; done) | (simp [*]; done)), H', ⟨Nat.le_refl _⟩, ⟨by first | exact Kd.S_nil _ _ _ _ _ | exact Kd.N_nil _ _ _ _ _ | exact Kd.V_nil _ _ _ _ _ | exact Kd.Q_nil _ _ _ _ _ | exact Kd.R_nil _ _ _ _ _⟩, ⟨by repeat (first | (with_reducible first | exact HB.out | apply qa | apply qb | apply qc) | exact HB.out)⟩⟩
   case round =>
    clear H'; (try clear p2); (try clear c3); (try clear c3b0); (try clear c3b1); (try clear c4); (try clear c4b0); (try clear c4b1); (try clear q5); (try clear q5); obtain ⟨x3_1, x15_1, rfl, HA, HK1, HO_3, HB⟩ := hrel
    cases gk with
    | zero => exact absurd HA.out (by simp [saltuslaw18_cut.l0])
    | succ k1 =>
     have H := HA.out; clear HA; simp only [saltuslaw18_cut.l0] at H
     by_cases c6 : x15_1 < (y101.length : Int)
     ·rw [if_pos c6] at H; have c6b0 : decide (x15_1 < (y101.length : Int)) = true := qj c6; clear c6
      by_cases c7 : 0 ≤ x15_1
      ·rw [if_pos c7] at H; have c7b0 : decide (0 ≤ x15_1) = true := qj c7; clear c7
       by_cases c8 : x15_1 < (y101.length : Int)
       ·rw [if_pos c8] at H; have c8b0 : decide (x15_1 < (y101.length : Int)) = true := qj c8; clear c8
        obtain ⟨ji9, hji9⟩ : ∃ j_ : Int, (mn ((rd_L1 y101 x15_1).length : Int) 66) = j_ := ⟨_, rfl⟩
        replace H : (if 0 ≤ (ji9) then (if (ji9) ≤ ((rd_L1 y101 x15_1).length : Int) then (saltuslaw18_cut.l1 k1 x3_1 ([] : List ByteArray) y101 (y101.length : Int) x15_1 ((rd_L1 y101 x15_1).take ((ji9) : Int).toNat) (((rd_L1 y101 x15_1).take ((ji9) : Int).toNat).length : Int) 0) else (none)) else (none)) = some r := by first | (rw [hji9] at H; exact H) | (simp only [hji9] at H ⊢; exact H)
        have hji9_ : (if 66 < ((rd_L1 y101 x15_1).length : Int) then 66 else ((rd_L1 y101 x15_1).length : Int)) = ji9 := hji9
        by_cases c10 : 0 ≤ (ji9)
        ·rw [if_pos c10] at H; have c10b0 := eq_true c10; have c10b1 : decide (0 ≤ (ji9)) = true := qj c10; clear c10
         by_cases c11 : (ji9) ≤ ((rd_L1 y101 x15_1).length : Int)
         ·rw [if_pos c11] at H; have c11b0 := eq_true c11; have c11b1 : decide ((ji9) ≤ ((rd_L1 y101 x15_1).length : Int)) = true := qj c11; clear c11; have H' := qf H; clear H; have p105 : 0 ≤ (x15_1 : Int) := qe (by first | (with_reducible assumption) | assumption); have q105 : x15_1 < (y101.length : Int) := qe (by first | (with_reducible assumption) | assumption); obtain ⟨ad105, A105_0, c105_0, e105, hx105_0, hl105_0, hi105_0⟩ := at_L1 HR104.out x15_1 p105 q105; cases e105; replace hx105_0 := (HB.out.cell (qd w _ hx105_0)).trans hx105_0; have HR105_0 := qf hi105_0; have HC105_0 := qf hl105_0; clear hi105_0 hl105_0; replace p105 := eq_true p105; replace q105 := eq_true q105; obtain ⟨i012, hi012, _, hsz12, _⟩ := info_parts info9; obtain ⟨hcut12, hA12, hC12⟩ := print_take_of (P := Tryd.prog) Value.string (⟨#[]⟩ : ByteArray) 49 9 .i64 Tryd.underlying49 hi012 hsz12 A105_0 c105_0 (rd_L1 y101 x15_1) (ji9) (qe (by first | (with_reducible assumption) | assumption)) (qe (by first | (with_reducible assumption) | assumption)) HC105_0.out; have HR106 := qf (Kd.C_of_reads (h1 := fun _ => rfl) (hA12 _ (Kd.reads_of_C HR105_0.out))); have HC106 := qf hC12; clear hA12 hC12 hi012 hsz12
          obtain ⟨lq12, hlq12⟩ : ∃ l_, (rd_L1 y101 x15_1).take ((ji9) : Int).toNat = l_ := ⟨_, rfl⟩
          simp only [hlq12] at hcut12 HR106 HC106 H'; clear hlq12; go_wp2
          go_loopg [6, 25] k1 (fun kq v6 v25 w' => ∃ (x6_2 : List ByteArray) (x25_2 : Int), v25 = .int .i64 x25_2 ∧ Aside0 (saltuslaw18_cut.l1 kq x3_1 x6_2 y101 (y101.length : Int) x15_1 lq12 (lq12.length : Int) x25_2 = some r) ∧ Aside0 (kq ≤ k1) ∧ Aside0 (Kd.S (Kd.slice 9 Kd.string) 49 w' w.heap.size (fun k_ => some k_ ≠ (v6 : Value).ownBlock) u3 x3_1) ∧ Aside0 (Kd.R Kd.string 9 w' w.heap.size (fun _ => True) v6 x6_2) ∧ Aside0 (Below w.heap.size w w'))
          case atStart => exact ⟨(([] : List ByteArray)), (0), (by first | rfl | (simp; done) | (simp [*]; done)), H', ⟨Nat.le_refl _⟩, ⟨by (with_reducible repeat (first | apply Kd.S_alloc | apply Kd.S_drewN | apply Kd.S_drew)); exact Kd.S_mono HO_3.out (fun _ hk => (by simp [Value.ownBlock]))⟩, ⟨by first | exact Kd.R_nil _ _ _ _ _ | exact Kd.N_nil _ _ _ _ _ | exact Kd.V_nil _ _ _ _ _ | exact Kd.Q_nil _ _ _ _ _ | exact Kd.S_nil _ _ _ _ _⟩, ⟨by repeat (first | (with_reducible first | exact HB.out | apply qa | apply qb | apply qc) | exact HB.out)⟩⟩
          case round =>
           clear H'; (try clear c1); (try clear p1); (try clear q1); (try clear hx1); (try clear p2); (try clear c3); (try clear c3b0); (try clear c3b1); (try clear c4); (try clear c4b0); (try clear c4b1); (try clear q5); (try clear c6); (try clear c6b0); (try clear c7); (try clear c7b0); (try clear c8); (try clear c8b0); (try clear c10); (try clear c10b0); (try clear c10b1); (try clear p10); (try clear q10); (try clear hx10); (try clear c11); (try clear c11b0); (try clear c11b1); (try clear hx105_0); (try clear p105); (try clear p2); (try clear q105); (try clear q5); obtain ⟨x6_2, x25_2, rfl, HA, HK2, HO_3, HO_6, HB⟩ := hrel
           cases gk with
           | zero => exact absurd HA.out (by simp [saltuslaw18_cut.l1])
           | succ k2 =>
            have H := HA.out; clear HA; simp only [saltuslaw18_cut.l1] at H
            by_cases c13 : x25_2 < (lq12.length : Int)
            ·rw [if_pos c13] at H; have c13b0 : decide (x25_2 < (lq12.length : Int)) = true := qj c13; clear c13
             by_cases c14 : 0 ≤ x25_2
             ·rw [if_pos c14] at H; have c14b0 : decide (0 ≤ x25_2) = true := qj c14; clear c14
              by_cases c15 : x25_2 < (lq12.length : Int)
              ·rw [if_pos c15] at H; have c15b0 : decide (x25_2 < (lq12.length : Int)) = true := qj c15; clear c15
               obtain ⟨ji16, hji16⟩ : ∃ j_ : Int, (mn ((rdOf ByteArray.empty lq12 x25_2).size : Int) 40) = j_ := ⟨_, rfl⟩
               replace H : (if 0 ≤ (ji16) then (if (ji16) ≤ ((rdOf ByteArray.empty lq12 x25_2).size : Int) then (if x6_2.length < 8796093022208 then (saltuslaw18_cut.l1 k2 x3_1 (x6_2 ++ [(rdOf ByteArray.empty lq12 x25_2).extract 0 ((ji16) : Int).toNat]) y101 (y101.length : Int) x15_1 lq12 (lq12.length : Int) (wrap64 (x25_2 + 1))) else (none)) else (none)) else (none)) = some r := by first | (rw [hji16] at H; exact H) | (simp only [hji16] at H ⊢; exact H)
               have hji16_ : (if 40 < ((rdOf ByteArray.empty lq12 x25_2).size : Int) then 40 else ((rdOf ByteArray.empty lq12 x25_2).size : Int)) = ji16 := hji16
               by_cases c17 : 0 ≤ (ji16)
               ·rw [if_pos c17] at H; have c17b0 := eq_true c17; have c17b1 : decide (0 ≤ (ji16)) = true := qj c17; clear c17
                by_cases c18 : (ji16) ≤ ((rdOf ByteArray.empty lq12 x25_2).size : Int)
                ·rw [if_pos c18] at H; have c18b0 := eq_true c18; have c18b1 : decide ((ji16) ≤ ((rdOf ByteArray.empty lq12 x25_2).size : Int)) = true := qj c18; clear c18
                 by_cases c19 : x6_2.length < 8796093022208
                 ·rw [if_pos c19] at H; have LMc19 := qf c19; clear c19
                  obtain ⟨y108, hy108⟩ : ∃ y_ : List ByteArray, y_ = (x6_2 ++ [(rdOf ByteArray.empty lq12 x25_2).extract 0 ((ji16) : Int).toNat]) := ⟨_, rfl⟩
                  replace H : (saltuslaw18_cut.l1 k2 x3_1 y108 y101 (y101.length : Int) x15_1 lq12 (lq12.length : Int) (wrap64 (x25_2 + 1))) = some r := by first | (rw [hy108]; with_reducible exact H) | (have H2_ := (qv _ _).symm.trans H; rw [hy108]; with_reducible exact H2_) | (have H2_ := (qv _ _).symm.trans H; with_reducible exact H2_) | with_reducible exact H | (rw [hy108]; exact H) | exact H
                  have Ny108 := qf hy108; clear hy108; have H' := qf H; clear H; have p107 : 0 ≤ (x25_2 : Int) := qe (by first | (with_reducible assumption) | assumption); have q107 : x25_2 < (lq12.length : Int) := qe (by first | (with_reducible assumption) | assumption); obtain ⟨ad107, e107, hx107_0⟩ := Kd.at_string HR106.out x25_2 p107 q107; cases e107; replace hx107_0 := (HB.out.cell (qd w _ hx107_0)).trans hx107_0; replace p107 := eq_true p107; replace q107 := eq_true q107
                  go_wp2_with (first | ((with_reducible refine gate_builtin (b := .append) (xs := #[.tmp 29, .tmp 35]) rfl ?_); at_builtin; refine Kd.R_append Kd.string (w0 := w) w.heap.size rfl (.tmp 29) (.tmp 35) 49 9 (.string ⟨#[]⟩) 16 rfl Tryd.underlying49 info9 rfl (by decide) (by omega) u6 x6_2 ((rdOf ByteArray.empty lq12 x25_2).extract 0 ((ji16) : Int).toNat) [.string ((rdOf ByteArray.empty lq12 x25_2).extract 0 ((ji16) : Int).toNat)] (fun _ => True) (fun _ => False) rfl rfl ?aP (fun _ hk => hk.elim) ?aF ?aO ?aB ?aS ?aL ?_; (case aP => exact rfl); (case aB => exact (by repeat (first | (with_reducible first | exact HB.out | apply qa | apply qb | apply qc) | exact HB.out))); (case aF => exact (fun _ _ => trivial)); (case aO => exact (by (with_reducible repeat (first | apply Kd.R_alloc | apply Kd.R_drewN | apply Kd.R_drew)); exact HO_6.out)); (case aS => exact (below_size (by repeat (first | (with_reducible first | exact HB.out | apply qa | apply qb | apply qc) | exact HB.out)))); (case aL => have := LMc19.out; omega); intro v109 w20 ho hb hg hat; rw [← Ny108.out] at ho; have n0_ := qf (Kd.S_after (ok := (fun _ => True)) (by (with_reducible repeat (first | apply Kd.S_alloc | apply Kd.S_drewN | apply Kd.S_drew)); exact Kd.S_mono HO_3.out (fun _ hk => ⟨trivial, hk⟩)) hg hat); have n1_ := qf (hb); have n2_ := qf (ho); clear HO_3; clear HB; clear HO_6; have HO_3 := n0_; have HB := n1_; have HO110 := n2_; clear n0_ n1_ n2_; clear ho hb hg hat))
                  go_roundg k2
                  case measure => have := HK1.out; have := HK2.out; omega
                  case rel => exact ⟨(y108), (wrap64 (x25_2 + 1)), (by first | rfl | (simp; done) | (simp [*]; done)), H', ⟨by have := HK1.out; have := HK2.out; omega⟩, ⟨by (with_reducible repeat (first | apply Kd.S_alloc | apply Kd.S_drewN | apply Kd.S_drew)); exact Kd.S_mono HO_3.out (fun _ hk => hk.2)⟩, ⟨by (with_reducible repeat (first | apply Kd.R_alloc | apply Kd.R_drewN | apply Kd.R_drew)); exact HO110.out⟩, ⟨by repeat (first | (with_reducible first | exact HB.out | apply qa | apply qb | apply qc) | exact HB.out)⟩⟩
                 ·rw [if_neg c19] at H; exact absurd H (by simp)
                ·rw [if_neg c18] at H; exact absurd H (by simp)
               ·rw [if_neg c17] at H; exact absurd H (by simp)
              ·rw [if_neg c15] at H; exact absurd H (by simp)
             ·rw [if_neg c14] at H; exact absurd H (by simp)
            ·rw [if_neg c13] at H; have c13b0 : decide (x25_2 < (lq12.length : Int)) = false := decide_eq_false c13; clear c13
             by_cases c21 : x3_1.length < 5864062014805
             ·rw [if_pos c21] at H; have LMc21 := qf c21; clear c21
              obtain ⟨y111, hy111⟩ : ∃ y_ : List (List ByteArray), y_ = (x3_1 ++ [x6_2]) := ⟨_, rfl⟩
              replace H : (saltuslaw18_cut.l0 k2 y111 y101 (y101.length : Int) (wrap64 (x15_1 + 1))) = some r := by first | (rw [hy111]; with_reducible exact H) | (have H2_ := (qv _ _).symm.trans H; rw [hy111]; with_reducible exact H2_) | (have H2_ := (qv _ _).symm.trans H; with_reducible exact H2_) | with_reducible exact H | (rw [hy111]; exact H) | exact H
              have Ny111 := qf hy111; clear hy111; have H' := qf H; clear H; obtain ⟨Ao23, co23, eo23⟩ := Kd.R_slice HO_6.out; subst eo23
              go_wp2_with (first | ((with_reducible refine gate_builtin (b := .append) (xs := #[.tmp 38, .tmp 40]) rfl ?_); at_builtin; refine Kd.S_append (Kd.slice 9 Kd.string) (w0 := w) w.heap.size rfl (.tmp 38) (.tmp 40) 76 49 (.slice none 0 0) 24 rfl Tryd.underlying76 info49 rfl (by decide) (by omega) u3 x3_1 x6_2 [.slice Ao23 x6_2.length co23] (fun _ => True) (fun k_ => some k_ = (.slice Ao23 x6_2.length co23 : Value).ownBlock) rfl rfl ?aP (fun k_ hk_ => ((Kd.R_mono (ok' := fun k_ => ((fun _ => True)) k_ ∧ some k_ ≠ (u3 : Value).ownBlock) (Kd.R_apart' (HO_6.out) (Kd.S_typed HO_3.out) (by decide)) (fun k_ hk => ⟨trivial, hk.2⟩))).1 k_ hk_.symm) ?aF ?aO ?aB ?aS ?aL ?_; (case aP => exact Kd.M_row (Kd.R_mono (Kd.R_tight rfl (Kd.R_mono (ok' := fun k_ => ((fun _ => True)) k_ ∧ some k_ ≠ (u3 : Value).ownBlock) (Kd.R_apart' (HO_6.out) (Kd.S_typed HO_3.out) (by decide)) (fun k_ hk => ⟨trivial, hk.2⟩))) (fun _ h_ => h_))); (case aB => exact (by repeat (first | (with_reducible first | exact HB.out | apply qa | apply qb | apply qc) | exact HB.out))); (case aF => exact (fun _ _ => trivial)); (case aO => exact (by (with_reducible repeat (first | apply Kd.S_alloc | apply Kd.S_drewN | apply Kd.S_drew)); exact Kd.S_mono HO_3.out (fun k_ hk => ⟨trivial, fun e_ => hk e_⟩))); (case aS => exact (below_size (by repeat (first | (with_reducible first | exact HB.out | apply qa | apply qb | apply qc) | exact HB.out)))); (case aL => have := LMc21.out; omega); intro v112 w22 ho hb hg hat; rw [← Ny111.out] at ho; have n0_ := qf (hb); have n1_ := qf (ho); clear HB; clear HO_3; clear HO_6; have HB := n0_; have HO113 := n1_; clear n0_ n1_; clear ho hb hg hat))
              go_roundg k2
              case measure => have := HK1.out; have := HK2.out; omega
              case rel => exact ⟨(y111), (wrap64 (x15_1 + 1)), (by first | rfl | (simp; done) | (simp [*]; done)), H', ⟨by have := HK1.out; have := HK2.out; omega⟩, ⟨by (with_reducible repeat (first | apply Kd.S_alloc | apply Kd.S_drewN | apply Kd.S_drew)); exact HO113.out⟩, ⟨by repeat (first | (with_reducible first | exact HB.out | apply qa | apply qb | apply qc) | exact HB.out)⟩⟩
             ·rw [if_neg c21] at H; exact absurd H (by simp)
         ·rw [if_neg c11] at H; exact absurd H (by simp)
        ·rw [if_neg c10] at H; exact absurd H (by simp)
       ·rw [if_neg c8] at H; exact absurd H (by simp)
      ·rw [if_neg c7] at H; exact absurd H (by simp)
     ·rw [if_neg c6] at H; have c6b0 : decide (x15_1 < (y101.length : Int)) = false := decide_eq_false c6; clear c6; obtain rfl := Option.some.inj H; go_wp2; go_ret; exact ⟨_, by first | rfl | (simp [errW_none, errW_some] <;> rfl) | (simp only [← hji2]; first | rfl | (simp [errW_none, errW_some] <;> rfl)) | (simp [*, errW_none, errW_some] <;> rfl), by (with_reducible repeat (first | apply Kd.S_alloc | apply Kd.S_drewN | apply Kd.S_drew)); exact HO_3.out, by repeat (first | (with_reducible first | exact HB.out | apply qa | apply qb | apply qc) | exact HB.out)⟩
  ·rw [if_neg c4] at H; exact absurd H (by simp)
 ·rw [if_neg c3] at H; exact absurd H (by simp)
/-! ### saltuslaw18_few: function 52 -/
def saltuslaw18_few.f (k : Nat) (l0_0 : List (List ByteArray)) (l0_1 : List (List ByteArray)) : Option ((List (List ByteArray)) × (List (List ByteArray))) := (saltuslaw18_cut.f k l0_0).bind fun t116 => ((saltuslaw18_cut.f k l0_1).bind fun t119 => (some (t116, t119)))
def saltuslaw18_few.T1 : Bool × List (List Nat × List Nat) := (true, [([], []), ([0], [0]), ([1], [1]), ([], []), ([3], [3]), ([4, 2], [4]), ([2, 5], [2, 5]), ([6, 5, 0, 1, 2, 3, 4, 5, 6], [6])])
def saltuslaw18_few.B1 : List Nat := [0, 1, 3, 0, 8, 31, 63, 127]
theorem saltuslaw18_few.tab1 : rtab .any (opsOf Tryd.f52 1) = saltuslaw18_few.T1 := by kernel_rfl
theorem saltuslaw18_few.bits1 : waitsOk saltuslaw18_few.T1.2 saltuslaw18_few.B1 = true := by kernel_rfl
set_option maxHeartbeats 8000000 in
set_option maxRecDepth 100000 in
theorem saltuslaw18_few.calls (k : Nat) (A0_0 : Option Addr) (c0_0 : Nat) (l0_0 : List (List ByteArray)) (A0_1 : Option Addr) (c0_1 : Nat) (l0_1 : List (List ByteArray)) (r1 : List (List ByteArray)) (r2 : List (List ByteArray)) (w : World) (hr0_0 : Kd.C (Kd.slice 9 Kd.string) w A0_0 l0_0.length l0_0) (hc0_0 : l0_0.length ≤ c0_0) (hr0_1 : Kd.C (Kd.slice 9 Kd.string) w A0_1 l0_1.length l0_1) (hc0_1 : l0_1.length ≤ c0_1) (h : saltuslaw18_few.f k l0_0 l0_1 = some (r1, r2)) :
  Calls Tryd.prog 52 #[.agg #[.slice A0_0 l0_0.length c0_0, .slice A0_1 l0_1.length c0_1]] w fun e w' => ∃ v0_ v1_ : Value, e = .returned (.agg #[v0_, v1_]) ∧ Kd.S (Kd.slice 9 Kd.string) 49 w' w.heap.size (fun k_ => some k_ ≠ (v1_ : Value).ownBlock) v0_ r1 ∧ Kd.S (Kd.slice 9 Kd.string) 49 w' w.heap.size (fun k_ => some k_ ≠ (v0_ : Value).ownBlock) v1_ r2 ∧ Below w.heap.size w w' := by
 have hu78 := Tryd.underlying78; have HR0_0 := qf hr0_0; have HC0_0 := qf hc0_0; clear hr0_0 hc0_0; have HR0_1 := qf hr0_1; have HC0_1 := qf hc0_1; clear hr0_1 hc0_1; have HB := qf (Below.refl w.heap.size w); have H : ((saltuslaw18_cut.f k l0_0).bind fun t116 => ((saltuslaw18_cut.f k l0_1).bind fun t119 => (some (t116, t119)))) = some (r1, r2) := h; clear h; replace H := qi H; obtain ⟨t116, A20, H⟩ := H
 (try dsimp only at H)
 have A2 := qf A20; clear A20; replace H := qi H; obtain ⟨t119, A30, H⟩ := H
 (try dsimp only at H)
 have A3 := qf A30; clear A30; simp only [Option.some.injEq, Prod.mk.injEq] at H; obtain ⟨rfl, rfl⟩ := H
 go_enter Tryd.func52, Tryd.ntmps52
 try go_wp2_with (first | ((with_reducible refine gate_dst (N := 1) rfl ?_); refine box_event ?hg (N := 1) ?hd (cs := #[.slice A0_0 l0_0.length c0_0, .slice A0_1 l0_1.length c0_1]) (t := 78) ?hr ?_; (case hd => rfl); (case hg => rfl); (case hr => first | (go_simp; done) | (go_simp; rfl)); intro gb114 hg w4 hbox hb; have n0_ := qf (below_step (by repeat (first | (with_reducible first | exact HB.out | apply qa | apply qb | apply qc) | exact HB.out)) hb); have n1_ := qf (hbox); have n2_ := qf ((by rw [hg]; exact (below_size (by repeat (first | (with_reducible first | exact HB.out | apply qa | apply qb | apply qc) | exact HB.out))) : w.heap.size ≤ gb114)); have n3_ := qf ((by rw [hg]; exact (below_size (by repeat (first | (with_reducible first | exact HB.out | apply qa | apply qb | apply qc) | exact HB.out))) : w.heap.size ≤ gb114)); clear HB; have HB := n0_; have BK114 := n1_; have GW114 := n2_; have GE114 := n3_; clear n0_ n1_ n2_ n3_; clear hb hbox hg) | ((with_reducible refine gate_dst (N := 2) rfl ?_); refine box_event ?hg (N := 2) ?hd (cs := #[.slice none 0 0, .slice none 0 0]) (t := 78) ?hr ?_; (case hd => rfl); (case hg => rfl); (case hr => first | (go_simp; done) | (go_simp; rfl)); intro gb115 hg w5 hbox hb; have n0_ := qf (blk_below (g := gb114) (o := .cells #[.slice A0_0 l0_0.length c0_0, .slice A0_1 l0_1.length c0_1] 78 (0, 0)) (by (with_reducible repeat (first | refine blk_drewN ?_ _ | refine blk_drew ?_ | refine qh ?_ _)); exact BK114.out) hb); have n1_ := qf (below_step (by repeat (first | (with_reducible first | exact HB.out | apply qa | apply qb | apply qc | refine qg ?_ GE114.out) | exact HB.out)) hb); have n2_ := qf (hbox); have n3_ := qf ((by rw [hg]; exact (below_size (by repeat (first | (with_reducible first | exact HB.out | apply qa | apply qb | apply qc | refine qg ?_ GE114.out) | exact HB.out))) : w.heap.size ≤ gb115)); have n4_ := qf ((by rw [hg]; exact (below_size (by repeat (first | (with_reducible first | exact HB.out | apply qa | apply qb | apply qc | refine qg ?_ GE114.out) | exact HB.out))) : w.heap.size ≤ gb115)); have n5_ := qf ((by rw [hg]; exact Nat.ne_of_lt (blk_lt (g := gb114) (o := .cells #[.slice A0_0 l0_0.length c0_0, .slice A0_1 l0_1.length c0_1] 78 (0, 0)) (by (with_reducible repeat (first | refine blk_drewN ?_ _ | refine blk_drew ?_ | refine qh ?_ _)); exact BK114.out)) : gb114 ≠ gb115)); have n6_ := qf ((by rw [hg]; exact Nat.ne_of_gt (blk_lt (g := gb114) (o := .cells #[.slice A0_0 l0_0.length c0_0, .slice A0_1 l0_1.length c0_1] 78 (0, 0)) (by (with_reducible repeat (first | refine blk_drewN ?_ _ | refine blk_drew ?_ | refine qh ?_ _)); exact BK114.out)) : gb115 ≠ gb114)); clear BK114; clear HB; have BK114 := n0_; have HB := n1_; have BK115 := n2_; have GW115 := n3_; have GE115 := n4_; have NB114_115 := n5_; have NB115_114 := n6_; clear n0_ n1_ n2_ n3_ n4_ n5_ n6_; clear hb hbox hg))
 have n0_ := qf (blk_drew BK114.out); have n1_ := qf (blk_drew BK115.out); have n2_ := qf (qc HB.out); clear BK114; clear BK115; clear HB; have BK114 := n0_; have BK115 := n1_; have HB := n2_; clear n0_ n1_ n2_; refine start_ (n := 8) (S := fun w' => w'.cell? ⟨gb114, 0, none⟩ = some (.slice A0_0 l0_0.length c0_0) ∧ w'.cell? ⟨gb114, 1, none⟩ = some (.slice A0_1 l0_1.length c0_1)) (ds := []) (bm 8 0) (by kernel_rfl) rfl rfl ⟨(blk_cell BK114.out 0).trans rfl, (blk_cell BK114.out 1).trans rfl⟩ (fun hHeld => ?_); refine with_tabW saltuslaw18_few.tab1 saltuslaw18_few.bits1 (fun HT_ HW_ => ?_); generalize w5.drew = w6 at BK114 BK115 HB hHeld ⊢; refine qz 0 3 ?_ (bm 8 1) rfl rfl HT_ (by kernel_rfl) (fun _ _ _ h => h) (by rfl) ?_ ?_ ?_ ?_; rotate_left; (intro w'; go_simp; with_reducible rfl); rotate_left; (simp only [Act.put, qs, qt, qu, i64_w, i32_w]; rfl); refine qz 3 6 ?_ (bm 8 9) rfl rfl HT_ (by kernel_rfl) (fun _ _ _ h => h) (by rfl) ?_ ?_ ?_ ?_; rotate_left; (intro w'; go_simp; with_reducible rfl); rotate_left; (simp only [Act.put, qs, qt, qu, i64_w, i32_w]; rfl); refine take_ (i := 1) (N := some 4) (v := ?_) (a' := ?_) (bm 8 11) rfl rfl (take_ofW HT_.out HW_.out (by kernel_rfl)) (fun _ _ _ h => h) (Or.inl ⟨by rfl, ?_⟩) hHeld ?_ ?_; rotate_left
 ·rintro w' ⟨s0, s1⟩
  go_simp; with_reducible rfl
 rotate_left; (simp only [Act.put, qs, qt, qu, i64_w, i32_w]; rfl); refine take_ (i := 4) (N := some 7) (v := ?_) (a' := ?_) (bm 8 27) rfl rfl (take_ofW HT_.out HW_.out (by kernel_rfl)) (fun _ _ _ h => h) (Or.inl ⟨by rfl, ?_⟩) hHeld ?_ ?_; rotate_left
 ·rintro w' ⟨s0, s1⟩
  go_simp; with_reducible rfl
 rotate_left; (simp only [Act.put, qs, qt, qu, i64_w, i32_w]; rfl); refine one_ (i := 2) (N := some 5) (bm 8 31) rfl rfl (one_of HT_.out (by kernel_rfl)) (by decide) (fun K hK => ?_); refine goes_ Tryd.func82 (by kernel_rfl) rfl #[.slice A0_0 l0_0.length c0_0] (by rfl) rfl rfl (by (try simp only [List.map_toArray, List.map_cons, List.map_nil]); first | done | rfl | (simp only [List.length_drop, qw]; rfl)) ?_
 with_reducible refine (saltuslaw18_cut.calls k _ _ l0_0 t116 _ ?side1 ?side2 A2.out).mono ?_
 (case side1 => repeat (first | exact (Kd.C_below HR0_0.out HB.out) | (with_reducible refine Kd.C_alloc ?_ _) | (with_reducible refine Kd.C_drewN ?_ _) | (with_reducible refine Kd.C_drew ?_)))
 (case side2 => exact HC0_0.out)
 rintro e w7 ⟨v117, rfl, ho0, hb⟩
 refine ⟨_, rfl, ?_⟩; have n0_ := qf (Kd.S_lower ho0 (below_size (by repeat (first | (with_reducible first | exact HB.out | apply qa | apply qb | apply qc | refine qg ?_ GE114.out | refine qg ?_ GE115.out) | exact HB.out)))); have n1_ := qf (blk_below (g := gb114) (o := .cells #[.slice A0_0 l0_0.length c0_0, .slice A0_1 l0_1.length c0_1] 78 (0, 0)) (by (with_reducible repeat (first | refine blk_drewN ?_ _ | refine blk_drew ?_ | refine qh ?_ _)); exact BK114.out) hb); have n2_ := qf (blk_below (g := gb115) (o := .cells #[.slice none 0 0, .slice none 0 0] 78 (0, 0)) (by (with_reducible repeat (first | refine blk_drewN ?_ _ | refine blk_drew ?_ | refine qh ?_ _)); exact BK115.out) hb); have n3_ := qf (below_step (by repeat (first | (with_reducible first | exact HB.out | apply qa | apply qb | apply qc | refine qg ?_ GE114.out | refine qg ?_ GE115.out) | exact HB.out)) hb); clear BK114; clear BK115; clear HB; have HO118 := n0_; have BK114 := n1_; have BK115 := n2_; have HB := n3_; clear n0_ n1_ n2_ n3_
 (try clear hb)
 (try clear hb2)
 (try clear hk)
 (try clear hi)
 (try clear ho0)
 refine hK.out _ _ ⟨(blk_cell BK114.out 0).trans rfl, (blk_cell BK114.out 1).trans rfl⟩ (fun hHeld => ?_); clear hK K; refine norm_ (a' := ?_) ?_ ?_; rotate_left
 ·show Act.put _ (some 5) _ = _
  simp only [Act.put, qs, qt, qu, i64_w, i32_w]; rfl
 refine one_ (i := 5) (N := some 8) (bm 8 63) rfl rfl (one_of HT_.out (by kernel_rfl)) (by decide) (fun K hK => ?_); refine goes_ Tryd.func82 (by kernel_rfl) rfl #[.slice A0_1 l0_1.length c0_1] (by rfl) rfl rfl (by (try simp only [List.map_toArray, List.map_cons, List.map_nil]); first | done | rfl | (simp only [List.length_drop, qw]; rfl)) ?_
 with_reducible refine (saltuslaw18_cut.calls k _ _ l0_1 t119 _ ?side1 ?side2 A3.out).mono ?_
 (case side1 => repeat (first | exact (Kd.C_below HR0_1.out HB.out) | (with_reducible refine Kd.C_alloc ?_ _) | (with_reducible refine Kd.C_drewN ?_ _) | (with_reducible refine Kd.C_drew ?_)))
 (case side2 => exact HC0_1.out)
 rintro e w8 ⟨v120, rfl, ho0, hb⟩
 refine ⟨_, rfl, ?_⟩; have n0_ := qf (Kd.S_elder' (by (with_reducible repeat (first | apply Kd.S_alloc | apply Kd.S_drewN | apply Kd.S_drew)); exact HO118.out) (Kd.S_base ho0) hb); have n1_ := qf (Kd.S_lower (Kd.S_new' ho0 (Kd.S_lt (by (with_reducible repeat (first | apply Kd.S_alloc | apply Kd.S_drewN | apply Kd.S_drew)); exact HO118.out))) (below_size (by repeat (first | (with_reducible first | exact HB.out | apply qa | apply qb | apply qc | refine qg ?_ GE114.out | refine qg ?_ GE115.out) | exact HB.out)))); have n2_ := qf (blk_below (g := gb114) (o := .cells #[.slice A0_0 l0_0.length c0_0, .slice A0_1 l0_1.length c0_1] 78 (0, 0)) (by (with_reducible repeat (first | refine blk_drewN ?_ _ | refine blk_drew ?_ | refine qh ?_ _)); exact BK114.out) hb); have n3_ := qf (blk_below (g := gb115) (o := .cells #[.slice none 0 0, .slice none 0 0] 78 (0, 0)) (by (with_reducible repeat (first | refine blk_drewN ?_ _ | refine blk_drew ?_ | refine qh ?_ _)); exact BK115.out) hb); have n4_ := qf (below_step (by repeat (first | (with_reducible first | exact HB.out | apply qa | apply qb | apply qc | refine qg ?_ GE114.out | refine qg ?_ GE115.out) | exact HB.out)) hb); clear HO118; clear BK114; clear BK115; clear HB; have HO118 := n0_; have HO121 := n1_; have BK114 := n2_; have BK115 := n3_; have HB := n4_; clear n0_ n1_ n2_ n3_ n4_
 (try clear hb)
 (try clear hb2)
 (try clear hk)
 (try clear hi)
 (try clear ho0)
 obtain ⟨Ao9, co9, eo9⟩ := Kd.S_slice HO121.out
 (first | subst eo9 | (injection eo9 with f1_ f2_ f3_; have f4_ := f1_.symm; have f5_ := f3_.symm; clear f1_ f2_ f3_; subst f4_; subst f5_))
 obtain ⟨Ao10, co10, eo10⟩ := Kd.S_slice HO118.out
 (first | subst eo10 | (injection eo10 with f1_ f2_ f3_; have f4_ := f1_.symm; have f5_ := f3_.symm; clear f1_ f2_ f3_; subst f4_; subst f5_))
 refine hK.out _ _ ⟨(blk_cell BK114.out 0).trans rfl, (blk_cell BK114.out 1).trans rfl⟩ (fun hHeld => ?_); clear hK K; refine norm_ (a' := ?_) ?_ ?_; rotate_left
 ·show Act.put _ (some 8) _ = _
  simp only [Act.put, qs, qt, qu, i64_w, i32_w]; rfl
 refine qz 6 9 ?_ (bm 8 127) rfl rfl HT_ (by kernel_rfl) (fun _ _ _ h => h) (by rfl) ?_ ?_ ?_ ?_; rotate_left; (intro w'; go_simp; with_reducible rfl); rotate_left; (simp only [Act.put, qs, qt, qu, i64_w, i32_w]; rfl); refine one_ (i := 7) (N := none) (bm 8 255) rfl rfl (one_of HT_.out (by kernel_rfl)) (by decide) (fun K hK => ?_); have hs11 : w8.cell? ⟨gb115, 0, none⟩ = some (.slice none 0 0) := (blk_cell BK115.out 0).trans rfl; have hfs11 := blk_frozen BK115.out 0; have hns11_0 := NB114_115.out; have hms11_0 := NB115_114.out; have hs12 : w8.cell? ⟨gb115, 1, none⟩ = some (.slice none 0 0) := (blk_cell BK115.out 1).trans rfl; have hfs12 := blk_frozen BK115.out 1; have hns12_0 := NB114_115.out; have hms12_0 := NB115_114.out; refine skip_ (w1 := ?_) (by rfl) rfl ?_ ?_; rotate_left; (go_simp; rfl); refine hK.out _ _ ⟨((cell_far (p := ⟨gb115, _, none⟩) NB114_115.out _).trans (((cell_far (p := ⟨gb115, _, none⟩) NB114_115.out _).trans (hHeld.1)))), ((cell_far (p := ⟨gb115, _, none⟩) NB114_115.out _).trans (((cell_far (p := ⟨gb115, _, none⟩) NB114_115.out _).trans (hHeld.2))))⟩ (fun hHeld => ?_); clear hK K; refine done_ (done_of HT_.out (by kernel_rfl)) ?_
 try go_wp2
 refine bodyPost_ret (results_cell_row rfl _ _ gb115 78 #[.slice Ao10 t116.length co10, .slice Ao9 t119.length co9] (0, 0) _ rfl (by (with_reducible repeat (first | refine blk_drewN ?_ _ | refine blk_drew ?_ | refine qh ?_ _)); refine blk_put (cs := #[.slice Ao10 t116.length co10, .slice none 0 0]) ?_ 1 _ rfl; (with_reducible repeat (first | refine blk_drewN ?_ _ | refine blk_drew ?_ | refine qh ?_ _)); refine blk_put (cs := #[.slice none 0 0, .slice none 0 0]) ?_ 0 _ rfl; (with_reducible repeat (first | refine blk_drewN ?_ _ | refine blk_drew ?_ | refine qh ?_ _)); exact BK115.out) Tryd.underlying78 rfl (by kernel_rfl)) rfl ?_; exact ⟨_, _, by first | rfl | (simp [errW_none, errW_some] <;> rfl) | (simp [*, errW_none, errW_some] <;> rfl), by (with_reducible repeat (first | apply Kd.S_alloc | apply Kd.S_drewN | apply Kd.S_drew)); exact Kd.S_mono (Kd.S_far (p := ⟨gb115, 1, none⟩) (Kd.S_far (p := ⟨gb115, 0, none⟩) (Kd.S_types HO118.out BK115.out (by decide)) (fun _ hk => hk.2) (.slice Ao10 t116.length co10)) (fun _ hk => hk.2) (.slice Ao9 t119.length co9)) (fun _ hk => hk.1.2), by (with_reducible repeat (first | apply Kd.S_alloc | apply Kd.S_drewN | apply Kd.S_drew)); exact Kd.S_mono (Kd.S_far (p := ⟨gb115, 1, none⟩) (Kd.S_far (p := ⟨gb115, 0, none⟩) (Kd.S_types HO121.out BK115.out (by decide)) (fun _ hk => hk.2) (.slice Ao10 t116.length co10)) (fun _ hk => hk.2) (.slice Ao9 t119.length co9)) (fun _ hk => hk.1.2), by repeat (first | (with_reducible first | exact HB.out | apply qa | apply qb | apply qc | refine qg ?_ GE114.out | refine qg ?_ GE115.out) | exact HB.out)⟩
end Go.Proofs.YtolbhliepkcihaaDoor.QPA
end
section
namespace Go.Proofs.YtolbhliepkcihaaDoor.QPA
open Go.RowKit Kinds YtolbhliepkcihaaDoorW.PrintWords YtolbhliepkcihaaDoorW.PrintLast YtolbhliepkcihaaDoorW.PrintMore
attribute [local go_sem] max2_int min2_int max_two min_two max_three min_three max_four min_four   -- for this text's walks alone
set_option linter.unusedVariables false
set_option linter.unusedSimpArgs false
/-! ### proof_Steps: function 53 -/
def proof_Steps.l0 : Nat → List ByteArray → Int → List (List ByteArray) → List (List ByteArray) → Option (List ByteArray × Int)
 | 0, _, _, _, _ => none
 | k + 1, x9, x32, x124000, x124001 => if x32 < 8 then (if 0 ≤ x32 then (if x32 < (x9.length : Int) then ((sha_Sum.f (rdOf ByteArray.empty x9 x32)).bind fun t134 => ((codec_Number.f (IntKind.u64.wrap ((IntKind.u64.wrap (x32)) + 1))).bind fun t135 => (if 1 + t135.size ≤ 9223372036854775807 then (if x32 < (x124000.length : Int) then ((strings_Join.f (rd_L1 x124000 x32) (⟨#[]⟩ : ByteArray)).bind fun t137 => (if ((⟨#[2]⟩ : ByteArray) ++ t135).size + t137.size ≤ 9223372036854775807 then (if (((⟨#[2]⟩ : ByteArray) ++ t135) ++ t137).size + t134.size ≤ 9223372036854775807 then (if x32 < (x124001.length : Int) then ((strings_Join.f (rd_L1 x124001 x32) (⟨#[]⟩ : ByteArray)).bind fun t139 => (if ((((⟨#[2]⟩ : ByteArray) ++ t135) ++ t137) ++ t134).size + t139.size ≤ 9223372036854775807 then (if x9.length < 8796093022208 then (proof_Steps.l0 k (x9 ++ [((((⟨#[2]⟩ : ByteArray) ++ t135) ++ t137) ++ t134) ++ t139]) (wrap64 (x32 + 1)) x124000 x124001) else (none)) else (none))) else (none)) else (none)) else (none))) else (none)) else (none)))) else (none)) else (none)) else (some (x9, 0))
def proof_Steps.f (k : Nat) (a0_0 : Int) (a0_1 : ByteArray) (l1_0 : List (List ByteArray)) (l1_1 : List (List ByteArray)) : Option (List ByteArray × Int) := (proof_may.f a0_0 a0_1 l1_0 l1_1).bind fun t124 => (if t124 = 0 then ((codec_Join.f (([(⟨false, a0_0, (⟨#[]⟩ : ByteArray)⟩ : S115), (⟨true, 0, a0_1⟩ : S115)] : List (S115)))).bind fun bt128 => (if 1 + bt128.1.size ≤ 9223372036854775807 then (proof_Steps.l0 k (([(⟨#[0]⟩ : ByteArray) ++ bt128.1] : List ByteArray)) 0 l1_0 l1_1) else (none))) else (some (([] : List ByteArray), t124)))
def proof_Steps.T10 : Bool × List (List Nat × List Nat) := (true, [([], []), ([], []), ([1], [1]), ([2], [2]), ([3], [3]), ([4], [4]), ([], []), ([6], [6]), ([], []), ([7, 8], [7, 8]), ([9], [9]), ([10, 4], [10]), ([5, 11], [5, 11]), ([], []), ([12, 13], [12, 13]), ([], []), ([15], [15]), ([], []), ([16, 17], [16, 17]), ([18], [18]), ([19, 11], [19]), ([14, 20], [14, 20]), ([21], [21]), ([0, 22, 20], [0, 22]), ([23, 23, 0, 1, 2, 3, 4, 5, 6, 7, 8, 9, 10, 11, 12, 13, 14, 15, 16, 17, 18, 19, 20, 21, 22, 23], [0, 23])])
def proof_Steps.B10 : List Nat := [0, 0, 2, 6, 14, 30, 0, 64, 0, 448, 960, 2014, 4094, 0, 16382, 0, 32768, 0, 229376, 491520, 1019870, 2097150, 4194302, 8388607, 16777215]
theorem proof_Steps.tab10 : rtab .any (opsOf Tryd.f53 10) = proof_Steps.T10 := by kernel_rfl
theorem proof_Steps.bits10 : waitsOk proof_Steps.T10.2 proof_Steps.B10 = true := by kernel_rfl
set_option maxHeartbeats 8000000 in
set_option maxRecDepth 100000 in
theorem proof_Steps.calls (k : Nat) (a0_0 : Int) (a0_1 : ByteArray) (A1_0 : Option Addr) (c1_0 : Nat) (l1_0 : List (List ByteArray)) (A1_1 : Option Addr) (c1_1 : Nat) (l1_1 : List (List ByteArray)) (r1 : List ByteArray) (r2 : Int) (w : World) (hr1_0 : Kd.C (Kd.slice 9 Kd.string) w A1_0 l1_0.length l1_0) (hc1_0 : l1_0.length ≤ c1_0) (hr1_1 : Kd.C (Kd.slice 9 Kd.string) w A1_1 l1_1.length l1_1) (hc1_1 : l1_1.length ≤ c1_1) (h : proof_Steps.f k a0_0 a0_1 l1_0 l1_1 = some (r1, r2)) :
  Calls Tryd.prog 53 #[.agg #[.int .u64 a0_0, .string a0_1], .agg #[.slice A1_0 l1_0.length c1_0, .slice A1_1 l1_1.length c1_1]] w fun e w' => ∃ v0_ : Value, e = .returned (.tuple #[v0_, .int .i64 r2]) ∧ Kd.R Kd.string 9 w' w.heap.size (fun _ => True) v0_ r1 ∧ Below w.heap.size w w' := by
 have hu46 := Tryd.underlying46; have hu78 := Tryd.underlying78; have hu115 := Tryd.underlying115; have HR1_0 := qf hr1_0; have HC1_0 := qf hc1_0; clear hr1_0 hc1_0; have HR1_1 := qf hr1_1; have HC1_1 := qf hc1_1; clear hr1_1 hc1_1; have HB := qf (Below.refl w.heap.size w); have H : ((proof_may.f a0_0 a0_1 l1_0 l1_1).bind fun t124 => (if t124 = 0 then ((codec_Join.f (([(⟨false, a0_0, (⟨#[]⟩ : ByteArray)⟩ : S115), (⟨true, 0, a0_1⟩ : S115)] : List (S115)))).bind fun bt128 => (if 1 + bt128.1.size ≤ 9223372036854775807 then (proof_Steps.l0 k (([(⟨#[0]⟩ : ByteArray) ++ bt128.1] : List ByteArray)) 0 l1_0 l1_1) else (none))) else (some (([] : List ByteArray), t124)))) = some (r1, r2) := h; clear h; replace H := qi H; obtain ⟨t124, A30, H⟩ := H
 (try dsimp only at H)
 have A3 := qf A30; clear A30
 by_cases c4 : t124 = 0
 ·rw [if_pos c4] at H; have c4b0 : (t124 == 0) = true := beq_iff_eq.mpr c4; have c4b1 : (t124 != 0) = false := bne_eq_false_iff_eq.mpr c4; clear c4
  obtain ⟨y125, hy125⟩ : ∃ y_ : List (S115), y_ = (([(⟨false, a0_0, (⟨#[]⟩ : ByteArray)⟩ : S115), (⟨true, 0, a0_1⟩ : S115)] : List (S115))) := ⟨_, rfl⟩
  replace H : ((codec_Join.f y125).bind fun bt128 => (if 1 + bt128.1.size ≤ 9223372036854775807 then (proof_Steps.l0 k (([(⟨#[0]⟩ : ByteArray) ++ bt128.1] : List ByteArray)) 0 l1_0 l1_1) else (none))) = some (r1, r2) := by first | (rw [hy125]; with_reducible exact H) | (have H2_ := (qv _ _).symm.trans H; rw [hy125]; with_reducible exact H2_) | (have H2_ := (qv _ _).symm.trans H; with_reducible exact H2_) | with_reducible exact H | (rw [hy125]; exact H) | exact H
  have Ny125 := qf hy125; clear hy125; replace H := qi H; obtain ⟨⟨t128, t129⟩, A50, H⟩ := H
  (try dsimp only at H)
  have A5 := qf A50; clear A50
  by_cases c6 : 1 + t128.size ≤ 9223372036854775807
  ·rw [if_pos c6] at H; have c6b0 := eq_true c6; have c6b1 : decide (1 + t128.size ≤ 9223372036854775807) = true := qj c6
   try have c6b2 : (9223372036854775807 < 1 + t128.size) = False := eq_false (Nat.not_lt.2 c6)
   obtain ⟨y130, hy130⟩ : ∃ y_ : List ByteArray, y_ = (([(⟨#[0]⟩ : ByteArray) ++ t128] : List ByteArray)) := ⟨_, rfl⟩
   replace H : (proof_Steps.l0 k y130 0 l1_0 l1_1) = some (r1, r2) := by first | (rw [hy130]; with_reducible exact H) | (have H2_ := (qv _ _).symm.trans H; rw [hy130]; with_reducible exact H2_) | (have H2_ := (qv _ _).symm.trans H; with_reducible exact H2_) | with_reducible exact H | (rw [hy130]; exact H) | exact H
   have Ny130 := qf hy130; clear hy130; have H' := qf H; clear H
   go_enter Tryd.func53, Tryd.ntmps53
   go_wp2_with (first | ((with_reducible refine gate_dst (N := 2) rfl ?_); refine box_event ?hg (N := 2) ?hd (cs := #[.int .u64 a0_0, .string a0_1]) (t := 46) ?hr ?_; (case hd => rfl); (case hg => rfl); (case hr => first | (go_simp; done) | (go_simp; rfl)); intro gb122 hg w7 hbox hb; have n0_ := qf (below_step (by repeat (first | (with_reducible first | exact HB.out | apply qa | apply qb | apply qc) | exact HB.out)) hb); have n1_ := qf (hbox); have n2_ := qf ((by rw [hg]; exact (below_size (by repeat (first | (with_reducible first | exact HB.out | apply qa | apply qb | apply qc) | exact HB.out))) : w.heap.size ≤ gb122)); have n3_ := qf ((by rw [hg]; exact (below_size (by repeat (first | (with_reducible first | exact HB.out | apply qa | apply qb | apply qc) | exact HB.out))) : w.heap.size ≤ gb122)); clear HB; have HB := n0_; have BK122 := n1_; have GW122 := n2_; have GE122 := n3_; clear n0_ n1_ n2_ n3_; clear hb hbox hg) | ((with_reducible refine gate_dst (N := 3) rfl ?_); refine box_event ?hg (N := 3) ?hd (cs := #[.slice A1_0 l1_0.length c1_0, .slice A1_1 l1_1.length c1_1]) (t := 78) ?hr ?_; (case hd => rfl); (case hg => rfl); (case hr => first | (go_simp; done) | (go_simp; rfl)); intro gb123 hg w8 hbox hb; have n0_ := qf (blk_below (g := gb122) (o := .cells #[.int .u64 a0_0, .string a0_1] 46 (0, 0)) (by (with_reducible repeat (first | refine blk_drewN ?_ _ | refine blk_drew ?_ | refine qh ?_ _)); exact BK122.out) hb); have n1_ := qf (below_step (by repeat (first | (with_reducible first | exact HB.out | apply qa | apply qb | apply qc | refine qg ?_ GE122.out) | exact HB.out)) hb); have n2_ := qf (hbox); have n3_ := qf ((by rw [hg]; exact (below_size (by repeat (first | (with_reducible first | exact HB.out | apply qa | apply qb | apply qc | refine qg ?_ GE122.out) | exact HB.out))) : w.heap.size ≤ gb123)); have n4_ := qf ((by rw [hg]; exact (below_size (by repeat (first | (with_reducible first | exact HB.out | apply qa | apply qb | apply qc | refine qg ?_ GE122.out) | exact HB.out))) : w.heap.size ≤ gb123)); have n5_ := qf ((by rw [hg]; exact Nat.ne_of_lt (blk_lt (g := gb122) (o := .cells #[.int .u64 a0_0, .string a0_1] 46 (0, 0)) (by (with_reducible repeat (first | refine blk_drewN ?_ _ | refine blk_drew ?_ | refine qh ?_ _)); exact BK122.out)) : gb122 ≠ gb123)); have n6_ := qf ((by rw [hg]; exact Nat.ne_of_gt (blk_lt (g := gb122) (o := .cells #[.int .u64 a0_0, .string a0_1] 46 (0, 0)) (by (with_reducible repeat (first | refine blk_drewN ?_ _ | refine blk_drew ?_ | refine qh ?_ _)); exact BK122.out)) : gb123 ≠ gb122)); clear BK122; clear HB; have BK122 := n0_; have HB := n1_; have BK123 := n2_; have GW123 := n3_; have GE123 := n4_; have NB122_123 := n5_; have NB123_122 := n6_; clear n0_ n1_ n2_ n3_ n4_ n5_ n6_; clear hb hbox hg; have hnb9 := NB122_123.out; have hnc9 := NB123_122.out; have hcz10_0 : w8.cell? ⟨gb122, 0, none⟩ = some (.int .u64 a0_0) := (blk_cell BK122.out 0).trans rfl; have hcz10_1 : w8.cell? ⟨gb122, 1, none⟩ = some (.string a0_1) := (blk_cell BK122.out 1).trans rfl; have hfz10_0 := blk_frozen BK122.out 0; have hfz10_1 := blk_frozen BK122.out 1; have hcz11_0 : w8.cell? ⟨gb123, 0, none⟩ = some (.slice A1_0 l1_0.length c1_0) := (blk_cell BK123.out 0).trans rfl; have hcz11_1 : w8.cell? ⟨gb123, 1, none⟩ = some (.slice A1_1 l1_1.length c1_1) := (blk_cell BK123.out 1).trans rfl; have hfz11_0 := blk_frozen BK123.out 0; have hfz11_1 := blk_frozen BK123.out 1) | ((with_reducible refine gate_callee (f := 83) rfl ?_); refine goesL_ (some 14) rfl rfl Tryd.func83 (by kernel_rfl) rfl #[.agg #[.int .u64 a0_0, .string a0_1], .agg #[.slice A1_0 l1_0.length c1_0, .slice A1_1 l1_1.length c1_1]] rfl (by (try simp only [List.map_toArray, List.map_cons, List.map_nil]); first | done | rfl | (simp only [List.length_drop, qw]; rfl)) ?_; (with_reducible refine (proof_may.calls a0_0 a0_1 _ _ l1_0 _ _ l1_1 t124 _ ?side1 ?side2 ?side3 ?side4 A3.out).mono ?_); (case side1 => repeat (first | exact (Kd.C_below HR1_0.out HB.out) | (with_reducible refine Kd.C_alloc ?_ _) | (with_reducible refine Kd.C_drewN ?_ _) | (with_reducible refine Kd.C_drew ?_))); (case side2 => exact HC1_0.out); (case side3 => repeat (first | exact (Kd.C_below HR1_1.out HB.out) | (with_reducible refine Kd.C_alloc ?_ _) | (with_reducible refine Kd.C_drewN ?_ _) | (with_reducible refine Kd.C_drew ?_))); (case side4 => exact HC1_1.out); rintro e w12 ⟨rfl, hb⟩; refine ⟨_, rfl, ?_⟩; have n0_ := qf (blk_below (g := gb122) (o := .cells #[.int .u64 a0_0, .string a0_1] 46 (0, 0)) (by (with_reducible repeat (first | refine blk_drewN ?_ _ | refine blk_drew ?_ | refine qh ?_ _)); exact BK122.out) hb); have n1_ := qf (blk_below (g := gb123) (o := .cells #[.slice A1_0 l1_0.length c1_0, .slice A1_1 l1_1.length c1_1] 78 (0, 0)) (by (with_reducible repeat (first | refine blk_drewN ?_ _ | refine blk_drew ?_ | refine qh ?_ _)); exact BK123.out) hb); have n2_ := qf (below_step (by repeat (first | (with_reducible first | exact HB.out | apply qa | apply qb | apply qc | refine qg ?_ GE122.out | refine qg ?_ GE123.out) | exact HB.out)) hb); clear BK122; clear BK123; clear HB; have BK122 := n0_; have BK123 := n1_; have HB := n2_; clear n0_ n1_ n2_; (try clear hb); (try clear hb2); (try clear hk); (try clear hi); have hcz13_0 : w12.cell? ⟨gb122, 0, none⟩ = some (.int .u64 a0_0) := (blk_cell BK122.out 0).trans rfl; have hcz13_1 : w12.cell? ⟨gb122, 1, none⟩ = some (.string a0_1) := (blk_cell BK122.out 1).trans rfl; have hfz13_0 := blk_frozen BK122.out 0; have hfz13_1 := blk_frozen BK122.out 1) | ((with_reducible refine gate_dst (N := 25) rfl ?_); refine Kd.R_lit k115 _ 115 ?hg (N := 25) ?hd (xs := ([(⟨false, a0_0, (⟨#[]⟩ : ByteArray)⟩ : S115), (⟨true, 0, a0_1⟩ : S115)] : List (S115))) (inner := [.bool false, .int .u64 a0_0, .string (⟨#[]⟩ : ByteArray), .bool true, .int .u64 0, .string a0_1]) (ok := fun _ => True) (okp := fun _ => True) ?hr ?hp (fun _ hk => hk) trivial (Below.refl _ _) (Nat.le_refl _) (by simp) ?_; (case hd => rfl); (case hg => rfl); (case hr => first | (go_simp; done) | (go_simp; rfl)); (case hp => exact (Reps.c3 (show Kd.M k115 _ _ _ (⟨false, a0_0, (⟨#[]⟩ : ByteArray)⟩ : S115) [.bool false, .int .u64 a0_0, .string (⟨#[]⟩ : ByteArray)] from (k115_mkM _ _ _ (⟨false, a0_0, (⟨#[]⟩ : ByteArray)⟩ : S115) )) (Reps.c3 (show Kd.M k115 _ _ _ (⟨true, 0, a0_1⟩ : S115) [.bool true, .int .u64 0, .string a0_1] from (k115_mkM _ _ _ (⟨true, 0, a0_1⟩ : S115) )) (Reps.none _ _)))); intro v126 w14 ho15 hb hg_ hnew_; clear hg_ hnew_; (first | rw [← Ny125.out] at ho15 | (simp only [Int.reduceToNat] at ho15; rw [← Ny125.out] at ho15)); have n0_ := qf (Kd.R_lower ho15 (below_size (by repeat (first | (with_reducible first | exact HB.out | apply qa | apply qb | apply qc | refine qg ?_ GE122.out | refine qg ?_ GE123.out) | exact HB.out)))); have n1_ := qf (blk_below (g := gb122) (o := .cells #[.int .u64 a0_0, .string a0_1] 46 (0, 0)) (by (with_reducible repeat (first | refine blk_drewN ?_ _ | refine blk_drew ?_ | refine qh ?_ _)); exact BK122.out) hb); have n2_ := qf (blk_below (g := gb123) (o := .cells #[.slice A1_0 l1_0.length c1_0, .slice A1_1 l1_1.length c1_1] 78 (0, 0)) (by (with_reducible repeat (first | refine blk_drewN ?_ _ | refine blk_drew ?_ | refine qh ?_ _)); exact BK123.out) hb); have n3_ := qf (below_step (by repeat (first | (with_reducible first | exact HB.out | apply qa | apply qb | apply qc | refine qg ?_ GE122.out | refine qg ?_ GE123.out) | exact HB.out)) hb); clear BK122; clear BK123; clear HB; have HO127 := n0_; have BK122 := n1_; have BK123 := n2_; have HB := n3_; clear n0_ n1_ n2_ n3_; clear hb ho15; obtain ⟨Ao16, co16, eo16⟩ := Kd.R_slice HO127.out; subst eo16) | ((with_reducible refine gate_callee (f := 84) rfl ?_); refine goesL_ (some 26) rfl rfl Tryd.func84 (by kernel_rfl) rfl #[.slice Ao16 y125.length co16] rfl (by (try simp only [List.map_toArray, List.map_cons, List.map_nil]); first | done | rfl | (simp only [List.length_drop, qw]; rfl)) ?_; (with_reducible refine (codec_Join.calls _ _ y125 t128 t129 _ ?side1 ?side2 A5.out).mono ?_); (case side1 => repeat (first | exact (Kd.R_reads' HO127.out).2.2 | (with_reducible refine Kd.C_alloc ?_ _) | (with_reducible refine Kd.C_drewN ?_ _) | (with_reducible refine Kd.C_drew ?_))); (case side2 => exact (Kd.R_reads' HO127.out).2.1); rintro e w17 ⟨rfl, hb⟩; refine ⟨_, rfl, ?_⟩; have n0_ := qf (Kd.R_below (by (with_reducible repeat (first | apply Kd.R_alloc | apply Kd.R_drewN | apply Kd.R_drew)); exact HO127.out) hb); have n1_ := qf (blk_below (g := gb122) (o := .cells #[.int .u64 a0_0, .string a0_1] 46 (0, 0)) (by (with_reducible repeat (first | refine blk_drewN ?_ _ | refine blk_drew ?_ | refine qh ?_ _)); exact BK122.out) hb); have n2_ := qf (blk_below (g := gb123) (o := .cells #[.slice A1_0 l1_0.length c1_0, .slice A1_1 l1_1.length c1_1] 78 (0, 0)) (by (with_reducible repeat (first | refine blk_drewN ?_ _ | refine blk_drew ?_ | refine qh ?_ _)); exact BK123.out) hb); have n3_ := qf (below_step (by repeat (first | (with_reducible first | exact HB.out | apply qa | apply qb | apply qc | refine qg ?_ GE122.out | refine qg ?_ GE123.out) | exact HB.out)) hb); clear HO127; clear BK122; clear BK123; clear HB; have HO127 := n0_; have BK122 := n1_; have BK123 := n2_; have HB := n3_; clear n0_ n1_ n2_ n3_; (try clear hb); (try clear hb2); (try clear hk); (try clear hi)) | ((with_reducible refine gate_dst (N := 31) rfl ?_); refine Kd.R_lit Kd.string _ 9 ?hg (N := 31) ?hd (xs := ([(⟨#[0]⟩ : ByteArray) ++ t128] : List ByteArray)) (inner := [.string ((⟨#[0]⟩ : ByteArray) ++ t128)]) (ok := fun _ => True) (okp := fun _ => True) ?hr ?hp (fun _ hk => hk) trivial (Below.refl _ _) (Nat.le_refl _) (by simp) ?_; (case hd => rfl); (case hg => rfl); (case hr => first | (go_simp; done) | (go_simp; rfl)); (case hp => exact (Reps.one (show Kd.M Kd.string _ _ _ ((⟨#[0]⟩ : ByteArray) ++ t128) [.string ((⟨#[0]⟩ : ByteArray) ++ t128)] from rfl) (Reps.none _ _))); intro v131 w18 ho19 hb hg_ hnew_; clear hg_ hnew_; (first | rw [← Ny130.out] at ho19 | (simp only [Int.reduceToNat] at ho19; rw [← Ny130.out] at ho19)); have n0_ := qf (Kd.R_below (by (with_reducible repeat (first | apply Kd.R_alloc | apply Kd.R_drewN | apply Kd.R_drew)); exact HO127.out) hb); have n1_ := qf (Kd.R_lower ho19 (below_size (by repeat (first | (with_reducible first | exact HB.out | apply qa | apply qb | apply qc | refine qg ?_ GE122.out | refine qg ?_ GE123.out) | exact HB.out)))); have n2_ := qf (blk_below (g := gb122) (o := .cells #[.int .u64 a0_0, .string a0_1] 46 (0, 0)) (by (with_reducible repeat (first | refine blk_drewN ?_ _ | refine blk_drew ?_ | refine qh ?_ _)); exact BK122.out) hb); have n3_ := qf (blk_below (g := gb123) (o := .cells #[.slice A1_0 l1_0.length c1_0, .slice A1_1 l1_1.length c1_1] 78 (0, 0)) (by (with_reducible repeat (first | refine blk_drewN ?_ _ | refine blk_drew ?_ | refine qh ?_ _)); exact BK123.out) hb); have n4_ := qf (below_step (by repeat (first | (with_reducible first | exact HB.out | apply qa | apply qb | apply qc | refine qg ?_ GE122.out | refine qg ?_ GE123.out) | exact HB.out)) hb); clear HO127; clear BK122; clear BK123; clear HB; have HO127 := n0_; have HO132 := n1_; have BK122 := n2_; have BK123 := n3_; have HB := n4_; clear n0_ n1_ n2_ n3_ n4_; clear hb ho19))
   go_loopg [9, 32] k (fun kq v9 v32 w' => ∃ (x9_1 : List ByteArray) (x32_1 : Int), v32 = .int .i64 x32_1 ∧ Aside0 (proof_Steps.l0 kq x9_1 x32_1 l1_0 l1_1 = some (r1, r2)) ∧ Aside0 (kq ≤ k) ∧ Aside0 (Kd.R Kd.string 9 w' w.heap.size (fun _ => True) v9 x9_1) ∧ Aside0 (w'.heap[gb122]? = some (.cells #[.int .u64 a0_0, .string a0_1] 46 (0, 0))) ∧ Aside0 (w'.heap[gb123]? = some (.cells #[(.slice A1_0 l1_0.length c1_0), (.slice A1_1 l1_1.length c1_1)] 78 (0, 0))) ∧ Aside0 (Below w.heap.size w w'))
   case atStart => exact ⟨(y130), (0), (by first | rfl | (simp; done) | (simp [*]; done)), H', ⟨Nat.le_refl _⟩, ⟨by (with_reducible repeat (first | apply Kd.R_alloc | apply Kd.R_drewN | apply Kd.R_drew)); exact HO132.out⟩, ⟨by (with_reducible repeat (first | refine blk_drewN ?_ _ | refine blk_drew ?_ | refine qh ?_ _)); exact BK122.out⟩, ⟨by (with_reducible repeat (first | refine blk_drewN ?_ _ | refine blk_drew ?_ | refine qh ?_ _)); exact BK123.out⟩, ⟨by repeat (first | (with_reducible first | exact HB.out | apply qa | apply qb | apply qc | refine qg ?_ GE122.out | refine qg ?_ GE123.out) | exact HB.out)⟩⟩
   case round =>
    clear H'; (try clear c1); (try clear p2); (try clear c3); (try clear c4); (try clear c4b0); (try clear c4b1); (try clear c5); (try clear c6); (try clear c6b0); (try clear c6b1); (try clear c6b2); (try clear c8); (try clear c9); (try clear hcz10_0); (try clear hcz10_1); (try clear hcz11_0); (try clear hcz11_1); (try clear hcz13_0); (try clear hcz13_1); (try clear hfz10_0); (try clear hfz10_1); (try clear hfz11_0); (try clear hfz11_1); (try clear hfz13_0); (try clear hfz13_1); obtain ⟨x9_1, x32_1, rfl, HA, HK1, HO_9, BK122, BK123, HB⟩ := hrel
    cases gk with
    | zero => exact absurd HA.out (by simp [proof_Steps.l0])
    | succ k1 =>
     have H := HA.out; clear HA; simp only [proof_Steps.l0] at H
     by_cases c20 : x32_1 < 8
     ·rw [if_pos c20] at H; have c20b0 : decide (x32_1 < 8) = true := qj c20; clear c20
      by_cases c21 : 0 ≤ x32_1
      ·rw [if_pos c21] at H; have c21b0 : decide (0 ≤ x32_1) = true := qj c21; clear c21
       by_cases c22 : x32_1 < (x9_1.length : Int)
       ·rw [if_pos c22] at H; have c22b0 : decide (x32_1 < (x9_1.length : Int)) = true := qj c22; clear c22; replace H := qi H; obtain ⟨t134, A230, H⟩ := H
        (try dsimp only at H)
        have A23 := qf A230; clear A230; replace H := qi H; obtain ⟨t135, A240, H⟩ := H
        (try dsimp only at H)
        have A24 := qf A240; clear A240
        by_cases c25 : 1 + t135.size ≤ 9223372036854775807
        ·rw [if_pos c25] at H; have c25b0 := eq_true c25; have c25b1 : decide (1 + t135.size ≤ 9223372036854775807) = true := qj c25
         try have c25b2 : (9223372036854775807 < 1 + t135.size) = False := eq_false (Nat.not_lt.2 c25)
         by_cases c26 : x32_1 < (l1_0.length : Int)
         ·rw [if_pos c26] at H; have c26b0 : decide (x32_1 < (l1_0.length : Int)) = true := qj c26; clear c26; replace H := qi H; obtain ⟨t137, A270, H⟩ := H
          (try dsimp only at H)
          have A27 := qf A270; clear A270
          by_cases c28 : ((⟨#[2]⟩ : ByteArray) ++ t135).size + t137.size ≤ 9223372036854775807
          ·rw [if_pos c28] at H; have c28b0 := eq_true c28; have c28b1 : decide (((⟨#[2]⟩ : ByteArray) ++ t135).size + t137.size ≤ 9223372036854775807) = true := qj c28
           try have c28b2 : (9223372036854775807 < ((⟨#[2]⟩ : ByteArray) ++ t135).size + t137.size) = False := eq_false (Nat.not_lt.2 c28)
           have c28m : (9223372036854775807 < 1 + t135.size + t137.size) = False := by have z0_ : (⟨#[2]⟩ : ByteArray).size = 1 := rfl; have h_ := c28; simp only [ByteArray.size_extract, ByteArray.size_append, Nat.min_self] at h_; exact eq_false (by omega)
           by_cases c29 : (((⟨#[2]⟩ : ByteArray) ++ t135) ++ t137).size + t134.size ≤ 9223372036854775807
           ·rw [if_pos c29] at H; have c29b0 := eq_true c29; have c29b1 : decide ((((⟨#[2]⟩ : ByteArray) ++ t135) ++ t137).size + t134.size ≤ 9223372036854775807) = true := qj c29
            try have c29b2 : (9223372036854775807 < (((⟨#[2]⟩ : ByteArray) ++ t135) ++ t137).size + t134.size) = False := eq_false (Nat.not_lt.2 c29)
            have c29m : (9223372036854775807 < (1 + t135.size + t137.size) + t134.size) = False := by have z0_ : (⟨#[2]⟩ : ByteArray).size = 1 := rfl; have h_ := c29; simp only [ByteArray.size_extract, ByteArray.size_append, Nat.min_self] at h_; exact eq_false (by omega)
            by_cases c30 : x32_1 < (l1_1.length : Int)
            ·rw [if_pos c30] at H; have c30b0 : decide (x32_1 < (l1_1.length : Int)) = true := qj c30; clear c30; replace H := qi H; obtain ⟨t139, A310, H⟩ := H
             (try dsimp only at H)
             have A31 := qf A310; clear A310
             by_cases c32 : ((((⟨#[2]⟩ : ByteArray) ++ t135) ++ t137) ++ t134).size + t139.size ≤ 9223372036854775807
             ·rw [if_pos c32] at H; have c32b0 := eq_true c32; have c32b1 : decide (((((⟨#[2]⟩ : ByteArray) ++ t135) ++ t137) ++ t134).size + t139.size ≤ 9223372036854775807) = true := qj c32
              try have c32b2 : (9223372036854775807 < ((((⟨#[2]⟩ : ByteArray) ++ t135) ++ t137) ++ t134).size + t139.size) = False := eq_false (Nat.not_lt.2 c32)
              have c32m : (9223372036854775807 < ((1 + t135.size + t137.size) + t134.size) + t139.size) = False := by have z0_ : (⟨#[2]⟩ : ByteArray).size = 1 := rfl; have h_ := c32; simp only [ByteArray.size_extract, ByteArray.size_append, Nat.min_self] at h_; exact eq_false (by omega)
              by_cases c33 : x9_1.length < 8796093022208
              ·rw [if_pos c33] at H; have LMc33 := qf c33; clear c33
               obtain ⟨y140, hy140⟩ : ∃ y_ : List ByteArray, y_ = (x9_1 ++ [((((⟨#[2]⟩ : ByteArray) ++ t135) ++ t137) ++ t134) ++ t139]) := ⟨_, rfl⟩
               replace H : (proof_Steps.l0 k1 y140 (wrap64 (x32_1 + 1)) l1_0 l1_1) = some (r1, r2) := by first | (rw [hy140]; with_reducible exact H) | (have H2_ := (qv _ _).symm.trans H; rw [hy140]; with_reducible exact H2_) | (have H2_ := (qv _ _).symm.trans H; with_reducible exact H2_) | with_reducible exact H | (rw [hy140]; exact H) | exact H
               have Ny140 := qf hy140; clear hy140; have H' := qf H; clear H; obtain ⟨Ao34, co34, eo34⟩ := Kd.R_slice HO_9.out; subst eo34; have p133 : 0 ≤ (x32_1 : Int) := qe (by first | (with_reducible assumption) | assumption); have q133 : x32_1 < (x9_1.length : Int) := qe (by first | (with_reducible assumption) | assumption); obtain ⟨ad133, e133, hx133_0⟩ := Kd.at_string (Kd.R_reads' HO_9.out).2.2 x32_1 p133 q133; cases e133; replace p133 := eq_true p133; replace q133 := eq_true q133
               try go_wp2_with (first | ((with_reducible refine gate_callee (f := 85) rfl ?_); refine goesL_ (some 39) rfl rfl Tryd.func85 (by kernel_rfl) rfl #[.string (rdOf ByteArray.empty x9_1 x32_1)] rfl (by (try simp only [List.map_toArray, List.map_cons, List.map_nil]); first | done | rfl | (simp only [List.length_drop, qw]; rfl)) ?_; (with_reducible refine (sha_Sum.calls (rdOf ByteArray.empty x9_1 x32_1) t134 _ A23.out).mono ?_); rintro e w35 ⟨rfl, hb⟩; refine ⟨_, rfl, ?_⟩; have n0_ := qf (Kd.R_below (by (with_reducible repeat (first | apply Kd.R_alloc | apply Kd.R_drewN | apply Kd.R_drew)); exact HO_9.out) hb); have n1_ := qf (blk_below (g := gb122) (o := .cells #[.int .u64 a0_0, .string a0_1] 46 (0, 0)) (by (with_reducible repeat (first | refine blk_drewN ?_ _ | refine blk_drew ?_ | refine qh ?_ _)); exact BK122.out) hb); have n2_ := qf (blk_below (g := gb123) (o := .cells #[.slice A1_0 l1_0.length c1_0, .slice A1_1 l1_1.length c1_1] 78 (0, 0)) (by (with_reducible repeat (first | refine blk_drewN ?_ _ | refine blk_drew ?_ | refine qh ?_ _)); exact BK123.out) hb); have n3_ := qf (below_step (by repeat (first | (with_reducible first | exact HB.out | apply qa | apply qb | apply qc | refine qg ?_ GE122.out | refine qg ?_ GE123.out) | exact HB.out)) hb); clear HO_9; clear BK122; clear BK123; clear HB; have HO_9 := n0_; have BK122 := n1_; have BK123 := n2_; have HB := n3_; clear n0_ n1_ n2_ n3_; (try clear hb); (try clear hb2); (try clear hk); (try clear hi)))
               have n0_ := qf (Kd.R_drew HO_9.out); have n1_ := qf (blk_drew BK122.out); have n2_ := qf (blk_drew BK123.out); have n3_ := qf (qc HB.out); clear HO_9; clear BK122; clear BK123; clear HB; have HO_9 := n0_; have BK122 := n1_; have BK123 := n2_; have HB := n3_; clear n0_ n1_ n2_ n3_; have p136 : 0 ≤ (x32_1 : Int) := qe (by first | (with_reducible assumption) | assumption); have q136 : x32_1 < (l1_0.length : Int) := qe (by first | (with_reducible assumption) | assumption); obtain ⟨ad136, A136_0, c136_0, e136, hx136_0, hl136_0, hi136_0⟩ := at_L1 HR1_0.out x32_1 p136 q136; have hw136_0 := hx136_0; cases e136; replace hx136_0 := (HB.out.cell (qd w _ hx136_0)).trans hx136_0; have HR136_0 := qf hi136_0; have HC136_0 := qf hl136_0; clear hi136_0 hl136_0; replace p136 := eq_true p136; replace q136 := eq_true q136; have p138 : 0 ≤ (x32_1 : Int) := qe (by first | (with_reducible assumption) | assumption); have q138 : x32_1 < (l1_1.length : Int) := qe (by first | (with_reducible assumption) | assumption); obtain ⟨ad138, A138_0, c138_0, e138, hx138_0, hl138_0, hi138_0⟩ := at_L1 HR1_1.out x32_1 p138 q138; have hw138_0 := hx138_0; cases e138; replace hx138_0 := (HB.out.cell (qd w _ hx138_0)).trans hx138_0; have HR138_0 := qf hi138_0; have HC138_0 := qf hl138_0; clear hi138_0 hl138_0; replace p138 := eq_true p138; replace q138 := eq_true q138; refine start_ (n := 25) (S := fun w' => w'.cell? ⟨gb123, 0, none⟩ = some (.slice (some ad136) l1_0.length c1_0) ∧ w'.cell? ⟨gb123, 1, none⟩ = some (.slice (some ad138) l1_1.length c1_1) ∧ w'.cell? (ad136.add (x32_1).toNat) = some (.slice A136_0 (rd_L1 l1_0 x32_1).length c136_0) ∧ w'.cell? (ad138.add (x32_1).toNat) = some (.slice A138_0 (rd_L1 l1_1 x32_1).length c138_0)) (ds := []) (bm 25 0) (by kernel_rfl) rfl rfl ⟨(blk_cell BK123.out 0).trans rfl, (blk_cell BK123.out 1).trans rfl, ((HB.out.cell (qd w _ hw136_0)).trans hw136_0), ((HB.out.cell (qd w _ hw138_0)).trans hw138_0)⟩ (fun hHeld => ?_); refine with_tabW proof_Steps.tab10 proof_Steps.bits10 (fun HT_ HW_ => ?_); generalize w35.drew = w36 at HO_9 BK122 BK123 HB HR136_0 HR138_0 hx136_0 hx138_0 hHeld ⊢; refine qz 0 40 ?_ (bm 25 1) rfl rfl HT_ (by kernel_rfl) (fun _ _ _ h => h) (by rfl) ?_ ?_ ?_ ?_; rotate_left; (intro w'; go_simp; with_reducible rfl); rotate_left; (simp only [Act.put, qs, qt, qu, i64_w, i32_w]; rfl); refine qz 1 41 ?_ (bm 25 3) rfl rfl HT_ (by kernel_rfl) (fun _ _ _ h => h) (by rfl) ?_ ?_ ?_ ?_; rotate_left; (intro w'; go_simp; with_reducible rfl); rotate_left; (simp only [Act.put, qs, qt, qu, i64_w, i32_w]; rfl); refine qz 2 42 ?_ (bm 25 7) rfl rfl HT_ (by kernel_rfl) (fun _ _ _ h => h) (by rfl) ?_ ?_ ?_ ?_; rotate_left; (intro w'; go_simp; with_reducible rfl); rotate_left; (simp only [Act.put, qs, qt, qu, i64_w, i32_w]; rfl); refine qz 3 43 ?_ (bm 25 15) rfl rfl HT_ (by kernel_rfl) (fun _ _ _ h => h) (by rfl) ?_ ?_ ?_ ?_; rotate_left; (intro w'; go_simp; with_reducible rfl); rotate_left; (simp only [Act.put, qs, qt, qu, i64_w, i32_w]; rfl)
               refine qz 6 46 ?_ (bm 25 79) rfl rfl HT_ (by kernel_rfl) (fun _ _ _ h => h) (by rfl) ?_ ?_ ?_ ?_; rotate_left; (intro w'; go_simp; with_reducible rfl); rotate_left; (simp only [Act.put, qs, qt, qu, i64_w, i32_w]; rfl); refine qz 8 48 ?_ (bm 25 335) rfl rfl HT_ (by kernel_rfl) (fun _ _ _ h => h) (by rfl) ?_ ?_ ?_ ?_; rotate_left; (intro w'; go_simp; with_reducible rfl); rotate_left; (simp only [Act.put, qs, qt, qu, i64_w, i32_w]; rfl); refine qz 13 53 ?_ (bm 25 8527) rfl rfl HT_ (by kernel_rfl) (fun _ _ _ h => h) (by rfl) ?_ ?_ ?_ ?_; rotate_left; (intro w'; go_simp; with_reducible rfl); rotate_left; (simp only [Act.put, qs, qt, qu, i64_w, i32_w]; rfl); refine qz 15 55 ?_ (bm 25 41295) rfl rfl HT_ (by kernel_rfl) (fun _ _ _ h => h) (by rfl) ?_ ?_ ?_ ?_; rotate_left; (intro w'; go_simp; with_reducible rfl); rotate_left; (simp only [Act.put, qs, qt, qu, i64_w, i32_w]; rfl); refine qz 17 57 ?_ (bm 25 172367) rfl rfl HT_ (by kernel_rfl) (fun _ _ _ h => h) (by rfl) ?_ ?_ ?_ ?_; rotate_left; (intro w'; go_simp; with_reducible rfl); rotate_left; (simp only [Act.put, qs, qt, qu, i64_w, i32_w]; rfl); refine take_ (i := 7) (N := some 47) (v := ?_) (a' := ?_) (bm 25 172495) rfl rfl (take_ofW HT_.out HW_.out (by kernel_rfl)) (fun _ _ _ h => h) (Or.inl ⟨by rfl, ?_⟩) hHeld ?_ ?_; rotate_left
               ·rintro w' ⟨s0, s1, s2, s3⟩
                go_simp; with_reducible rfl
               rotate_left; (simp only [Act.put, qs, qt, qu, i64_w, i32_w]; rfl); refine qz 9 49 ?_ (bm 25 173007) rfl rfl HT_ (by kernel_rfl) (fun _ _ _ h => h) (by rfl) ?_ ?_ ?_ ?_; rotate_left; (intro w'; go_simp; with_reducible rfl); rotate_left; (simp only [Act.put, qs, qt, qu, i64_w, i32_w]; rfl); refine take_ (i := 10) (N := some 50) (v := ?_) (a' := ?_) (bm 25 174031) rfl rfl (take_ofW HT_.out HW_.out (by kernel_rfl)) (fun _ _ _ h => h) (Or.inl ⟨by rfl, ?_⟩) hHeld ?_ ?_; rotate_left
               ·rintro w' ⟨s0, s1, s2, s3⟩
                go_simp; with_reducible rfl
               rotate_left; (simp only [Act.put, qs, qt, qu, i64_w, i32_w]; rfl); refine take_ (i := 16) (N := some 56) (v := ?_) (a' := ?_) (bm 25 239567) rfl rfl (take_ofW HT_.out HW_.out (by kernel_rfl)) (fun _ _ _ h => h) (Or.inl ⟨by rfl, ?_⟩) hHeld ?_ ?_; rotate_left
               ·rintro w' ⟨s0, s1, s2, s3⟩
                go_simp; with_reducible rfl
               rotate_left; (simp only [Act.put, qs, qt, qu, i64_w, i32_w]; rfl); refine qz 18 58 ?_ (bm 25 501711) rfl rfl HT_ (by kernel_rfl) (fun _ _ _ h => h) (by rfl) ?_ ?_ ?_ ?_; rotate_left; (intro w'; go_simp; with_reducible rfl); rotate_left; (simp only [Act.put, qs, qt, qu, i64_w, i32_w]; rfl); refine take_ (i := 19) (N := some 59) (v := ?_) (a' := ?_) (bm 25 1025999) rfl rfl (take_ofW HT_.out HW_.out (by kernel_rfl)) (fun _ _ _ h => h) (Or.inl ⟨by rfl, ?_⟩) hHeld ?_ ?_; rotate_left
               ·rintro w' ⟨s0, s1, s2, s3⟩
                go_simp; with_reducible rfl
               rotate_left; (simp only [Act.put, qs, qt, qu, i64_w, i32_w]; rfl); refine one_ (i := 4) (N := some 44) (bm 25 1026015) rfl rfl (one_of HT_.out (by kernel_rfl)) (by decide) (fun K hK => ?_); refine goes_ Tryd.func62 (by kernel_rfl) rfl #[.int .u64 (IntKind.u64.wrap ((IntKind.u64.wrap (x32_1)) + 1))] (by rfl) rfl rfl (by (try simp only [List.map_toArray, List.map_cons, List.map_nil]); first | done | rfl | (simp only [List.length_drop, qw]; rfl)) ?_
               with_reducible refine (codec_Number.calls (IntKind.u64.wrap ((IntKind.u64.wrap (x32_1)) + 1)) t135 _ A24.out).mono ?_
               rintro e w37 ⟨rfl, hb⟩
               refine ⟨_, rfl, ?_⟩; have n0_ := qf (Kd.R_below (by (with_reducible repeat (first | apply Kd.R_alloc | apply Kd.R_drewN | apply Kd.R_drew)); exact HO_9.out) hb); have n1_ := qf (blk_below (g := gb122) (o := .cells #[.int .u64 a0_0, .string a0_1] 46 (0, 0)) (by (with_reducible repeat (first | refine blk_drewN ?_ _ | refine blk_drew ?_ | refine qh ?_ _)); exact BK122.out) hb); have n2_ := qf (blk_below (g := gb123) (o := .cells #[.slice (some ad136) l1_0.length c1_0, .slice (some ad138) l1_1.length c1_1] 78 (0, 0)) (by (with_reducible repeat (first | refine blk_drewN ?_ _ | refine blk_drew ?_ | refine qh ?_ _)); exact BK123.out) hb); have n3_ := qf (below_step (by repeat (first | (with_reducible first | exact HB.out | apply qa | apply qb | apply qc | refine qg ?_ GE122.out | refine qg ?_ GE123.out) | exact HB.out)) hb); clear HO_9; clear BK122; clear BK123; clear HB; have HO_9 := n0_; have BK122 := n1_; have BK123 := n2_; have HB := n3_; clear n0_ n1_ n2_ n3_
               (try clear hb)
               (try clear hb2)
               (try clear hk)
               (try clear hi)
               refine hK.out _ _ ⟨(blk_cell BK123.out 0).trans rfl, (blk_cell BK123.out 1).trans rfl, ((HB.out.cell (qd w _ hw136_0)).trans hw136_0), ((HB.out.cell (qd w _ hw138_0)).trans hw138_0)⟩ (fun hHeld => ?_); clear hK K; refine norm_ (a' := ?_) ?_ ?_; rotate_left
               ·show Act.put _ (some 44) _ = _
                simp only [Act.put, qs, qt, qu, i64_w, i32_w]; rfl
               refine qz 5 45 ?_ (bm 25 1026047) rfl rfl HT_ (by kernel_rfl) (fun _ _ _ h => h) (by rfl) ?_ ?_ ?_ ?_; rotate_left; (intro w'; go_simp; with_reducible rfl); rotate_left; (simp only [Act.put, qs, qt, qu, i64_w, i32_w]; rfl); refine one_ (i := 11) (N := some 51) (bm 25 1028095) rfl rfl (one_of HT_.out (by kernel_rfl)) (by decide) (fun K hK => ?_); refine goes_ Tryd.func86 (by kernel_rfl) rfl #[.slice A136_0 (rd_L1 l1_0 x32_1).length c136_0, .string (⟨#[]⟩ : ByteArray)] (by rfl) rfl rfl (by (try simp only [List.map_toArray, List.map_cons, List.map_nil]); first | done | rfl | (simp only [List.length_drop, qw]; rfl)) ?_
               with_reducible refine (strings_Join.calls _ _ (rd_L1 l1_0 x32_1) (⟨#[]⟩ : ByteArray) t137 _ ?side1 ?side2 A27.out).mono ?_
               (case side1 => repeat (first | exact (Kd.C_below HR136_0.out HB.out) | (with_reducible refine Kd.C_alloc ?_ _) | (with_reducible refine Kd.C_drewN ?_ _) | (with_reducible refine Kd.C_drew ?_)))
               (case side2 => exact HC136_0.out)
               rintro e w38 ⟨rfl, hb⟩
               refine ⟨_, rfl, ?_⟩; have n0_ := qf (Kd.R_below (by (with_reducible repeat (first | apply Kd.R_alloc | apply Kd.R_drewN | apply Kd.R_drew)); exact HO_9.out) hb); have n1_ := qf (blk_below (g := gb122) (o := .cells #[.int .u64 a0_0, .string a0_1] 46 (0, 0)) (by (with_reducible repeat (first | refine blk_drewN ?_ _ | refine blk_drew ?_ | refine qh ?_ _)); exact BK122.out) hb); have n2_ := qf (blk_below (g := gb123) (o := .cells #[.slice (some ad136) l1_0.length c1_0, .slice (some ad138) l1_1.length c1_1] 78 (0, 0)) (by (with_reducible repeat (first | refine blk_drewN ?_ _ | refine blk_drew ?_ | refine qh ?_ _)); exact BK123.out) hb); have n3_ := qf (below_step (by repeat (first | (with_reducible first | exact HB.out | apply qa | apply qb | apply qc | refine qg ?_ GE122.out | refine qg ?_ GE123.out) | exact HB.out)) hb); clear HO_9; clear BK122; clear BK123; clear HB; have HO_9 := n0_; have BK122 := n1_; have BK123 := n2_; have HB := n3_; clear n0_ n1_ n2_ n3_
               (try clear hb)
               (try clear hb2)
               (try clear hk)
               (try clear hi)
               refine hK.out _ _ ⟨(blk_cell BK123.out 0).trans rfl, (blk_cell BK123.out 1).trans rfl, ((HB.out.cell (qd w _ hw136_0)).trans hw136_0), ((HB.out.cell (qd w _ hw138_0)).trans hw138_0)⟩ (fun hHeld => ?_); clear hK K; refine norm_ (a' := ?_) ?_ ?_; rotate_left
               ·show Act.put _ (some 51) _ = _
                simp only [Act.put, qs, qt, qu, i64_w, i32_w]; rfl
               refine qz 12 52 ?_ (bm 25 1032191) rfl rfl HT_ (by kernel_rfl) (fun _ _ _ h => h) (by rfl) ?_ ?_ ?_ ?_; rotate_left; (intro w'; go_simp; with_reducible rfl); rotate_left; (simp only [Act.put, qs, qt, qu, i64_w, i32_w]; rfl); refine qz 14 54 ?_ (bm 25 1048575) rfl rfl HT_ (by kernel_rfl) (fun _ _ _ h => h) (by rfl) ?_ ?_ ?_ ?_; rotate_left; (intro w'; go_simp; with_reducible rfl); rotate_left; (simp only [Act.put, qs, qt, qu, i64_w, i32_w]; rfl); refine one_ (i := 20) (N := some 60) (bm 25 2097151) rfl rfl (one_of HT_.out (by kernel_rfl)) (by decide) (fun K hK => ?_); refine goes_ Tryd.func86 (by kernel_rfl) rfl #[.slice A138_0 (rd_L1 l1_1 x32_1).length c138_0, .string (⟨#[]⟩ : ByteArray)] (by rfl) rfl rfl (by (try simp only [List.map_toArray, List.map_cons, List.map_nil]); first | done | rfl | (simp only [List.length_drop, qw]; rfl)) ?_
               with_reducible refine (strings_Join.calls _ _ (rd_L1 l1_1 x32_1) (⟨#[]⟩ : ByteArray) t139 _ ?side1 ?side2 A31.out).mono ?_
               (case side1 => repeat (first | exact (Kd.C_below HR138_0.out HB.out) | (with_reducible refine Kd.C_alloc ?_ _) | (with_reducible refine Kd.C_drewN ?_ _) | (with_reducible refine Kd.C_drew ?_)))
               (case side2 => exact HC138_0.out)
               rintro e w39 ⟨rfl, hb⟩
               refine ⟨_, rfl, ?_⟩; have n0_ := qf (Kd.R_below (by (with_reducible repeat (first | apply Kd.R_alloc | apply Kd.R_drewN | apply Kd.R_drew)); exact HO_9.out) hb); have n1_ := qf (blk_below (g := gb122) (o := .cells #[.int .u64 a0_0, .string a0_1] 46 (0, 0)) (by (with_reducible repeat (first | refine blk_drewN ?_ _ | refine blk_drew ?_ | refine qh ?_ _)); exact BK122.out) hb); have n2_ := qf (blk_below (g := gb123) (o := .cells #[.slice (some ad136) l1_0.length c1_0, .slice (some ad138) l1_1.length c1_1] 78 (0, 0)) (by (with_reducible repeat (first | refine blk_drewN ?_ _ | refine blk_drew ?_ | refine qh ?_ _)); exact BK123.out) hb); have n3_ := qf (below_step (by repeat (first | (with_reducible first | exact HB.out | apply qa | apply qb | apply qc | refine qg ?_ GE122.out | refine qg ?_ GE123.out) | exact HB.out)) hb); clear HO_9; clear BK122; clear BK123; clear HB; have HO_9 := n0_; have BK122 := n1_; have BK123 := n2_; have HB := n3_; clear n0_ n1_ n2_ n3_
               (try clear hb)
               (try clear hb2)
               (try clear hk)
               (try clear hi)
               refine hK.out _ _ ⟨(blk_cell BK123.out 0).trans rfl, (blk_cell BK123.out 1).trans rfl, ((HB.out.cell (qd w _ hw136_0)).trans hw136_0), ((HB.out.cell (qd w _ hw138_0)).trans hw138_0)⟩ (fun hHeld => ?_); clear hK K; refine norm_ (a' := ?_) ?_ ?_; rotate_left
               ·show Act.put _ (some 60) _ = _
                simp only [Act.put, qs, qt, qu, i64_w, i32_w]; rfl
               refine qz 21 61 ?_ (bm 25 4194303) rfl rfl HT_ (by kernel_rfl) (fun _ _ _ h => h) (by rfl) ?_ ?_ ?_ ?_; rotate_left; (intro w'; go_simp; with_reducible rfl); rotate_left; (simp only [Act.put, qs, qt, qu, i64_w, i32_w]; rfl); refine one_ (i := 22) (N := some 62) (bm 25 8388607) rfl rfl (one_of HT_.out (by kernel_rfl)) (by decide) (fun K hK => ?_); refine value_ (w1 := ?_) (v := ?_) (by rfl) rfl ?_ ?_; rotate_left 2
               ·go_simp
                constructor
                (rfl); (rfl)
               refine hK.out _ _ ⟨(blk_cell (qh BK123.out _) 0).trans rfl, (blk_cell (qh BK123.out _) 1).trans rfl, (World.cell?_alloc_lt _ _ _ (qd _ _ (((HB.out.cell (qd w _ hw136_0)).trans hw136_0)))).trans (((HB.out.cell (qd w _ hw136_0)).trans hw136_0)), (World.cell?_alloc_lt _ _ _ (qd _ _ (((HB.out.cell (qd w _ hw138_0)).trans hw138_0)))).trans (((HB.out.cell (qd w _ hw138_0)).trans hw138_0))⟩ (fun hHeld => ?_); clear hK K; refine norm_ (a' := ?_) ?_ ?_; rotate_left
               ·show Act.put _ (some 62) _ = _
                simp only [Act.put, qs, qt, qu, i64_w, i32_w]; rfl
               refine one_ (i := 23) (N := some 63) (bm 25 16777215) rfl rfl (one_of HT_.out (by kernel_rfl)) (by decide) (fun K hK => ?_); refine Kd.R_append_step Kd.string (w0 := w) w.heap.size (by rfl) (.tmp 40) (.tmp 62) 49 9 (.string ⟨#[]⟩) 16 rfl Tryd.underlying49 info9 rfl (by decide) (by omega) (.slice (some ad133) x9_1.length co34) x9_1 (((((⟨#[2]⟩ : ByteArray) ++ t135) ++ t137) ++ t134) ++ t139) [.string (((((⟨#[2]⟩ : ByteArray) ++ t135) ++ t137) ++ t134) ++ t139)] (fun _ => True) (fun _ => False) rfl rfl ?aP (fun _ hk => hk.elim) ?aF ?aO ?aB ?aS ?aL ?_
               (case aP => exact rfl)
               (case aB => exact (by repeat (first | (with_reducible first | exact HB.out | apply qa | apply qb | apply qc | refine qg ?_ GE122.out | refine qg ?_ GE123.out) | exact HB.out)))
               (case aF => exact (fun _ _ => trivial))
               (case aO => exact (by (with_reducible repeat (first | apply Kd.R_alloc | apply Kd.R_drewN | apply Kd.R_drew)); exact HO_9.out))
               (case aS => exact (below_size (by repeat (first | (with_reducible first | exact HB.out | apply qa | apply qb | apply qc | refine qg ?_ GE122.out | refine qg ?_ GE123.out) | exact HB.out))))
               (case aL => have := LMc33.out; omega)
               intro v141 w40 ho hb hg hat; rw [← Ny140.out] at ho; have n0_ := qf (blk_grown (g := gb122) (o := .cells #[.int .u64 a0_0, .string a0_1] 46 (0, 0)) (by (with_reducible repeat (first | refine blk_drewN ?_ _ | refine blk_drew ?_ | refine qh ?_ _)); exact BK122.out) hg (Kd.R_ne HO_9.out BK122.out (by decide))); have n1_ := qf (blk_grown (g := gb123) (o := .cells #[.slice (some ad136) l1_0.length c1_0, .slice (some ad138) l1_1.length c1_1] 78 (0, 0)) (by (with_reducible repeat (first | refine blk_drewN ?_ _ | refine blk_drew ?_ | refine qh ?_ _)); exact BK123.out) hg (Kd.R_ne HO_9.out BK123.out (by decide))); have n2_ := qf (hb); have n3_ := qf (ho); clear BK122; clear BK123; clear HB; clear HO_9; have BK122 := n0_; have BK123 := n1_; have HB := n2_; have HO142 := n3_; clear n0_ n1_ n2_ n3_; clear ho hb hg hat; refine hK.out _ _ ⟨(blk_cell BK123.out 0).trans rfl, (blk_cell BK123.out 1).trans rfl, ((HB.out.cell (qd w _ hw136_0)).trans hw136_0), ((HB.out.cell (qd w _ hw138_0)).trans hw138_0)⟩ (fun hHeld => ?_); clear hK K; refine norm_ (a' := ?_) ?_ ?_; rotate_left
               ·show Act.put _ (some 63) _ = _
                simp only [Act.put, qs, qt, qu, i64_w, i32_w]; rfl
               refine qz 24 9 ?_ (bm 25 33554431) rfl rfl HT_ (by kernel_rfl) (fun _ _ _ h => h) (by rfl) ?_ ?_ ?_ ?_; rotate_left; (intro w'; go_simp; with_reducible rfl); rotate_left; (simp only [Act.put, qs, qt, qu, i64_w, i32_w]; rfl); refine done_ (done_of HT_.out (by kernel_rfl)) ?_
               try go_wp2
               go_roundg k1
               case measure => have := HK1.out; omega
               case rel => exact ⟨(y140), (wrap64 (x32_1 + 1)), (by first | rfl | (simp; done) | (simp [*]; done)), H', ⟨by have := HK1.out; omega⟩, ⟨by (with_reducible repeat (first | apply Kd.R_alloc | apply Kd.R_drewN | apply Kd.R_drew)); exact HO142.out⟩, ⟨by (with_reducible repeat (first | refine blk_drewN ?_ _ | refine blk_drew ?_ | refine qh ?_ _)); exact BK122.out⟩, ⟨by (with_reducible repeat (first | refine blk_drewN ?_ _ | refine blk_drew ?_ | refine qh ?_ _)); exact BK123.out⟩, ⟨by repeat (first | (with_reducible first | exact HB.out | apply qa | apply qb | apply qc | refine qg ?_ GE122.out | refine qg ?_ GE123.out) | exact HB.out)⟩⟩
              ·rw [if_neg c33] at H; exact absurd H (by simp)
             ·rw [if_neg c32] at H; exact absurd H (by simp)
            ·rw [if_neg c30] at H; exact absurd H (by simp)
           ·rw [if_neg c29] at H; exact absurd H (by simp)
          ·rw [if_neg c28] at H; exact absurd H (by simp)
         ·rw [if_neg c26] at H; exact absurd H (by simp)
        ·rw [if_neg c25] at H; exact absurd H (by simp)
       ·rw [if_neg c22] at H; exact absurd H (by simp)
      ·rw [if_neg c21] at H; exact absurd H (by simp)
     ·rw [if_neg c20] at H; have c20b0 : decide (x32_1 < 8) = false := decide_eq_false c20; clear c20; simp only [Option.some.injEq, Prod.mk.injEq] at H; obtain ⟨rfl, rfl⟩ := H; go_wp2
      go_ret2
      exact ⟨_, by first | rfl | (simp [errW_none, errW_some] <;> rfl) | (simp [*, errW_none, errW_some] <;> rfl), by (with_reducible repeat (first | apply Kd.R_alloc | apply Kd.R_drewN | apply Kd.R_drew)); exact HO_9.out, by repeat (first | (with_reducible first | exact HB.out | apply qa | apply qb | apply qc | refine qg ?_ GE122.out | refine qg ?_ GE123.out) | exact HB.out)⟩
  ·rw [if_neg c6] at H; exact absurd H (by simp)
 ·rw [if_neg c4] at H; have c4b0 : (t124 == 0) = false := beq_eq_false_iff_ne.mpr c4; have c4b1 : (t124 != 0) = true := bne_iff_ne.mpr c4; simp only [Option.some.injEq, Prod.mk.injEq] at H; obtain ⟨rfl, rfl⟩ := H
  go_enter Tryd.func53, Tryd.ntmps53
  go_wp2_with (first | ((with_reducible refine gate_dst (N := 2) rfl ?_); refine box_event ?hg (N := 2) ?hd (cs := #[.int .u64 a0_0, .string a0_1]) (t := 46) ?hr ?_; (case hd => rfl); (case hg => rfl); (case hr => first | (go_simp; done) | (go_simp; rfl)); intro gb122 hg w41 hbox hb; have n0_ := qf (below_step (by repeat (first | (with_reducible first | exact HB.out | apply qa | apply qb | apply qc) | exact HB.out)) hb); have n1_ := qf (hbox); have n2_ := qf ((by rw [hg]; exact (below_size (by repeat (first | (with_reducible first | exact HB.out | apply qa | apply qb | apply qc) | exact HB.out))) : w.heap.size ≤ gb122)); have n3_ := qf ((by rw [hg]; exact (below_size (by repeat (first | (with_reducible first | exact HB.out | apply qa | apply qb | apply qc) | exact HB.out))) : w.heap.size ≤ gb122)); clear HB; have HB := n0_; have BK122 := n1_; have GW122 := n2_; have GE122 := n3_; clear n0_ n1_ n2_ n3_; clear hb hbox hg) | ((with_reducible refine gate_dst (N := 3) rfl ?_); refine box_event ?hg (N := 3) ?hd (cs := #[.slice A1_0 l1_0.length c1_0, .slice A1_1 l1_1.length c1_1]) (t := 78) ?hr ?_; (case hd => rfl); (case hg => rfl); (case hr => first | (go_simp; done) | (go_simp; rfl)); intro gb123 hg w42 hbox hb; have n0_ := qf (blk_below (g := gb122) (o := .cells #[.int .u64 a0_0, .string a0_1] 46 (0, 0)) (by (with_reducible repeat (first | refine blk_drewN ?_ _ | refine blk_drew ?_ | refine qh ?_ _)); exact BK122.out) hb); have n1_ := qf (below_step (by repeat (first | (with_reducible first | exact HB.out | apply qa | apply qb | apply qc | refine qg ?_ GE122.out) | exact HB.out)) hb); have n2_ := qf (hbox); have n3_ := qf ((by rw [hg]; exact (below_size (by repeat (first | (with_reducible first | exact HB.out | apply qa | apply qb | apply qc | refine qg ?_ GE122.out) | exact HB.out))) : w.heap.size ≤ gb123)); have n4_ := qf ((by rw [hg]; exact (below_size (by repeat (first | (with_reducible first | exact HB.out | apply qa | apply qb | apply qc | refine qg ?_ GE122.out) | exact HB.out))) : w.heap.size ≤ gb123)); have n5_ := qf ((by rw [hg]; exact Nat.ne_of_lt (blk_lt (g := gb122) (o := .cells #[.int .u64 a0_0, .string a0_1] 46 (0, 0)) (by (with_reducible repeat (first | refine blk_drewN ?_ _ | refine blk_drew ?_ | refine qh ?_ _)); exact BK122.out)) : gb122 ≠ gb123)); have n6_ := qf ((by rw [hg]; exact Nat.ne_of_gt (blk_lt (g := gb122) (o := .cells #[.int .u64 a0_0, .string a0_1] 46 (0, 0)) (by (with_reducible repeat (first | refine blk_drewN ?_ _ | refine blk_drew ?_ | refine qh ?_ _)); exact BK122.out)) : gb123 ≠ gb122)); clear BK122; clear HB; have BK122 := n0_; have HB := n1_; have BK123 := n2_; have GW123 := n3_; have GE123 := n4_; have NB122_123 := n5_; have NB123_122 := n6_; clear n0_ n1_ n2_ n3_ n4_ n5_ n6_; clear hb hbox hg; have hnb43 := NB122_123.out; have hnc43 := NB123_122.out; have hcz44_0 : w42.cell? ⟨gb122, 0, none⟩ = some (.int .u64 a0_0) := (blk_cell BK122.out 0).trans rfl; have hcz44_1 : w42.cell? ⟨gb122, 1, none⟩ = some (.string a0_1) := (blk_cell BK122.out 1).trans rfl; have hfz44_0 := blk_frozen BK122.out 0; have hfz44_1 := blk_frozen BK122.out 1; have hcz45_0 : w42.cell? ⟨gb123, 0, none⟩ = some (.slice A1_0 l1_0.length c1_0) := (blk_cell BK123.out 0).trans rfl; have hcz45_1 : w42.cell? ⟨gb123, 1, none⟩ = some (.slice A1_1 l1_1.length c1_1) := (blk_cell BK123.out 1).trans rfl; have hfz45_0 := blk_frozen BK123.out 0; have hfz45_1 := blk_frozen BK123.out 1) | ((with_reducible refine gate_callee (f := 83) rfl ?_); refine goesL_ (some 14) rfl rfl Tryd.func83 (by kernel_rfl) rfl #[.agg #[.int .u64 a0_0, .string a0_1], .agg #[.slice A1_0 l1_0.length c1_0, .slice A1_1 l1_1.length c1_1]] rfl (by (try simp only [List.map_toArray, List.map_cons, List.map_nil]); first | done | rfl | (simp only [List.length_drop, qw]; rfl)) ?_; (with_reducible refine (proof_may.calls a0_0 a0_1 _ _ l1_0 _ _ l1_1 t124 _ ?side1 ?side2 ?side3 ?side4 A3.out).mono ?_); (case side1 => repeat (first | exact (Kd.C_below HR1_0.out HB.out) | (with_reducible refine Kd.C_alloc ?_ _) | (with_reducible refine Kd.C_drewN ?_ _) | (with_reducible refine Kd.C_drew ?_))); (case side2 => exact HC1_0.out); (case side3 => repeat (first | exact (Kd.C_below HR1_1.out HB.out) | (with_reducible refine Kd.C_alloc ?_ _) | (with_reducible refine Kd.C_drewN ?_ _) | (with_reducible refine Kd.C_drew ?_))); (case side4 => exact HC1_1.out); rintro e w46 ⟨rfl, hb⟩; refine ⟨_, rfl, ?_⟩; have n0_ := qf (blk_below (g := gb122) (o := .cells #[.int .u64 a0_0, .string a0_1] 46 (0, 0)) (by (with_reducible repeat (first | refine blk_drewN ?_ _ | refine blk_drew ?_ | refine qh ?_ _)); exact BK122.out) hb); have n1_ := qf (blk_below (g := gb123) (o := .cells #[.slice A1_0 l1_0.length c1_0, .slice A1_1 l1_1.length c1_1] 78 (0, 0)) (by (with_reducible repeat (first | refine blk_drewN ?_ _ | refine blk_drew ?_ | refine qh ?_ _)); exact BK123.out) hb); have n2_ := qf (below_step (by repeat (first | (with_reducible first | exact HB.out | apply qa | apply qb | apply qc | refine qg ?_ GE122.out | refine qg ?_ GE123.out) | exact HB.out)) hb); clear BK122; clear BK123; clear HB; have BK122 := n0_; have BK123 := n1_; have HB := n2_; clear n0_ n1_ n2_; (try clear hb); (try clear hb2); (try clear hk); (try clear hi)))
  go_ret2
  exact ⟨_, by first | rfl | (simp [errW_none, errW_some] <;> rfl) | (simp [*, errW_none, errW_some] <;> rfl), by first | exact Kd.R_nil _ _ _ _ _ | exact Kd.N_nil _ _ _ _ _ | exact Kd.V_nil _ _ _ _ _ | exact Kd.Q_nil _ _ _ _ _ | exact Kd.S_nil _ _ _ _ _, by repeat (first | (with_reducible first | exact HB.out | apply qa | apply qb | apply qc | refine qg ?_ GE122.out | refine qg ?_ GE123.out) | exact HB.out)⟩
/-! ### proof_Check: function 54 -/
def proof_Check.f (k : Nat) (a0 : ByteArray) (a1_0 : Int) (a1_1 : ByteArray) (l2_0 : List (List ByteArray)) (l2_1 : List (List ByteArray)) : Option (Bool × Int) := (proof_Steps.f k a1_0 a1_1 l2_0 l2_1).bind fun bt145 => (if bt145.2 = 0 then (if 0 ≤ (wrap64 ((bt145.1.length : Int) - 1)) then (if (wrap64 ((bt145.1.length : Int) - 1)) < (bt145.1.length : Int) then ((sha_Sum.f (rdOf ByteArray.empty bt145.1 (wrap64 ((bt145.1.length : Int) - 1)))).bind fun t150 => (some ((t150.toList == a0.toList), 0))) else (none)) else (none)) else (some (false, bt145.2)))
set_option maxHeartbeats 8000000 in
set_option maxRecDepth 100000 in
theorem proof_Check.calls (k : Nat) (a0 : ByteArray) (a1_0 : Int) (a1_1 : ByteArray) (A2_0 : Option Addr) (c2_0 : Nat) (l2_0 : List (List ByteArray)) (A2_1 : Option Addr) (c2_1 : Nat) (l2_1 : List (List ByteArray)) (r1 : Bool) (r2 : Int) (w : World) (hr2_0 : Kd.C (Kd.slice 9 Kd.string) w A2_0 l2_0.length l2_0) (hc2_0 : l2_0.length ≤ c2_0) (hr2_1 : Kd.C (Kd.slice 9 Kd.string) w A2_1 l2_1.length l2_1) (hc2_1 : l2_1.length ≤ c2_1) (h : proof_Check.f k a0 a1_0 a1_1 l2_0 l2_1 = some (r1, r2)) :
  Calls Tryd.prog 54 #[.string a0, .agg #[.int .u64 a1_0, .string a1_1], .agg #[.slice A2_0 l2_0.length c2_0, .slice A2_1 l2_1.length c2_1]] w fun e w' => e = .returned (.tuple #[.bool r1, .int .i64 r2]) ∧ Below w.heap.size w w' := by
 have hu46 := Tryd.underlying46; have hu78 := Tryd.underlying78; have HR2_0 := qf hr2_0; have HC2_0 := qf hc2_0; clear hr2_0 hc2_0; have HR2_1 := qf hr2_1; have HC2_1 := qf hc2_1; clear hr2_1 hc2_1; have HB := qf (Below.refl w.heap.size w); have H : ((proof_Steps.f k a1_0 a1_1 l2_0 l2_1).bind fun bt145 => (if bt145.2 = 0 then (if 0 ≤ (wrap64 ((bt145.1.length : Int) - 1)) then (if (wrap64 ((bt145.1.length : Int) - 1)) < (bt145.1.length : Int) then ((sha_Sum.f (rdOf ByteArray.empty bt145.1 (wrap64 ((bt145.1.length : Int) - 1)))).bind fun t150 => (some ((t150.toList == a0.toList), 0))) else (none)) else (none)) else (some (false, bt145.2)))) = some (r1, r2) := h; clear h; replace H := qi H; obtain ⟨⟨t145, t148⟩, A40, H⟩ := H
 (try dsimp only at H)
 have A4 := qf A40; clear A40
 by_cases c5 : t148 = 0
 ·rw [if_pos c5] at H; have c5b0 : (t148 == 0) = true := beq_iff_eq.mpr c5; have c5b1 : (t148 != 0) = false := bne_eq_false_iff_eq.mpr c5; clear c5
  obtain ⟨ji6, hji6⟩ : ∃ j_ : Int, (wrap64 ((t145.length : Int) - 1)) = j_ := ⟨_, rfl⟩
  replace H : (if 0 ≤ (ji6) then (if (ji6) < (t145.length : Int) then ((sha_Sum.f (rdOf ByteArray.empty t145 (ji6))).bind fun t150 => (some ((t150.toList == a0.toList), 0))) else (none)) else (none)) = some (r1, r2) := by first | (rw [hji6] at H; exact H) | (simp only [hji6] at H ⊢; exact H)
  (try rw [hji6] at A4)
  have hji6w : (IntKind.i64.wrap ((t145.length : Int) - 1)) = ji6 := (i64_w _).trans hji6
  by_cases c7 : 0 ≤ (ji6)
  ·rw [if_pos c7] at H; have c7b0 : decide (0 ≤ (ji6)) = true := qj c7; clear c7
   by_cases c8 : (ji6) < (t145.length : Int)
   ·rw [if_pos c8] at H; have c8b0 : decide ((ji6) < (t145.length : Int)) = true := qj c8; clear c8; replace H := qi H; obtain ⟨t150, A90, H⟩ := H
    (try dsimp only at H)
    have A9 := qf A90; clear A90; simp only [Option.some.injEq, Prod.mk.injEq] at H; obtain ⟨rfl, rfl⟩ := H
    go_enter Tryd.func54, Tryd.ntmps54
    go_wp2_with (first | ((with_reducible refine gate_dst (N := 4) rfl ?_); refine box_event ?hg (N := 4) ?hd (cs := #[.int .u64 a1_0, .string a1_1]) (t := 46) ?hr ?_; (case hd => rfl); (case hg => rfl); (case hr => first | (go_simp; done) | (go_simp; rfl)); intro gb143 hg w10 hbox hb; have n0_ := qf (below_step (by repeat (first | (with_reducible first | exact HB.out | apply qa | apply qb | apply qc) | exact HB.out)) hb); have n1_ := qf (hbox); have n2_ := qf ((by rw [hg]; exact (below_size (by repeat (first | (with_reducible first | exact HB.out | apply qa | apply qb | apply qc) | exact HB.out))) : w.heap.size ≤ gb143)); have n3_ := qf ((by rw [hg]; exact (below_size (by repeat (first | (with_reducible first | exact HB.out | apply qa | apply qb | apply qc) | exact HB.out))) : w.heap.size ≤ gb143)); clear HB; have HB := n0_; have BK143 := n1_; have GW143 := n2_; have GE143 := n3_; clear n0_ n1_ n2_ n3_; clear hb hbox hg) | ((with_reducible refine gate_dst (N := 5) rfl ?_); refine box_event ?hg (N := 5) ?hd (cs := #[.slice A2_0 l2_0.length c2_0, .slice A2_1 l2_1.length c2_1]) (t := 78) ?hr ?_; (case hd => rfl); (case hg => rfl); (case hr => first | (go_simp; done) | (go_simp; rfl)); intro gb144 hg w11 hbox hb; have n0_ := qf (blk_below (g := gb143) (o := .cells #[.int .u64 a1_0, .string a1_1] 46 (0, 0)) (by (with_reducible repeat (first | refine blk_drewN ?_ _ | refine blk_drew ?_ | refine qh ?_ _)); exact BK143.out) hb); have n1_ := qf (below_step (by repeat (first | (with_reducible first | exact HB.out | apply qa | apply qb | apply qc | refine qg ?_ GE143.out) | exact HB.out)) hb); have n2_ := qf (hbox); have n3_ := qf ((by rw [hg]; exact (below_size (by repeat (first | (with_reducible first | exact HB.out | apply qa | apply qb | apply qc | refine qg ?_ GE143.out) | exact HB.out))) : w.heap.size ≤ gb144)); have n4_ := qf ((by rw [hg]; exact (below_size (by repeat (first | (with_reducible first | exact HB.out | apply qa | apply qb | apply qc | refine qg ?_ GE143.out) | exact HB.out))) : w.heap.size ≤ gb144)); have n5_ := qf ((by rw [hg]; exact Nat.ne_of_lt (blk_lt (g := gb143) (o := .cells #[.int .u64 a1_0, .string a1_1] 46 (0, 0)) (by (with_reducible repeat (first | refine blk_drewN ?_ _ | refine blk_drew ?_ | refine qh ?_ _)); exact BK143.out)) : gb143 ≠ gb144)); have n6_ := qf ((by rw [hg]; exact Nat.ne_of_gt (blk_lt (g := gb143) (o := .cells #[.int .u64 a1_0, .string a1_1] 46 (0, 0)) (by (with_reducible repeat (first | refine blk_drewN ?_ _ | refine blk_drew ?_ | refine qh ?_ _)); exact BK143.out)) : gb144 ≠ gb143)); clear BK143; clear HB; have BK143 := n0_; have HB := n1_; have BK144 := n2_; have GW144 := n3_; have GE144 := n4_; have NB143_144 := n5_; have NB144_143 := n6_; clear n0_ n1_ n2_ n3_ n4_ n5_ n6_; clear hb hbox hg; have hnb12 := NB143_144.out; have hnc12 := NB144_143.out; have hcz13_0 : w11.cell? ⟨gb143, 0, none⟩ = some (.int .u64 a1_0) := (blk_cell BK143.out 0).trans rfl; have hcz13_1 : w11.cell? ⟨gb143, 1, none⟩ = some (.string a1_1) := (blk_cell BK143.out 1).trans rfl; have hfz13_0 := blk_frozen BK143.out 0; have hfz13_1 := blk_frozen BK143.out 1; have hcz14_0 : w11.cell? ⟨gb144, 0, none⟩ = some (.slice A2_0 l2_0.length c2_0) := (blk_cell BK144.out 0).trans rfl; have hcz14_1 : w11.cell? ⟨gb144, 1, none⟩ = some (.slice A2_1 l2_1.length c2_1) := (blk_cell BK144.out 1).trans rfl; have hfz14_0 := blk_frozen BK144.out 0; have hfz14_1 := blk_frozen BK144.out 1) | ((with_reducible refine gate_callee (f := 53) rfl ?_); refine goesL_ (some 13) rfl rfl Tryd.func53 (by kernel_rfl) rfl #[.agg #[.int .u64 a1_0, .string a1_1], .agg #[.slice A2_0 l2_0.length c2_0, .slice A2_1 l2_1.length c2_1]] rfl (by (try simp only [List.map_toArray, List.map_cons, List.map_nil]); first | done | rfl | (simp only [List.length_drop, qw]; rfl)) ?_; (with_reducible refine (proof_Steps.calls k a1_0 a1_1 _ _ l2_0 _ _ l2_1 t145 t148 _ ?side1 ?side2 ?side3 ?side4 A4.out).mono ?_); (case side1 => repeat (first | exact (Kd.C_below HR2_0.out HB.out) | (with_reducible refine Kd.C_alloc ?_ _) | (with_reducible refine Kd.C_drewN ?_ _) | (with_reducible refine Kd.C_drew ?_))); (case side2 => exact HC2_0.out); (case side3 => repeat (first | exact (Kd.C_below HR2_1.out HB.out) | (with_reducible refine Kd.C_alloc ?_ _) | (with_reducible refine Kd.C_drewN ?_ _) | (with_reducible refine Kd.C_drew ?_))); (case side4 => exact HC2_1.out); rintro e w15 ⟨v146, rfl, ho0, hb⟩; refine ⟨_, rfl, ?_⟩; have n0_ := qf (Kd.R_lower ho0 (below_size (by repeat (first | (with_reducible first | exact HB.out | apply qa | apply qb | apply qc | refine qg ?_ GE143.out | refine qg ?_ GE144.out) | exact HB.out)))); have n1_ := qf (blk_below (g := gb143) (o := .cells #[.int .u64 a1_0, .string a1_1] 46 (0, 0)) (by (with_reducible repeat (first | refine blk_drewN ?_ _ | refine blk_drew ?_ | refine qh ?_ _)); exact BK143.out) hb); have n2_ := qf (blk_below (g := gb144) (o := .cells #[.slice A2_0 l2_0.length c2_0, .slice A2_1 l2_1.length c2_1] 78 (0, 0)) (by (with_reducible repeat (first | refine blk_drewN ?_ _ | refine blk_drew ?_ | refine qh ?_ _)); exact BK144.out) hb); have n3_ := qf (below_step (by repeat (first | (with_reducible first | exact HB.out | apply qa | apply qb | apply qc | refine qg ?_ GE143.out | refine qg ?_ GE144.out) | exact HB.out)) hb); clear BK143; clear BK144; clear HB; have HO147 := n0_; have BK143 := n1_; have BK144 := n2_; have HB := n3_; clear n0_ n1_ n2_ n3_; (try clear hb); (try clear hb2); (try clear hk); (try clear hi); (try clear ho0); obtain ⟨Ao16, co16, eo16⟩ := Kd.R_slice HO147.out; subst eo16; have p149 : 0 ≤ ((ji6) : Int) := qe (by first | (with_reducible assumption) | assumption); have q149 : (ji6) < (t145.length : Int) := qe (by first | (with_reducible assumption) | assumption); obtain ⟨ad149, e149, hx149_0⟩ := Kd.at_string (Kd.R_reads' HO147.out).2.2 (ji6) p149 q149; cases e149; replace p149 := eq_true p149; replace q149 := eq_true q149) | ((with_reducible refine gate_callee (f := 85) rfl ?_); refine goesL_ (some 25) rfl rfl Tryd.func85 (by kernel_rfl) rfl #[.string (rdOf ByteArray.empty t145 (ji6))] rfl (by (try simp only [List.map_toArray, List.map_cons, List.map_nil]); first | done | (simp only [hji6]; rfl) | rfl | (simp only [List.length_drop, qw]; rfl)) ?_; (with_reducible refine (sha_Sum.calls (rdOf ByteArray.empty t145 (ji6)) t150 _ A9.out).mono ?_); rintro e w17 ⟨rfl, hb⟩; refine ⟨_, rfl, ?_⟩; have n0_ := qf (Kd.R_below (by (with_reducible repeat (first | apply Kd.R_alloc | apply Kd.R_drewN | apply Kd.R_drew)); exact HO147.out) hb); have n1_ := qf (blk_below (g := gb143) (o := .cells #[.int .u64 a1_0, .string a1_1] 46 (0, 0)) (by (with_reducible repeat (first | refine blk_drewN ?_ _ | refine blk_drew ?_ | refine qh ?_ _)); exact BK143.out) hb); have n2_ := qf (blk_below (g := gb144) (o := .cells #[.slice A2_0 l2_0.length c2_0, .slice A2_1 l2_1.length c2_1] 78 (0, 0)) (by (with_reducible repeat (first | refine blk_drewN ?_ _ | refine blk_drew ?_ | refine qh ?_ _)); exact BK144.out) hb); have n3_ := qf (below_step (by repeat (first | (with_reducible first | exact HB.out | apply qa | apply qb | apply qc | refine qg ?_ GE143.out | refine qg ?_ GE144.out) | exact HB.out)) hb); clear HO147; clear BK143; clear BK144; clear HB; have HO147 := n0_; have BK143 := n1_; have BK144 := n2_; have HB := n3_; clear n0_ n1_ n2_ n3_; (try clear hb); (try clear hb2); (try clear hk); (try clear hi)))
    go_ret2
    exact ⟨by first | rfl | (simp [errW_none, errW_some] <;> rfl) | (simp only [← hji6]; first | rfl | (simp [errW_none, errW_some] <;> rfl)) | (simp [*, errW_none, errW_some] <;> rfl), by repeat (first | (with_reducible first | exact HB.out | apply qa | apply qb | apply qc | refine qg ?_ GE143.out | refine qg ?_ GE144.out) | exact HB.out)⟩
   ·rw [if_neg c8] at H; exact absurd H (by simp)
  ·rw [if_neg c7] at H; exact absurd H (by simp)
 ·rw [if_neg c5] at H; have c5b0 : (t148 == 0) = false := beq_eq_false_iff_ne.mpr c5; have c5b1 : (t148 != 0) = true := bne_iff_ne.mpr c5; simp only [Option.some.injEq, Prod.mk.injEq] at H; obtain ⟨rfl, rfl⟩ := H
  go_enter Tryd.func54, Tryd.ntmps54
  go_wp2_with (first | ((with_reducible refine gate_dst (N := 4) rfl ?_); refine box_event ?hg (N := 4) ?hd (cs := #[.int .u64 a1_0, .string a1_1]) (t := 46) ?hr ?_; (case hd => rfl); (case hg => rfl); (case hr => first | (go_simp; done) | (go_simp; rfl)); intro gb143 hg w18 hbox hb; have n0_ := qf (below_step (by repeat (first | (with_reducible first | exact HB.out | apply qa | apply qb | apply qc) | exact HB.out)) hb); have n1_ := qf (hbox); have n2_ := qf ((by rw [hg]; exact (below_size (by repeat (first | (with_reducible first | exact HB.out | apply qa | apply qb | apply qc) | exact HB.out))) : w.heap.size ≤ gb143)); have n3_ := qf ((by rw [hg]; exact (below_size (by repeat (first | (with_reducible first | exact HB.out | apply qa | apply qb | apply qc) | exact HB.out))) : w.heap.size ≤ gb143)); clear HB; have HB := n0_; have BK143 := n1_; have GW143 := n2_; have GE143 := n3_; clear n0_ n1_ n2_ n3_; clear hb hbox hg) | ((with_reducible refine gate_dst (N := 5) rfl ?_); refine box_event ?hg (N := 5) ?hd (cs := #[.slice A2_0 l2_0.length c2_0, .slice A2_1 l2_1.length c2_1]) (t := 78) ?hr ?_; (case hd => rfl); (case hg => rfl); (case hr => first | (go_simp; done) | (go_simp; rfl)); intro gb144 hg w19 hbox hb; have n0_ := qf (blk_below (g := gb143) (o := .cells #[.int .u64 a1_0, .string a1_1] 46 (0, 0)) (by (with_reducible repeat (first | refine blk_drewN ?_ _ | refine blk_drew ?_ | refine qh ?_ _)); exact BK143.out) hb); have n1_ := qf (below_step (by repeat (first | (with_reducible first | exact HB.out | apply qa | apply qb | apply qc | refine qg ?_ GE143.out) | exact HB.out)) hb); have n2_ := qf (hbox); have n3_ := qf ((by rw [hg]; exact (below_size (by repeat (first | (with_reducible first | exact HB.out | apply qa | apply qb | apply qc | refine qg ?_ GE143.out) | exact HB.out))) : w.heap.size ≤ gb144)); have n4_ := qf ((by rw [hg]; exact (below_size (by repeat (first | (with_reducible first | exact HB.out | apply qa | apply qb | apply qc | refine qg ?_ GE143.out) | exact HB.out))) : w.heap.size ≤ gb144)); have n5_ := qf ((by rw [hg]; exact Nat.ne_of_lt (blk_lt (g := gb143) (o := .cells #[.int .u64 a1_0, .string a1_1] 46 (0, 0)) (by (with_reducible repeat (first | refine blk_drewN ?_ _ | refine blk_drew ?_ | refine qh ?_ _)); exact BK143.out)) : gb143 ≠ gb144)); have n6_ := qf ((by rw [hg]; exact Nat.ne_of_gt (blk_lt (g := gb143) (o := .cells #[.int .u64 a1_0, .string a1_1] 46 (0, 0)) (by (with_reducible repeat (first | refine blk_drewN ?_ _ | refine blk_drew ?_ | refine qh ?_ _)); exact BK143.out)) : gb144 ≠ gb143)); clear BK143; clear HB; have BK143 := n0_; have HB := n1_; have BK144 := n2_; have GW144 := n3_; have GE144 := n4_; have NB143_144 := n5_; have NB144_143 := n6_; clear n0_ n1_ n2_ n3_ n4_ n5_ n6_; clear hb hbox hg; have hnb20 := NB143_144.out; have hnc20 := NB144_143.out; have hcz21_0 : w19.cell? ⟨gb143, 0, none⟩ = some (.int .u64 a1_0) := (blk_cell BK143.out 0).trans rfl; have hcz21_1 : w19.cell? ⟨gb143, 1, none⟩ = some (.string a1_1) := (blk_cell BK143.out 1).trans rfl; have hfz21_0 := blk_frozen BK143.out 0; have hfz21_1 := blk_frozen BK143.out 1; have hcz22_0 : w19.cell? ⟨gb144, 0, none⟩ = some (.slice A2_0 l2_0.length c2_0) := (blk_cell BK144.out 0).trans rfl; have hcz22_1 : w19.cell? ⟨gb144, 1, none⟩ = some (.slice A2_1 l2_1.length c2_1) := (blk_cell BK144.out 1).trans rfl; have hfz22_0 := blk_frozen BK144.out 0; have hfz22_1 := blk_frozen BK144.out 1) | ((with_reducible refine gate_callee (f := 53) rfl ?_); refine goesL_ (some 13) rfl rfl Tryd.func53 (by kernel_rfl) rfl #[.agg #[.int .u64 a1_0, .string a1_1], .agg #[.slice A2_0 l2_0.length c2_0, .slice A2_1 l2_1.length c2_1]] rfl (by (try simp only [List.map_toArray, List.map_cons, List.map_nil]); first | done | rfl | (simp only [List.length_drop, qw]; rfl)) ?_; (with_reducible refine (proof_Steps.calls k a1_0 a1_1 _ _ l2_0 _ _ l2_1 t145 t148 _ ?side1 ?side2 ?side3 ?side4 A4.out).mono ?_); (case side1 => repeat (first | exact (Kd.C_below HR2_0.out HB.out) | (with_reducible refine Kd.C_alloc ?_ _) | (with_reducible refine Kd.C_drewN ?_ _) | (with_reducible refine Kd.C_drew ?_))); (case side2 => exact HC2_0.out); (case side3 => repeat (first | exact (Kd.C_below HR2_1.out HB.out) | (with_reducible refine Kd.C_alloc ?_ _) | (with_reducible refine Kd.C_drewN ?_ _) | (with_reducible refine Kd.C_drew ?_))); (case side4 => exact HC2_1.out); rintro e w23 ⟨v146, rfl, ho0, hb⟩; refine ⟨_, rfl, ?_⟩; have n0_ := qf (Kd.R_lower ho0 (below_size (by repeat (first | (with_reducible first | exact HB.out | apply qa | apply qb | apply qc | refine qg ?_ GE143.out | refine qg ?_ GE144.out) | exact HB.out)))); have n1_ := qf (blk_below (g := gb143) (o := .cells #[.int .u64 a1_0, .string a1_1] 46 (0, 0)) (by (with_reducible repeat (first | refine blk_drewN ?_ _ | refine blk_drew ?_ | refine qh ?_ _)); exact BK143.out) hb); have n2_ := qf (blk_below (g := gb144) (o := .cells #[.slice A2_0 l2_0.length c2_0, .slice A2_1 l2_1.length c2_1] 78 (0, 0)) (by (with_reducible repeat (first | refine blk_drewN ?_ _ | refine blk_drew ?_ | refine qh ?_ _)); exact BK144.out) hb); have n3_ := qf (below_step (by repeat (first | (with_reducible first | exact HB.out | apply qa | apply qb | apply qc | refine qg ?_ GE143.out | refine qg ?_ GE144.out) | exact HB.out)) hb); clear BK143; clear BK144; clear HB; have HO147 := n0_; have BK143 := n1_; have BK144 := n2_; have HB := n3_; clear n0_ n1_ n2_ n3_; (try clear hb); (try clear hb2); (try clear hk); (try clear hi); (try clear ho0)))
  go_ret2
  exact ⟨by first | rfl | (simp [errW_none, errW_some] <;> rfl) | (simp [*, errW_none, errW_some] <;> rfl), by repeat (first | (with_reducible first | exact HB.out | apply qa | apply qb | apply qc | refine qg ?_ GE143.out | refine qg ?_ GE144.out) | exact HB.out)⟩
/-! ### saltusref18_rows: function 87 -/
/-! ### saltusref18_Why: function 55 -/
end Go.Proofs.YtolbhliepkcihaaDoor.QPA
end
section
namespace Go.Proofs.YtolbhliepkcihaaDoor.QPA
open Go.RowKit Kinds YtolbhliepkcihaaDoorW.PrintWords YtolbhliepkcihaaDoorW.PrintLast YtolbhliepkcihaaDoorW.PrintMore
attribute [local go_sem] max2_int min2_int max_two min_two max_three min_three max_four min_four   -- for this text's walks alone
set_option linter.unusedVariables false
set_option linter.unusedSimpArgs false
/-! ### saltusref18_Steps: function 57 -/
/-! ### saltusref18_All: function 94 -/
mutual
def saltusref18_All.l0 : Nat → List ByteArray → Int → List (S46) → List Int → Option (List ByteArray)
 | 0, _, _, _, _ => none
 | k + 1, x3, x4, x184000, x184001 => if x4 < (x184000.length : Int) then (if x4 ≥ 0 then (if 0 ≤ x4 then ((saltusref17_Item.f ((rd_T46 x184000 x4).f0) ((rd_T46 x184000 x4).f1)).bind fun t191 => (if x3.length < 8796093022208 then (saltusref18_All.j1 k (x3 ++ [t191]) x4 x184000 x184001) else (none))) else (none)) else (saltusref18_All.j1 k x3 x4 x184000 x184001)) else (some x3)
def saltusref18_All.j1 : Nat → List ByteArray → Int → List (S46) → List Int → Option (List ByteArray)
 | 0, _, _, _, _ => none
 | k + 1, x3, x4, x184000, x184001 => saltusref18_All.l1 k x3 x4 0 x184000 x184001
def saltusref18_All.l1 : Nat → List ByteArray → Int → Int → List (S46) → List Int → Option (List ByteArray)
 | 0, _, _, _, _, _ => none
 | k + 1, x3, x4, x5, x184000, x184001 => if x5 < 8 then (if x4 < 0 then (saltusref18_All.j3 k x3 x4 x5 true x184000 x184001) else (if 0 ≤ x4 then (if x4 < (x184001.length : Int) then (saltusref18_All.j3 k x3 x4 x5 (decide ((rd x184001 x4) > (wrap64 (x5 + 1)))) x184000 x184001) else (none)) else (none))) else (saltusref18_All.l0 k x3 (wrap64 (x4 + 1)) x184000 x184001)
def saltusref18_All.j3 : Nat → List ByteArray → Int → Int → Bool → List (S46) → List Int → Option (List ByteArray)
 | 0, _, _, _, _, _, _ => none
 | k + 1, x3, x4, x5, x42, x184000, x184001 => if x42 = true then ((saltusref17_From.f x184000 x184001 x4 x5 (wrap64 (x5 + 1))).bind fun t196 => ((saltusref17_Text.f (wrap64 (x5 + 1)) t196).bind fun t199 => (if x3.length < 8796093022208 then (saltusref18_All.l1 k (x3 ++ [t199]) x4 (wrap64 (x5 + 1)) x184000 x184001) else (none)))) else (saltusref18_All.l1 k x3 x4 (wrap64 (x5 + 1)) x184000 x184001)
end
def saltusref18_All.f (k : Nat) (l0_0 : List (S46)) (l0_1 : List Int) : Option (List ByteArray) := saltusref18_All.l0 k (([strOfNums (([1] : List Int))] : List ByteArray)) (-1) l0_0 l0_1
set_option maxHeartbeats 8000000 in
set_option maxRecDepth 100000 in
theorem saltusref18_All.calls (k : Nat) (A0_0 : Option Addr) (c0_0 : Nat) (l0_0 : List (S46)) (A0_1 : Option Addr) (c0_1 : Nat) (l0_1 : List Int) (r : List ByteArray) (w : World) (hr0_0 : Kd.C k46 w A0_0 l0_0.length l0_0) (hc0_0 : l0_0.length ≤ c0_0) (hr0_1 : Kd.C (Kd.int .i64) w A0_1 l0_1.length l0_1) (hc0_1 : l0_1.length ≤ c0_1) (h : saltusref18_All.f k l0_0 l0_1 = some r) :
  Calls Tryd.prog 94 #[.agg #[.slice A0_0 l0_0.length c0_0, .slice A0_1 l0_1.length c0_1]] w fun e w' => ∃ v0_ : Value, e = .returned (v0_) ∧ Kd.R Kd.string 9 w' w.heap.size (fun _ => True) v0_ r ∧ Below w.heap.size w w' := by
 have hu101 := Tryd.underlying101; have hu46 := Tryd.underlying46; have HR0_0 := qf hr0_0; have HC0_0 := qf hc0_0; clear hr0_0 hc0_0; have HR0_1 := qf hr0_1; have HC0_1 := qf hc0_1; clear hr0_1 hc0_1; have HB := qf (Below.refl w.heap.size w); have H : (saltusref18_All.l0 k (([strOfNums (([1] : List Int))] : List ByteArray)) (-1) l0_0 l0_1) = some r := h; clear h
 obtain ⟨y184, hy184⟩ : ∃ y_ : List Int, y_ = (([1] : List Int)) := ⟨_, rfl⟩
 replace H : (saltusref18_All.l0 k (([strOfNums y184] : List ByteArray)) (-1) l0_0 l0_1) = some r := by first | (rw [hy184]; with_reducible exact H) | (have H2_ := (qv _ _).symm.trans H; rw [hy184]; with_reducible exact H2_) | (have H2_ := (qv _ _).symm.trans H; with_reducible exact H2_) | with_reducible exact H | (rw [hy184]; exact H) | exact H
 have Ny184 := qf hy184; clear hy184
 obtain ⟨y187, hy187⟩ : ∃ y_ : List ByteArray, y_ = (([strOfNums y184] : List ByteArray)) := ⟨_, rfl⟩
 replace H : (saltusref18_All.l0 k y187 (-1) l0_0 l0_1) = some r := by first | (rw [hy187]; with_reducible exact H) | (have H2_ := (qv _ _).symm.trans H; rw [hy187]; with_reducible exact H2_) | (have H2_ := (qv _ _).symm.trans H; with_reducible exact H2_) | with_reducible exact H | (rw [hy187]; exact H) | exact H
 have Ny187 := qf hy187; clear hy187; have H' := qf H; clear H
 go_enter Tryd.func94, Tryd.ntmps94
 go_wp2_with (first | ((with_reducible refine gate_dst (N := 1) rfl ?_); refine box_event ?hg (N := 1) ?hd (cs := #[.slice A0_0 l0_0.length c0_0, .slice A0_1 l0_1.length c0_1]) (t := 101) ?hr ?_; (case hd => rfl); (case hg => rfl); (case hr => first | (go_simp; done) | (go_simp; rfl)); intro gb183 hg w2 hbox hb; have n0_ := qf (below_step (by repeat (first | (with_reducible first | exact HB.out | apply qa | apply qb | apply qc) | exact HB.out)) hb); have n1_ := qf (hbox); have n2_ := qf ((by rw [hg]; exact (below_size (by repeat (first | (with_reducible first | exact HB.out | apply qa | apply qb | apply qc) | exact HB.out))) : w.heap.size ≤ gb183)); have n3_ := qf ((by rw [hg]; exact (below_size (by repeat (first | (with_reducible first | exact HB.out | apply qa | apply qb | apply qc) | exact HB.out))) : w.heap.size ≤ gb183)); clear HB; have HB := n0_; have BK183 := n1_; have GW183 := n2_; have GE183 := n3_; clear n0_ n1_ n2_ n3_; clear hb hbox hg) | ((with_reducible refine gate_dst (N := 6) rfl ?_); refine Kd.R_lit (Kd.int .u8) _ 5 ?hg (N := 6) ?hd (xs := ([1] : List Int)) (inner := [.int .u8 1]) (ok := fun _ => True) (okp := fun _ => True) ?hr ?hp (fun _ hk => hk) trivial (Below.refl _ _) (Nat.le_refl _) (by simp) ?_; (case hd => rfl); (case hg => rfl); (case hr => first | (go_simp; done) | (go_simp; rfl)); (case hp => exact (Reps.one (show Kd.M (Kd.int .u8) _ _ _ 1 [.int .u8 1] from rfl) (Reps.none _ _))); intro v185 w3 ho4 hb hg_ hnew_; clear hg_ hnew_; (first | rw [← Ny184.out] at ho4 | (simp only [Int.reduceToNat] at ho4; rw [← Ny184.out] at ho4)); have n0_ := qf (Kd.R_lower ho4 (below_size (by repeat (first | (with_reducible first | exact HB.out | apply qa | apply qb | apply qc | refine qg ?_ GE183.out) | exact HB.out)))); have n1_ := qf (blk_below (g := gb183) (o := .cells #[.slice A0_0 l0_0.length c0_0, .slice A0_1 l0_1.length c0_1] 101 (0, 0)) (by (with_reducible repeat (first | refine blk_drewN ?_ _ | refine blk_drew ?_ | refine qh ?_ _)); exact BK183.out) hb); have n2_ := qf (below_step (by repeat (first | (with_reducible first | exact HB.out | apply qa | apply qb | apply qc | refine qg ?_ GE183.out) | exact HB.out)) hb); clear BK183; clear HB; have HO186 := n0_; have BK183 := n1_; have HB := n2_; clear n0_ n1_ n2_; clear hb ho4; have hcv5 := own_string (P := Tryd.prog) Tryd.underlying111 Tryd.underlying5 Tryd.underlying9 (Kd.own_of_R HO186.out)) | ((with_reducible refine gate_dst (N := 8) rfl ?_); refine Kd.R_lit Kd.string _ 9 ?hg (N := 8) ?hd (xs := ([strOfNums y184] : List ByteArray)) (inner := [.string (strOfNums y184)]) (ok := fun _ => True) (okp := fun _ => True) ?hr ?hp (fun _ hk => hk) trivial (Below.refl _ _) (Nat.le_refl _) (by simp) ?_; (case hd => rfl); (case hg => rfl); (case hr => first | (go_simp; done) | (go_simp; rfl)); (case hp => exact (Reps.one (show Kd.M Kd.string _ _ _ (strOfNums y184) [.string (strOfNums y184)] from rfl) (Reps.none _ _))); intro v188 w6 ho7 hb hg_ hnew_; clear hg_ hnew_; (first | rw [← Ny187.out] at ho7 | (simp only [Int.reduceToNat] at ho7; rw [← Ny187.out] at ho7)); have n0_ := qf (Kd.R_below (by (with_reducible repeat (first | apply Kd.R_alloc | apply Kd.R_drewN | apply Kd.R_drew)); exact HO186.out) hb); have n1_ := qf (Kd.R_lower ho7 (below_size (by repeat (first | (with_reducible first | exact HB.out | apply qa | apply qb | apply qc | refine qg ?_ GE183.out) | exact HB.out)))); have n2_ := qf (blk_below (g := gb183) (o := .cells #[.slice A0_0 l0_0.length c0_0, .slice A0_1 l0_1.length c0_1] 101 (0, 0)) (by (with_reducible repeat (first | refine blk_drewN ?_ _ | refine blk_drew ?_ | refine qh ?_ _)); exact BK183.out) hb); have n3_ := qf (below_step (by repeat (first | (with_reducible first | exact HB.out | apply qa | apply qb | apply qc | refine qg ?_ GE183.out) | exact HB.out)) hb); clear HO186; clear BK183; clear HB; have HO186 := n0_; have HO189 := n1_; have BK183 := n2_; have HB := n3_; clear n0_ n1_ n2_ n3_; clear hb ho7))
 go_loopg [3, 4] k (fun kq v3 v4 w' => ∃ (x3_1 : List ByteArray) (x4_1 : Int), v4 = .int .i64 x4_1 ∧ Aside0 (saltusref18_All.l0 kq x3_1 x4_1 l0_0 l0_1 = some r) ∧ Aside0 (kq ≤ k) ∧ Aside0 (Kd.R Kd.string 9 w' w.heap.size (fun _ => True) v3 x3_1) ∧ Aside0 (w'.heap[gb183]? = some (.cells #[(.slice A0_0 l0_0.length c0_0), (.slice A0_1 l0_1.length c0_1)] 101 (0, 0))) ∧ Aside0 (Below w.heap.size w w'))
 case atStart => exact ⟨(y187), ((-1)), (by first | rfl | (simp; done) | (simp [*]; done)), H', ⟨Nat.le_refl _⟩, ⟨by (with_reducible repeat (first | apply Kd.R_alloc | apply Kd.R_drewN | apply Kd.R_drew)); exact HO189.out⟩, ⟨by (with_reducible repeat (first | refine blk_drewN ?_ _ | refine blk_drew ?_ | refine qh ?_ _)); exact BK183.out⟩, ⟨by repeat (first | (with_reducible first | exact HB.out | apply qa | apply qb | apply qc | refine qg ?_ GE183.out) | exact HB.out)⟩⟩
 case round =>
  clear H'; (try clear p2); (try clear hcv5); obtain ⟨x3_1, x4_1, rfl, HA, HK1, HO_3, BK183, HB⟩ := hrel
  cases gk with
  | zero => exact absurd HA.out (by simp [saltusref18_All.l0])
  | succ k1 =>
   have H := HA.out; clear HA; simp only [saltusref18_All.l0] at H
   by_cases c8 : x4_1 < (l0_0.length : Int)
   ·rw [if_pos c8] at H; have c8b0 : decide (x4_1 < (l0_0.length : Int)) = true := qj c8; clear c8; have HC9 := qf H; clear H; have hcz10_0 : wr.cell? ⟨gb183, 0, none⟩ = some (.slice A0_0 l0_0.length c0_0) := (blk_cell BK183.out 0).trans rfl; have hcz10_1 : wr.cell? ⟨gb183, 1, none⟩ = some (.slice A0_1 l0_1.length c0_1) := (blk_cell BK183.out 1).trans rfl; have hfz10_0 := blk_frozen BK183.out 0; have hfz10_1 := blk_frozen BK183.out 1
    go_upto_if 17 with (fail)
    go_cut [3] (fun v3 wc => ∃ (kq : Nat) (x3_8 : List ByteArray), Aside0 (saltusref18_All.j1 kq x3_8 x4_1 l0_0 l0_1 = some r) ∧ Aside0 (kq ≤ k1) ∧ Aside0 (Kd.R Kd.string 9 wc w.heap.size (fun _ => True) v3 x3_8) ∧ Aside0 (wc.heap[gb183]? = some (.cells #[(.slice A0_0 l0_0.length c0_0), (.slice A0_1 l0_1.length c0_1)] 101 (0, 0))) ∧ Aside0 (Below w.heap.size w wc))
    case first =>
     have H := HC9.out; clear HC9
     by_cases c11 : x4_1 ≥ 0
     ·rw [if_pos c11] at H; have c11b0 : decide (0 ≤ x4_1) = true := qj c11; clear c11
      (first | rw [c11b0] | (simp only [i64_w, i32_w]; rw [c11b0]) | skip)
      by_cases c12 : 0 ≤ x4_1
      ·rw [if_pos c12] at H; have c12b0 : decide (0 ≤ x4_1) = true := qj c12; clear c12; replace H := qi H; obtain ⟨t191, A130, H⟩ := H
       (try dsimp only at H)
       have A13 := qf A130; clear A130
       by_cases c14 : x3_1.length < 8796093022208
       ·rw [if_pos c14] at H; have LMc14 := qf c14; clear c14
        obtain ⟨y192, hy192⟩ : ∃ y_ : List ByteArray, y_ = (x3_1 ++ [t191]) := ⟨_, rfl⟩
        replace H : (saltusref18_All.j1 k1 y192 x4_1 l0_0 l0_1) = some r := by first | (rw [hy192]; with_reducible exact H) | (have H2_ := (qv _ _).symm.trans H; rw [hy192]; with_reducible exact H2_) | (have H2_ := (qv _ _).symm.trans H; with_reducible exact H2_) | with_reducible exact H | (rw [hy192]; exact H) | exact H
        have Ny192 := qf hy192; clear hy192; have H' := qf H; clear H; have hcz15_0 : wr.cell? ⟨gb183, 0, none⟩ = some (.slice A0_0 l0_0.length c0_0) := (blk_cell BK183.out 0).trans rfl; have hcz15_1 : wr.cell? ⟨gb183, 1, none⟩ = some (.slice A0_1 l0_1.length c0_1) := (blk_cell BK183.out 1).trans rfl; have hfz15_0 := blk_frozen BK183.out 0; have hfz15_1 := blk_frozen BK183.out 1; have p190 : 0 ≤ (x4_1 : Int) := qe (by first | (with_reducible assumption) | assumption); have q190 : x4_1 < (l0_0.length : Int) := qe (by first | (with_reducible assumption) | assumption); obtain ⟨ad190, e190, hx190_0, hx190_1⟩ := at_T46 HR0_0.out x4_1 p190 q190; cases e190; replace hx190_0 := (HB.out.cell (qd w _ hx190_0)).trans hx190_0; replace hx190_1 := (HB.out.cell (qd w _ hx190_1)).trans hx190_1; replace p190 := eq_true p190; replace q190 := eq_true q190
        go_wp2_with (first | ((with_reducible refine gate_callee (f := 76) rfl ?_); refine goesL_ (some 24) rfl rfl Tryd.func76 (by kernel_rfl) rfl #[.agg #[.int .u64 ((rd_T46 l0_0 x4_1).f0), .string ((rd_T46 l0_0 x4_1).f1)]] rfl (by (try simp only [List.map_toArray, List.map_cons, List.map_nil]); first | done | rfl | (simp only [List.length_drop, qw]; rfl)) ?_; (with_reducible refine (saltusref17_Item.calls ((rd_T46 l0_0 x4_1).f0) ((rd_T46 l0_0 x4_1).f1) t191 _ A13.out).mono ?_); rintro e w16 ⟨rfl, hb⟩; refine ⟨_, rfl, ?_⟩; have n0_ := qf (Kd.R_below (by (with_reducible repeat (first | apply Kd.R_alloc | apply Kd.R_drewN | apply Kd.R_drew)); exact HO_3.out) hb); have n1_ := qf (blk_below (g := gb183) (o := .cells #[.slice (some ad190) l0_0.length c0_0, .slice A0_1 l0_1.length c0_1] 101 (0, 0)) (by (with_reducible repeat (first | refine blk_drewN ?_ _ | refine blk_drew ?_ | refine qh ?_ _)); exact BK183.out) hb); have n2_ := qf (below_step (by repeat (first | (with_reducible first | exact HB.out | apply qa | apply qb | apply qc | refine qg ?_ GE183.out) | exact HB.out)) hb); clear HO_3; clear BK183; clear HB; have HO_3 := n0_; have BK183 := n1_; have HB := n2_; clear n0_ n1_ n2_; (try clear hb); (try clear hb2); (try clear hk); (try clear hi)) | ((with_reducible refine gate_builtin (b := .append) (xs := #[.tmp 18, .tmp 25]) rfl ?_); at_builtin; refine Kd.R_append Kd.string (w0 := w) w.heap.size rfl (.tmp 18) (.tmp 25) 49 9 (.string ⟨#[]⟩) 16 rfl Tryd.underlying49 info9 rfl (by decide) (by omega) u3 x3_1 t191 [.string t191] (fun _ => True) (fun _ => False) rfl rfl ?aP (fun _ hk => hk.elim) ?aF ?aO ?aB ?aS ?aL ?_; (case aP => exact rfl); (case aB => exact (by repeat (first | (with_reducible first | exact HB.out | apply qa | apply qb | apply qc | refine qg ?_ GE183.out) | exact HB.out))); (case aF => exact (fun _ _ => trivial)); (case aO => exact (by (with_reducible repeat (first | apply Kd.R_alloc | apply Kd.R_drewN | apply Kd.R_drew)); exact HO_3.out)); (case aS => exact (below_size (by repeat (first | (with_reducible first | exact HB.out | apply qa | apply qb | apply qc | refine qg ?_ GE183.out) | exact HB.out)))); (case aL => have := LMc14.out; omega); intro v193 w17 ho hb hg hat; rw [← Ny192.out] at ho; have n0_ := qf (blk_grown (g := gb183) (o := .cells #[.slice (some ad190) l0_0.length c0_0, .slice A0_1 l0_1.length c0_1] 101 (0, 0)) (by (with_reducible repeat (first | refine blk_drewN ?_ _ | refine blk_drew ?_ | refine qh ?_ _)); exact BK183.out) hg (Kd.R_ne HO_3.out BK183.out (by decide))); have n1_ := qf (hb); have n2_ := qf (ho); clear BK183; clear HB; clear HO_3; have BK183 := n0_; have HB := n1_; have HO194 := n2_; clear n0_ n1_ n2_; clear ho hb hg hat))
        go_meet
        case rel => exact ⟨_, (y192), H', ⟨by have := HK1.out; first | omega | exact Nat.le_refl _⟩, ⟨by (with_reducible repeat (first | apply Kd.R_alloc | apply Kd.R_drewN | apply Kd.R_drew)); exact HO194.out⟩, ⟨by (with_reducible repeat (first | refine blk_drewN ?_ _ | refine blk_drew ?_ | refine qh ?_ _)); exact BK183.out⟩, ⟨by repeat (first | (with_reducible first | exact HB.out | apply qa | apply qb | apply qc | refine qg ?_ GE183.out) | exact HB.out)⟩⟩
       ·rw [if_neg c14] at H; exact absurd H (by simp)
      ·rw [if_neg c12] at H; exact absurd H (by simp)
     ·rw [if_neg c11] at H; have c11b0 : decide (0 ≤ x4_1) = false := decide_eq_false c11; clear c11
      (first | rw [c11b0] | (simp only [i64_w, i32_w]; rw [c11b0]) | skip)
      have H' := qf H; clear H; go_wp2
      go_meet
      case rel => exact ⟨_, (x3_1), H', ⟨by have := HK1.out; first | omega | exact Nat.le_refl _⟩, ⟨by (with_reducible repeat (first | apply Kd.R_alloc | apply Kd.R_drewN | apply Kd.R_drew)); exact HO_3.out⟩, ⟨by (with_reducible repeat (first | refine blk_drewN ?_ _ | refine blk_drew ?_ | refine qh ?_ _)); exact BK183.out⟩, ⟨by repeat (first | (with_reducible first | exact HB.out | apply qa | apply qb | apply qc | refine qg ?_ GE183.out) | exact HB.out)⟩⟩
    case rest =>
     clear HC9; (try clear c1); (try clear p1); (try clear q1); (try clear hx1); (try clear p2); (try clear hcv5); (try clear c7); (try clear c8); (try clear c8b0); (try clear c9); (try clear c11); (try clear c11b0); (try clear c12); (try clear c12b0); (try clear c14); (try clear hcz10_0); (try clear hcz10_1); (try clear hcz15_0); (try clear hcz15_1); (try clear hfz10_0); (try clear hfz10_1); (try clear hfz15_0); (try clear hfz15_1); (try clear hx190_0); (try clear hx190_1); (try clear p190); (try clear p2); (try clear q190); obtain ⟨kq, x3_8, HA, HJ8, HO_3, BK183, HB⟩ := hcut
     cases kq with
     | zero => exact absurd HA.out (by simp [saltusref18_All.j1])
     | succ kj8 =>
      have H := HA.out; clear HA; simp only [saltusref18_All.j1] at H; have H' := qf H; clear H; go_wp2
      go_loopg [3, 5] kj8 (fun kq v3 v5 w' => ∃ (x3_3 : List ByteArray) (x5_3 : Int), v5 = .int .i64 x5_3 ∧ Aside0 (saltusref18_All.l1 kq x3_3 x4_1 x5_3 l0_0 l0_1 = some r) ∧ Aside0 (kq ≤ kj8) ∧ Aside0 (Kd.R Kd.string 9 w' w.heap.size (fun _ => True) v3 x3_3) ∧ Aside0 (w'.heap[gb183]? = some (.cells #[(.slice A0_0 l0_0.length c0_0), (.slice A0_1 l0_1.length c0_1)] 101 (0, 0))) ∧ Aside0 (Below w.heap.size w w'))
      case atStart => exact ⟨(x3_8), (0), (by first | rfl | (simp; done) | (simp [*]; done)), H', ⟨Nat.le_refl _⟩, ⟨by (with_reducible repeat (first | apply Kd.R_alloc | apply Kd.R_drewN | apply Kd.R_drew)); exact HO_3.out⟩, ⟨by (with_reducible repeat (first | refine blk_drewN ?_ _ | refine blk_drew ?_ | refine qh ?_ _)); exact BK183.out⟩, ⟨by repeat (first | (with_reducible first | exact HB.out | apply qa | apply qb | apply qc | refine qg ?_ GE183.out) | exact HB.out)⟩⟩
      case round =>
       clear H'; (try clear c1); (try clear p1); (try clear q1); (try clear hx1); (try clear p2); (try clear hcv5); (try clear c7); (try clear c8); (try clear c8b0); (try clear c9); (try clear c11); (try clear c11b0); (try clear c12); (try clear c12b0); (try clear c14); (try clear hcz10_0); (try clear hcz10_1); (try clear hcz15_0); (try clear hcz15_1); (try clear hfz10_0); (try clear hfz10_1); (try clear hfz15_0); (try clear hfz15_1); (try clear hx190_0); (try clear hx190_1); (try clear p1); (try clear p190); (try clear p2); (try clear q1); (try clear q190); obtain ⟨x3_3, x5_3, rfl, HA, HK3, HO_3, BK183, HB⟩ := hrel
       cases gk with
       | zero => exact absurd HA.out (by simp [saltusref18_All.l1])
       | succ k3 =>
        have H := HA.out; clear HA; simp only [saltusref18_All.l1] at H
        by_cases c18 : x5_3 < 8
        ·rw [if_pos c18] at H; have c18b0 : decide (x5_3 < 8) = true := qj c18; clear c18; have HC19 := qf H; clear H
         go_upto_region 10 with (fail)
         go_cut [42] (fun v42 wc => ∃ (kq : Nat) (x42_18 : Bool), v42 = .bool x42_18 ∧ Aside0 (saltusref18_All.j3 kq x3_3 x4_1 x5_3 x42_18 l0_0 l0_1 = some r) ∧ Aside0 (kq ≤ k3) ∧ Aside0 (Kd.R Kd.string 9 wc w.heap.size (fun _ => True) u3 x3_3) ∧ Aside0 (wc.heap[gb183]? = some (.cells #[(.slice A0_0 l0_0.length c0_0), (.slice A0_1 l0_1.length c0_1)] 101 (0, 0))) ∧ Aside0 (Below w.heap.size w wc))
         case first =>
          have H := HC19.out; clear HC19
          by_cases c20 : x4_1 < 0
          ·rw [if_pos c20] at H; have c20b0 : decide (x4_1 < 0) = true := qj c20; clear c20
           (first | rw [c20b0] | (simp only [i64_w, i32_w]; rw [c20b0]) | skip)
           have H' := qf H; clear H; go_wp2
           go_meet
           case rel => exact ⟨_, (true), (by first | rfl | (simp; done) | (simp [*]; done)), H', ⟨by have := HK1.out; have := HJ8.out; have := HK3.out; first | omega | exact Nat.le_refl _⟩, ⟨by (with_reducible repeat (first | apply Kd.R_alloc | apply Kd.R_drewN | apply Kd.R_drew)); exact HO_3.out⟩, ⟨by (with_reducible repeat (first | refine blk_drewN ?_ _ | refine blk_drew ?_ | refine qh ?_ _)); exact BK183.out⟩, ⟨by repeat (first | (with_reducible first | exact HB.out | apply qa | apply qb | apply qc | refine qg ?_ GE183.out) | exact HB.out)⟩⟩
          ·rw [if_neg c20] at H; have c20b0 : decide (x4_1 < 0) = false := decide_eq_false c20; clear c20
           (first | rw [c20b0] | (simp only [i64_w, i32_w]; rw [c20b0]) | skip)
           by_cases c21 : 0 ≤ x4_1
           ·rw [if_pos c21] at H; have c21b0 : decide (0 ≤ x4_1) = true := qj c21; clear c21
            by_cases c22 : x4_1 < (l0_1.length : Int)
            ·rw [if_pos c22] at H; have c22b0 : decide (x4_1 < (l0_1.length : Int)) = true := qj c22; clear c22; have H' := qf H; clear H; have hcz23_0 : wr.cell? ⟨gb183, 0, none⟩ = some (.slice A0_0 l0_0.length c0_0) := (blk_cell BK183.out 0).trans rfl; have hcz23_1 : wr.cell? ⟨gb183, 1, none⟩ = some (.slice A0_1 l0_1.length c0_1) := (blk_cell BK183.out 1).trans rfl; have hfz23_0 := blk_frozen BK183.out 0; have hfz23_1 := blk_frozen BK183.out 1; have p195 : 0 ≤ (x4_1 : Int) := qe (by first | (with_reducible assumption) | assumption); have q195 : x4_1 < (l0_1.length : Int) := qe (by first | (with_reducible assumption) | assumption); obtain ⟨ad195, e195, hx195_0⟩ := Kd.at_int HR0_1.out x4_1 p195 q195; cases e195; replace hx195_0 := (HB.out.cell (qd w _ hx195_0)).trans hx195_0; replace p195 := eq_true p195; replace q195 := eq_true q195; go_wp2
             go_meet
             case rel => exact ⟨_, (decide ((rd l0_1 x4_1) > (wrap64 (x5_3 + 1)))), (by first | rfl | (simp; done) | (simp [*]; done)), H', ⟨by have := HK1.out; have := HJ8.out; have := HK3.out; first | omega | exact Nat.le_refl _⟩, ⟨by (with_reducible repeat (first | apply Kd.R_alloc | apply Kd.R_drewN | apply Kd.R_drew)); exact HO_3.out⟩, ⟨by (with_reducible repeat (first | refine blk_drewN ?_ _ | refine blk_drew ?_ | refine qh ?_ _)); exact BK183.out⟩, ⟨by repeat (first | (with_reducible first | exact HB.out | apply qa | apply qb | apply qc | refine qg ?_ GE183.out) | exact HB.out)⟩⟩
            ·rw [if_neg c22] at H; exact absurd H (by simp)
           ·rw [if_neg c21] at H; exact absurd H (by simp)
         case rest =>
          clear HC19; (try clear c1); (try clear p1); (try clear q1); (try clear hx1); (try clear c2); (try clear p2); (try clear hcv5); (try clear p6); (try clear c7); (try clear c8); (try clear c8b0); (try clear c9); (try clear c11); (try clear c11b0); (try clear c12); (try clear c12b0); (try clear c14); (try clear c18); (try clear c18b0); (try clear p19); (try clear q19); (try clear hx19); (try clear c20); (try clear c20b0); (try clear c21); (try clear c21b0); (try clear c22); (try clear c22b0); (try clear hcz10_0); (try clear hcz10_1); (try clear hcz15_0); (try clear hcz15_1); (try clear hcz23_0); (try clear hcz23_1); (try clear hfz10_0); (try clear hfz10_1); (try clear hfz15_0); (try clear hfz15_1); (try clear hfz23_0); (try clear hfz23_1); (try clear hx190_0); (try clear hx190_1); (try clear hx195_0); (try clear p1); (try clear p190); (try clear p195); (try clear p2); (try clear q1); (try clear q190); (try clear q195); obtain ⟨kq, x42_18, rfl, HA, HJ18, HO_3, BK183, HB⟩ := hcut
          cases kq with
          | zero => exact absurd HA.out (by simp [saltusref18_All.j3])
          | succ kj18 =>
           have H := HA.out; clear HA; simp only [saltusref18_All.j3] at H
           by_cases c24 : x42_18 = true
           ·subst c24
            have H1 : ((saltusref17_From.f l0_0 l0_1 x4_1 x5_3 (wrap64 (x5_3 + 1))).bind fun t196 => ((saltusref17_Text.f (wrap64 (x5_3 + 1)) t196).bind fun t199 => (if x3_3.length < 8796093022208 then (saltusref18_All.l1 kj18 (x3_3 ++ [t199]) x4_1 (wrap64 (x5_3 + 1)) l0_0 l0_1) else (none)))) = some r := by rw [if_pos rfl] at H; exact H
            clear H; have H := H1; clear H1; replace H := qi H; obtain ⟨t196, A250, H⟩ := H
            (try dsimp only at H)
            have A25 := qf A250; clear A250; replace H := qi H; obtain ⟨t199, A260, H⟩ := H
            (try dsimp only at H)
            have A26 := qf A260; clear A260
            by_cases c27 : x3_3.length < 8796093022208
            ·rw [if_pos c27] at H; have LMc27 := qf c27; clear c27
             obtain ⟨y200, hy200⟩ : ∃ y_ : List ByteArray, y_ = (x3_3 ++ [t199]) := ⟨_, rfl⟩
             replace H : (saltusref18_All.l1 kj18 y200 x4_1 (wrap64 (x5_3 + 1)) l0_0 l0_1) = some r := by first | (rw [hy200]; with_reducible exact H) | (have H2_ := (qv _ _).symm.trans H; rw [hy200]; with_reducible exact H2_) | (have H2_ := (qv _ _).symm.trans H; with_reducible exact H2_) | with_reducible exact H | (rw [hy200]; exact H) | exact H
             have Ny200 := qf hy200; clear hy200; have H' := qf H; clear H; have hcz28_0 : wc.cell? ⟨gb183, 0, none⟩ = some (.slice A0_0 l0_0.length c0_0) := (blk_cell BK183.out 0).trans rfl; have hcz28_1 : wc.cell? ⟨gb183, 1, none⟩ = some (.slice A0_1 l0_1.length c0_1) := (blk_cell BK183.out 1).trans rfl; have hfz28_0 := blk_frozen BK183.out 0; have hfz28_1 := blk_frozen BK183.out 1
             go_wp2_with (first | ((with_reducible refine gate_callee (f := 103) rfl ?_); refine goesL_ (some 51) rfl rfl Tryd.func103 (by kernel_rfl) rfl #[.agg #[.slice A0_0 l0_0.length c0_0, .slice A0_1 l0_1.length c0_1], .int .i64 x4_1, .int .i64 x5_3, .int .i64 (wrap64 (x5_3 + 1))] rfl (by (try simp only [List.map_toArray, List.map_cons, List.map_nil]); first | done | rfl | (simp only [List.length_drop, qw]; rfl)) ?_; (with_reducible refine (saltusref17_From.calls _ _ l0_0 _ _ l0_1 x4_1 x5_3 (wrap64 (x5_3 + 1)) t196 _ ?side1 ?side2 ?side3 ?side4 A25.out).mono ?_); (case side1 => repeat (first | exact (Kd.C_below HR0_0.out HB.out) | (with_reducible refine Kd.C_alloc ?_ _) | (with_reducible refine Kd.C_drewN ?_ _) | (with_reducible refine Kd.C_drew ?_))); (case side2 => exact HC0_0.out); (case side3 => repeat (first | exact (Kd.C_below HR0_1.out HB.out) | (with_reducible refine Kd.C_alloc ?_ _) | (with_reducible refine Kd.C_drewN ?_ _) | (with_reducible refine Kd.C_drew ?_))); (case side4 => exact HC0_1.out); rintro e w29 ⟨v197, rfl, ho0, hb⟩; refine ⟨_, rfl, ?_⟩; have n0_ := qf (Kd.R_elder' (by (with_reducible repeat (first | apply Kd.R_alloc | apply Kd.R_drewN | apply Kd.R_drew)); exact HO_3.out) (Kd.R_base ho0) hb); have n1_ := qf (Kd.R_lower (Kd.R_new' ho0 (Kd.R_lt (by (with_reducible repeat (first | apply Kd.R_alloc | apply Kd.R_drewN | apply Kd.R_drew)); exact HO_3.out))) (below_size (by repeat (first | (with_reducible first | exact HB.out | apply qa | apply qb | apply qc | refine qg ?_ GE183.out) | exact HB.out)))); have n2_ := qf (blk_below (g := gb183) (o := .cells #[.slice A0_0 l0_0.length c0_0, .slice A0_1 l0_1.length c0_1] 101 (0, 0)) (by (with_reducible repeat (first | refine blk_drewN ?_ _ | refine blk_drew ?_ | refine qh ?_ _)); exact BK183.out) hb); have n3_ := qf (below_step (by repeat (first | (with_reducible first | exact HB.out | apply qa | apply qb | apply qc | refine qg ?_ GE183.out) | exact HB.out)) hb); clear HO_3; clear BK183; clear HB; have HO_3 := n0_; have HO198 := n1_; have BK183 := n2_; have HB := n3_; clear n0_ n1_ n2_ n3_; (try clear hb); (try clear hb2); (try clear hk); (try clear hi); (try clear ho0); obtain ⟨Ao30, co30, eo30⟩ := Kd.R_slice HO198.out; subst eo30) | ((with_reducible refine gate_callee (f := 46) rfl ?_); refine goesL_ (some 52) rfl rfl Tryd.func46 (by kernel_rfl) rfl #[.int .i64 (wrap64 (x5_3 + 1)), .slice Ao30 t196.length co30] rfl (by (try simp only [List.map_toArray, List.map_cons, List.map_nil]); first | done | rfl | (simp only [List.length_drop, qw]; rfl)) ?_; (with_reducible refine (saltusref17_Text.calls (wrap64 (x5_3 + 1)) _ _ t196 t199 _ ?side1 ?side2 A26.out).mono ?_); (case side1 => repeat (first | exact (Kd.R_reads' HO198.out).2.2 | (with_reducible refine Kd.C_alloc ?_ _) | (with_reducible refine Kd.C_drewN ?_ _) | (with_reducible refine Kd.C_drew ?_))); (case side2 => exact (Kd.R_reads' HO198.out).2.1); rintro e w31 ⟨rfl, hb⟩; refine ⟨_, rfl, ?_⟩; have n0_ := qf (Kd.R_below (by (with_reducible repeat (first | apply Kd.R_alloc | apply Kd.R_drewN | apply Kd.R_drew)); exact HO_3.out) hb); have n1_ := qf (Kd.R_below (by (with_reducible repeat (first | apply Kd.R_alloc | apply Kd.R_drewN | apply Kd.R_drew)); exact HO198.out) hb); have n2_ := qf (blk_below (g := gb183) (o := .cells #[.slice A0_0 l0_0.length c0_0, .slice A0_1 l0_1.length c0_1] 101 (0, 0)) (by (with_reducible repeat (first | refine blk_drewN ?_ _ | refine blk_drew ?_ | refine qh ?_ _)); exact BK183.out) hb); have n3_ := qf (below_step (by repeat (first | (with_reducible first | exact HB.out | apply qa | apply qb | apply qc | refine qg ?_ GE183.out) | exact HB.out)) hb); clear HO_3; clear HO198; clear BK183; clear HB; have HO_3 := n0_; have HO198 := n1_; have BK183 := n2_; have HB := n3_; clear n0_ n1_ n2_ n3_; (try clear hb); (try clear hb2); (try clear hk); (try clear hi)) | ((with_reducible refine gate_builtin (b := .append) (xs := #[.tmp 43, .tmp 53]) rfl ?_); at_builtin; refine Kd.R_append Kd.string (w0 := w) w.heap.size rfl (.tmp 43) (.tmp 53) 49 9 (.string ⟨#[]⟩) 16 rfl Tryd.underlying49 info9 rfl (by decide) (by omega) u3 x3_3 t199 [.string t199] (fun k_ => some k_ ≠ (.slice Ao30 t196.length co30 : Value).ownBlock) (fun _ => False) rfl rfl ?aP (fun _ hk => hk.elim) ?aF ?aO ?aB ?aS ?aL ?_; (case aP => exact rfl); (case aB => exact (by repeat (first | (with_reducible first | exact HB.out | apply qa | apply qb | apply qc | refine qg ?_ GE183.out) | exact HB.out))); (case aF => exact (fun k_ hk => Kd.fresh' (Kd.R_lt (by (with_reducible repeat (first | apply Kd.R_alloc | apply Kd.R_drewN | apply Kd.R_drew)); exact HO198.out)) k_ hk)); (case aO => exact (by (with_reducible repeat (first | apply Kd.R_alloc | apply Kd.R_drewN | apply Kd.R_drew)); exact Kd.R_mono HO_3.out (fun _ hk => hk.2))); (case aS => exact (below_size (by repeat (first | (with_reducible first | exact HB.out | apply qa | apply qb | apply qc | refine qg ?_ GE183.out) | exact HB.out)))); (case aL => have := LMc27.out; omega); intro v201 w32 ho hb hg hat; rw [← Ny200.out] at ho; have n0_ := qf (blk_grown (g := gb183) (o := .cells #[.slice A0_0 l0_0.length c0_0, .slice A0_1 l0_1.length c0_1] 101 (0, 0)) (by (with_reducible repeat (first | refine blk_drewN ?_ _ | refine blk_drew ?_ | refine qh ?_ _)); exact BK183.out) hg (Kd.R_ne HO_3.out BK183.out (by decide))); have n1_ := qf (Kd.R_after (ok := (fun _ => True)) (by (with_reducible repeat (first | apply Kd.R_alloc | apply Kd.R_drewN | apply Kd.R_drew)); exact HO198.out) hg hat); have n2_ := qf (hb); have n3_ := qf (ho); clear BK183; clear HO198; clear HB; clear HO_3; have BK183 := n0_; have HO198 := n1_; have HB := n2_; have HO202 := n3_; clear n0_ n1_ n2_ n3_; clear ho hb hg hat))
             go_roundg kj18
             case measure => have := HK1.out; have := HJ8.out; have := HK3.out; have := HJ18.out; omega
             case rel => exact ⟨(y200), (wrap64 (x5_3 + 1)), (by first | rfl | (simp; done) | (simp [*]; done)), H', ⟨by have := HK1.out; have := HJ8.out; have := HK3.out; have := HJ18.out; omega⟩, ⟨by (with_reducible repeat (first | apply Kd.R_alloc | apply Kd.R_drewN | apply Kd.R_drew)); exact Kd.R_mono HO202.out (fun _ hk => trivial)⟩, ⟨by (with_reducible repeat (first | refine blk_drewN ?_ _ | refine blk_drew ?_ | refine qh ?_ _)); exact BK183.out⟩, ⟨by repeat (first | (with_reducible first | exact HB.out | apply qa | apply qb | apply qc | refine qg ?_ GE183.out) | exact HB.out)⟩⟩
            ·rw [if_neg c27] at H; exact absurd H (by simp)
           ·replace c24 := Bool.eq_false_iff.mpr c24; subst c24
            have H1 : (saltusref18_All.l1 kj18 x3_3 x4_1 (wrap64 (x5_3 + 1)) l0_0 l0_1) = some r := by rw [if_neg (show ¬ (false = true) by decide)] at H; exact H
            clear H; have H := H1; clear H1; have H' := qf H; clear H; go_wp2
            go_roundg kj18
            case measure => have := HK1.out; have := HJ8.out; have := HK3.out; have := HJ18.out; omega
            case rel => exact ⟨(x3_3), (wrap64 (x5_3 + 1)), (by first | rfl | (simp; done) | (simp [*]; done)), H', ⟨by have := HK1.out; have := HJ8.out; have := HK3.out; have := HJ18.out; omega⟩, ⟨by (with_reducible repeat (first | apply Kd.R_alloc | apply Kd.R_drewN | apply Kd.R_drew)); exact HO_3.out⟩, ⟨by (with_reducible repeat (first | refine blk_drewN ?_ _ | refine blk_drew ?_ | refine qh ?_ _)); exact BK183.out⟩, ⟨by repeat (first | (with_reducible first | exact HB.out | apply qa | apply qb | apply qc | refine qg ?_ GE183.out) | exact HB.out)⟩⟩
        ·rw [if_neg c18] at H; have c18b0 : decide (x5_3 < 8) = false := decide_eq_false c18; clear c18; have H' := qf H; clear H; go_wp2
         go_roundg k3
         case measure => have := HK1.out; have := HJ8.out; have := HK3.out; omega
         case rel => exact ⟨(x3_3), (wrap64 (x4_1 + 1)), (by first | rfl | (simp; done) | (simp [*]; done)), H', ⟨by have := HK1.out; have := HJ8.out; have := HK3.out; omega⟩, ⟨by (with_reducible repeat (first | apply Kd.R_alloc | apply Kd.R_drewN | apply Kd.R_drew)); exact HO_3.out⟩, ⟨by (with_reducible repeat (first | refine blk_drewN ?_ _ | refine blk_drew ?_ | refine qh ?_ _)); exact BK183.out⟩, ⟨by repeat (first | (with_reducible first | exact HB.out | apply qa | apply qb | apply qc | refine qg ?_ GE183.out) | exact HB.out)⟩⟩
   ·rw [if_neg c8] at H; have c8b0 : decide (x4_1 < (l0_0.length : Int)) = false := decide_eq_false c8; clear c8; obtain rfl := Option.some.inj H; have hcz33_0 : wr.cell? ⟨gb183, 0, none⟩ = some (.slice A0_0 l0_0.length c0_0) := (blk_cell BK183.out 0).trans rfl; have hcz33_1 : wr.cell? ⟨gb183, 1, none⟩ = some (.slice A0_1 l0_1.length c0_1) := (blk_cell BK183.out 1).trans rfl; have hfz33_0 := blk_frozen BK183.out 0; have hfz33_1 := blk_frozen BK183.out 1; go_wp2; go_ret; exact ⟨_, by first | rfl | (simp [errW_none, errW_some] <;> rfl) | (simp [*, errW_none, errW_some] <;> rfl), by (with_reducible repeat (first | apply Kd.R_alloc | apply Kd.R_drewN | apply Kd.R_drew)); exact HO_3.out, by repeat (first | (with_reducible first | exact HB.out | apply qa | apply qb | apply qc | refine qg ?_ GE183.out) | exact HB.out)⟩
end Go.Proofs.YtolbhliepkcihaaDoor.QPA
end
section
namespace Go.Proofs.YtolbhliepkcihaaDoor.ProofPure
open Go.RowKit QPA YtolbhliepkcihaaDoorW.PrintWords Kinds Build Lab Sha Mac Codec Tower SkipOps SkipPure
abbrev Rows := List (List ByteArray)
def stepN (x : S46) (b a : Rows) : Nat → ByteArray
 | 0 => itemT x
 | j + 1 => joinT (j + 1) (b.getD j [] ++ [sumS (stepN x b a j)] ++ a.getD j [])
def stepsL (x : S46) (b a : Rows) : List ByteArray := (List.range 9).map (stepN x b a)
def okRows (b : Rows) : Prop := b.length = 8 ∧ ∀ j, j < 8 → (b.getD j []).length ≤ 64 ∧ ∀ s, s ∈ b.getD j [] → s.size = 32
theorem odd_false {s : ByteArray} (h : odd s = false) : s.size = 32 := by
 unfold odd at h; simp at h
 omega
theorem okRows_of {b : Rows} (hl : b.length = 8) (h : oddRs b = false) : okRows b := by
 refine ⟨hl, fun j hj => ?_⟩
 have hlt : j < b.length := by omega
 have e : b.getD j [] = b[j] := by rw [List.getD_eq_getElem?_getD, List.getElem?_eq_getElem hlt]; rfl
 have ho : oddR b[j] = false := by
  cases hb : oddR b[j] with
  | false => rfl
  | true => rw [oddRs_take b j hlt hb] at h; cases h
 rw [e]; unfold oddR at ho; rw [Bool.or_eq_false_iff] at ho; refine ⟨by have := of_decide_eq_false ho.1; omega, fun s hs => odd_false ?_⟩
 cases hb : odd s with
 | false => rfl
 | true =>
  have := ho.2; unfold odds at this; rw [List.any_eq_true.2 ⟨s, hs, hb⟩] at this; cases this
theorem okRows_cat {b : Rows} (h : okRows b) (j : Nat) (hj : j < 8) : (catS (b.getD j [])).size ≤ 2048 := by
 obtain ⟨h1, h2⟩ := h.2 j hj; rw [cat32 _ h2]
 omega
theorem stepN_size (x : S46) (b a : Rows) (hx : x.f1.size ≤ 64) (hb : okRows b) (ha : okRows a) (j : Nat) (hj : j ≤ 8) : (stepN x b a j).size ≤ 5000 := by
 cases j with
 | zero => show (itemT x).size ≤ 5000; rw [itemT_size]; omega
 | succ j =>
  have h1 := okRows_cat hb j (by omega); have h2 := okRows_cat ha j (by omega)
  show (joinT (j + 1) _).size ≤ 5000
  rw [joinT_size, cat_app, cat_app, cat_one, ByteArray.size_append, ByteArray.size_append, sumS_size]
  omega
theorem rd_rows (b : Rows) (j : Nat) : rd_L1 b (j : Int) = b.getD j [] := by unfold rd_L1; rw [Int.toNat_natCast]
theorem steps_rd (x : S46) (b a : Rows) (j n : Nat) (h : j < n) : rdOf ByteArray.empty ((List.range n).map (stepN x b a)) (j : Int) = stepN x b a j := by
 unfold rdOf; rw [Int.toNat_natCast, List.getD_eq_getElem?_getD, List.getElem?_map, List.getElem?_range h]; rfl
theorem range_next (x : S46) (b a : Rows) (n : Nat) : (List.range n).map (stepN x b a) ++ [stepN x b a n] = (List.range (n + 1)).map (stepN x b a) := by
 rw [List.range_succ, List.map_append]; rfl
theorem step_text (x : S46) (b a : Rows) (j : Nat) : ((((⟨#[2]⟩ : ByteArray) ++ numS (j + 1)) ++ catS (b.getD j [])) ++ sumS (stepN x b a j)) ++ catS (a.getD j []) = stepN x b a (j + 1) := by
 show _ = ofNats [2] ++ numS (j + 1) ++ catS (b.getD j [] ++ [sumS (stepN x b a j)] ++ a.getD j [])
 rw [cat_app, cat_app, cat_one]; simp only [ByteArray.append_assoc]; rfl
theorem steps_l0 (x : S46) (b a : Rows) (hx : x.f1.size ≤ 64) (hb : okRows b) (ha : okRows a) (d : Nat) : ∀ j, j + d = 8 → Ev (fun k => proof_Steps.l0 k ((List.range (j + 1)).map (stepN x b a)) (j : Int) b a) (stepsL x b a, 0) := by
 induction d with
 | zero =>
  intro j hj
  obtain rfl : j = 8 := by omega
  refine Ev.step (fun k => ?_) (Ev.now _); rw [proof_Steps.l0, if_neg (by decide)]; rfl
 | succ d ih =>
  intro j hj; have h := ih (j + 1) (by omega)
  have hlen : ((List.range (j + 1)).map (stepN x b a)).length = j + 1 := by simp
  have z1 := stepN_size x b a hx hb ha j (by omega); have z2 := okRows_cat hb j (by omega); have z3 := okRows_cat ha j (by omega); have l1 := (hb.2 j (by omega)).1; have l2 := (ha.2 j (by omega)).1; have e1 : sha_Sum.f (stepN x b a j) = some (sumS (stepN x b a j)) := if_pos (by show _ ≤ 1099511627776; omega)
  have ew : IntKind.u64.wrap (IntKind.u64.wrap (j : Int) + 1) = ((j + 1 : Nat) : Int) := by rw [wrap_nat j (by omega), show ((j : Int) + 1) = ((j + 1 : Nat) : Int) from by omega, wrap_nat (j + 1) (by omega)]
  have e2 : codec_Number.f ((j + 1 : Nat) : Int) = some (numS (j + 1)) := by unfold codec_Number.f; rw [if_pos ⟨by omega, by omega⟩, Int.toNat_natCast]
  have e3 : strings_Join.f (b.getD j []) (⟨#[]⟩ : ByteArray) = some (catS (b.getD j [])) := if_pos ⟨by omega, by omega, rfl⟩; have e4 : strings_Join.f (a.getD j []) (⟨#[]⟩ : ByteArray) = some (catS (a.getD j [])) := if_pos ⟨by omega, by omega, rfl⟩; have zn : (numS (j + 1)).size = 8 := numS_size _; have z0 : (⟨#[2]⟩ : ByteArray).size = 1 := rfl; have zs : (sumS (stepN x b a j)).size = 32 := sumS_size _; refine Ev.step (fun k => ?_) h; have hbl := hb.1; have hal := ha.1
  rw [proof_Steps.l0, if_pos (by omega), if_pos (by omega), if_pos (by rw [hlen]; omega), steps_rd x b a j (j + 1) (by omega), e1, qv, ew, e2, qv, if_pos (by omega), if_pos (by omega), rd_rows, e3, qv,
   if_pos (by rw [ByteArray.size_append]; omega), if_pos (by rw [ByteArray.size_append, ByteArray.size_append]; omega), if_pos (by omega), rd_rows, e4, qv, if_pos (by rw [ByteArray.size_append, ByteArray.size_append, ByteArray.size_append]; omega), if_pos (by rw [hlen]; omega), step_text, range_next]
  rw [show wrap64 ((j : Int) + 1) = ((j + 1 : Nat) : Int) from SkipPure.w_succ j 8 (by omega) (by omega)]
theorem join_two (x : S46) (h0 : 0 ≤ x.f0) (h1 : x.f0 < 18446744073709551616) (hs : x.f1.size ≤ 4096) : codec_Join.f [(⟨false, x.f0, ⟨#[]⟩⟩ : S115), ⟨true, 0, x.f1⟩] = some (numS x.f0.toNat ++ textS x.f1, 0) := by
 have hk : okB [(⟨false, x.f0, ⟨#[]⟩⟩ : S115), ⟨true, 0, x.f1⟩] = true := by
  unfold okB; simp only [List.all_cons, List.all_nil, Bool.and_true, Bool.and_eq_true, decide_eq_true_eq]; exact ⟨⟨⟨by decide, h0⟩, h1⟩, ⟨hs, by decide⟩, by decide⟩
 have e2 : catS [numS x.f0.toNat, textS x.f1] = numS x.f0.toNat ++ textS x.f1 := by
  show numS x.f0.toNat ++ catS [textS x.f1] = _
  rw [cat_one]
 unfold codec_Join.f; rw [if_pos ⟨show 2 ≤ 1000000 by decide, hk⟩, ← e2]; rfl
theorem may_ok {v : ByteArray} {b a : Rows} (h : mayN v b a = 0) : v.size ≤ 64 ∧ okRows b ∧ okRows a := by
 unfold mayN at h
 split at h
 ·cases h
 ·rename_i g
  split at h
  ·cases h
  ·rename_i g2
   have hb : b.length = 8 := Decidable.byContradiction fun c => g2 (.inl c)
   have ha : a.length = 8 := Decidable.byContradiction fun c => g2 (.inr (.inl c))
   have ob : oddRs b = false := by
    cases h : oddRs b
    (rfl)
    ·exact absurd (.inr (.inr (.inl h))) g2
   have oa : oddRs a = false := by
    cases h : oddRs a
    (rfl)
    ·exact absurd (.inr (.inr (.inr h))) g2
   exact ⟨by omega, okRows_of hb ob, okRows_of ha oa⟩
def stepsR (x : S46) (b a : Rows) : List ByteArray × Int := if mayN x.f1 b a = 0 then (stepsL x b a, 0) else ([], mayN x.f1 b a)
theorem steps_ev (x : S46) (b a : Rows) (h0 : 0 ≤ x.f0) (h1 : x.f0 < 18446744073709551616) (hb : b.length ≤ 1000000) (ha : a.length ≤ 1000000) : Ev (fun k => proof_Steps.f k x.f0 x.f1 b a) (stepsR x b a) := by
 have e1 : proof_may.f x.f0 x.f1 b a = some (mayN x.f1 b a) := if_pos ⟨hb, ha⟩; unfold proof_Steps.f stepsR; simp only [e1, qv]
 by_cases g : mayN x.f1 b a = 0
 rotate_left
 ·rw [if_neg g]; simp only [if_neg g]; exact Ev.now _
 rw [if_pos g]; simp only [if_pos g]; obtain ⟨q1, q2, q3⟩ := may_ok g; have e2 := join_two x h0 h1 (by omega)
 have e3 : (⟨#[0]⟩ : ByteArray) ++ (numS x.f0.toNat ++ textS x.f1) = itemT x := by
  unfold itemT; rw [ByteArray.append_assoc]; rfl
 have zt : (numS x.f0.toNat ++ textS x.f1).size ≤ 100 := by rw [ByteArray.size_append, numS_size, textS_size]; omega
 refine Ev.congr (fun k => ?_) (steps_l0 x b a q1 q2 q3 8 0 rfl); rw [e2, qv]
 show (if 1 + (numS x.f0.toNat ++ textS x.f1).size ≤ _ then _ else _) = _
 rw [if_pos (by omega), e3]; rfl
theorem check_ev (rt : ByteArray) (x : S46) (b a : Rows) (h0 : 0 ≤ x.f0) (h1 : x.f0 < 18446744073709551616) (hb : b.length ≤ 1000000) (ha : a.length ≤ 1000000) :
  Ev (fun k => proof_Check.f k rt x.f0 x.f1 b a) (if mayN x.f1 b a = 0 then ((sumS (stepN x b a 8)).toList == rt.toList, 0) else (false, mayN x.f1 b a)) := by
 unfold proof_Check.f; refine Ev.bind (steps_ev x b a h0 h1 hb ha) ?_; unfold stepsR
 by_cases g : mayN x.f1 b a = 0
 ·obtain ⟨q1, q2, q3⟩ := may_ok g
  have hl : (stepsL x b a).length = 9 := by unfold stepsL; simp
  have z1 := stepN_size x b a q1 q2 q3 8 (by omega); have e1 : sha_Sum.f (stepN x b a 8) = some (sumS (stepN x b a 8)) := if_pos (by show _ ≤ 1099511627776; omega)
  have ew : wrap64 (((stepsL x b a).length : Int) - 1) = ((8 : Nat) : Int) := by rw [hl]; first | rfl | (unfold wrap64; rfl) | (unfold wrap64; omega) | (unfold wrap64; simp)
  have er := steps_rd x b a 8 9 (by omega); rw [if_pos g, if_pos g]; refine Ev.congr (fun k => ?_) (Ev.now _)
  show (if (0 : Int) = 0 then _ else _) = _
  rw [if_pos rfl]
  show (if 0 ≤ wrap64 (((stepsL x b a).length : Int) - 1) then _ else _) = _
  rw [ew, hl, if_pos (by decide), if_pos (by decide)]
  show (sha_Sum.f (rdOf ByteArray.empty (stepsL x b a) ((8 : Nat) : Int))).bind _ = _
  unfold stepsL; rw [er, e1]; rfl
 ·rw [if_neg g, if_neg g]; refine Ev.congr (fun k => ?_) (Ev.now _); rw [if_neg g]
end Go.Proofs.YtolbhliepkcihaaDoor.ProofPure
end
section
namespace Go.Proofs.YtolbhliepkcihaaDoor.ProofPure
open Go.RowKit YtolbhliepkcihaaDoorW.PrintWords Kinds Build Lab Sha Mac Codec Tower SkipOps SkipPure
theorem app_inj {a b c d : ByteArray} (hs : a.size = c.size) (h : a ++ b = c ++ d) : a = c ∧ b = d := by
 have h1 : a.data.toList ++ b.data.toList = c.data.toList ++ d.data.toList := by
  have := congrArg (fun z : ByteArray => z.data.toList) h
  simpa [ByteArray.data_append] using this
 have hs' : a.data.toList.length = c.data.toList.length := by
  rw [Array.length_toList, Array.length_toList]; exact hs
 obtain ⟨q1, q2⟩ := List.append_inj h1 hs'; exact ⟨ByteArray.ext (Array.toList_inj.1 q1), ByteArray.ext (Array.toList_inj.1 q2)⟩
theorem ofNats_inj : ∀ a b : List Nat, (∀ x, x ∈ a → x < 256) → (∀ x, x ∈ b → x < 256) → a.map UInt8.ofNat = b.map UInt8.ofNat → a = b
 | [], [], _, _, _ => rfl
 | [], _ :: _, _, _, h => by cases h
 | _ :: _, [], _, _, h => by cases h
 | x :: a, y :: b, ha, hb, h => by
  rw [List.map_cons, List.map_cons] at h
  injection h with h1 h2
  have e := congrArg UInt8.toNat h1; have hx := ha x List.mem_cons_self; have hy := hb y List.mem_cons_self
  have e1 : (UInt8.ofNat x).toNat = x := by simp; omega
  have e2 : (UInt8.ofNat y).toNat = y := by simp; omega
  rw [e1, e2] at e; rw [e, ofNats_inj a b (fun z hz => ha z (List.mem_cons_of_mem _ hz)) (fun z hz => hb z (List.mem_cons_of_mem _ hz)) h2]
theorem lowL_lt (n many x : Nat) (h : x ∈ lowL n many) : x < 256 := by
 unfold lowL at h; obtain ⟨i, _, rfl⟩ := List.mem_map.1 h
 omega
theorem lowS_inj {n m many : Nat} (h : lowS n many = lowS m many) : lowL n many = lowL m many := by
 unfold lowS ofNats at h
 injection h with h
 exact ofNats_inj _ _ (lowL_lt n many) (lowL_lt m many) (by simpa using h)
theorem numS_inj {n m : Nat} (hn : n < 18446744073709551616) (hm : m < 18446744073709551616) (h : numS n = numS m) : n = m := by
 have e := lowS_inj h
 have g : ∀ i, i < 8 → n / 256 ^ i % 256 = m / 256 ^ i % 256 := fun i hi => by
  have e2 := congrArg (fun l => l[i]?) e; unfold lowL at e2; simp only [List.getElem?_map, List.getElem?_range hi] at e2; exact Option.some.inj e2
 have g0 := g 0 (by decide); have g1 := g 1 (by decide); have g2 := g 2 (by decide); have g3 := g 3 (by decide); have g4 := g 4 (by decide); have g5 := g 5 (by decide); have g6 := g 6 (by decide); have g7 := g 7 (by decide); simp only [Nat.reducePow] at g0 g1 g2 g3 g4 g5 g6 g7
 omega
theorem cat_inj : ∀ a b : List ByteArray, (∀ s, s ∈ a → s.size = 32) → (∀ s, s ∈ b → s.size = 32) → catS a = catS b → a = b
 | [], [], _, _, _ => rfl
 | [], y :: b, _, hb, h => by
  have e := congrArg ByteArray.size h; rw [cat32 _ hb, List.length_cons] at e; have e0 : (catS []).size = 0 := rfl
  omega
 | x :: a, [], ha, _, h => by
  have e := congrArg ByteArray.size h; rw [cat32 _ ha, List.length_cons] at e; have e0 : (catS []).size = 0 := rfl
  omega
 | x :: a, y :: b, ha, hb, h => by
  have h' : x ++ catS a = y ++ catS b := h; obtain ⟨q1, q2⟩ := app_inj (by rw [ha x List.mem_cons_self, hb y List.mem_cons_self]) h'; rw [q1, cat_inj a b (fun z hz => ha z (List.mem_cons_of_mem _ hz)) (fun z hz => hb z (List.mem_cons_of_mem _ hz)) q2]
theorem joinT_inj {lv : Nat} {a b : List ByteArray} (ha : ∀ s, s ∈ a → s.size = 32) (hb : ∀ s, s ∈ b → s.size = 32) (h : joinT lv a = joinT lv b) : a = b :=
 cat_inj a b ha hb (app_inj rfl h).2
theorem textS_inj {a b : ByteArray} (h : textS a = textS b) : a = b := (app_inj (by rw [lowS_size, lowS_size]) h).2
theorem itemT_inj {x y : S46} (hx0 : 0 ≤ x.f0) (hx1 : x.f0 < 18446744073709551616) (hy0 : 0 ≤ y.f0) (hy1 : y.f0 < 18446744073709551616) (h : itemT x = itemT y) : x = y := by
 unfold itemT at h; obtain ⟨h1, h2⟩ := app_inj (by rw [ByteArray.size_append, ByteArray.size_append, numS_size, numS_size]) h; have h3 := numS_inj (by omega) (by omega) (app_inj rfl h1).2; have h4 := textS_inj h2; cases x; cases y; simp only at h3 h4 hx0 hx1 hy0 hy1; subst h4
 congr 1
 omega
def textN : Nat → List E → ByteArray
 | _, [] => ⟨#[]⟩
 | 0, y :: _ => y.t
 | lv + 1, y :: r => joinT (lv + 1) (fromL lv (y :: r))
theorem lab_text (lv : Nat) (y : E) (r : List E) : lab lv (y :: r) = sumS (textN lv (y :: r)) := by cases lv <;> rfl
def lvG (y : E) (r : List E) : Nat → Nat → List ByteArray
 | 0, _ => []
 | d + 1, lv => if lv + 1 < y.h then joinT (lv + 1) (fromL lv (y :: r)) :: lvG y r d (lv + 1) else lvG y r d (lv + 1)
def lvT (y : E) (r : List E) : List ByteArray := lvG y r 8 0
theorem lvG_mem (y : E) (r : List E) : ∀ d lv m, lv ≤ m → m < lv + d → m + 1 < y.h → joinT (m + 1) (fromL m (y :: r)) ∈ lvG y r d lv
 | 0, lv, m, h1, h2, _ => by omega
 | d + 1, lv, m, h1, h2, h3 => by
  rw [lvG]
  by_cases e : lv = m
  ·subst e; rw [if_pos h3]; exact List.mem_cons_self
  ·have ih := lvG_mem y r d (lv + 1) m (by omega) (by omega) h3
   split
   ·exact List.mem_cons_of_mem _ ih
   ·exact ih
def allT : List E → List ByteArray
 | [] => []
 | y :: r => (y.t :: lvT y r) ++ allT r
theorem text_mem (lv : Nat) (hlv : lv ≤ 8) (y : E) (r : List E) (h : lv < y.h) : ∀ p : List E, textN lv (y :: r) ∈ allT (p ++ y :: r)
 | [] => by
  show _ ∈ (y.t :: lvT y r) ++ allT r
  refine List.mem_append_left _ ?_
  cases lv with
  | zero => exact List.mem_cons_self
  | succ lv => exact List.mem_cons_of_mem _ (lvG_mem y r 8 0 lv (by omega) (by omega) h)
 | z :: p => List.mem_append_right _ (text_mem lv hlv y r h p)
theorem more_mem (lv : Nat) : ∀ (r : List E) (z : ByteArray), z ∈ more (lab lv) lv r → ∃ p y s, r = p ++ y :: s ∧ lv < y.h ∧ z = lab lv (y :: s)
 | [], z, h => by cases h
 | y :: r, z, h => by
  rw [more] at h
  split at h
  ·cases h
  ·split at h
   ·rename_i c
    rcases List.mem_cons.1 h with rfl | h
    ·exact ⟨[], y, r, rfl, c, rfl⟩
    ·obtain ⟨p, u, s, rfl, q1, q2⟩ := more_mem lv r z h; exact ⟨y :: p, u, s, rfl, q1, q2⟩
   ·obtain ⟨p, u, s, rfl, q1, q2⟩ := more_mem lv r z h; exact ⟨y :: p, u, s, rfl, q1, q2⟩
theorem from_mem (lv : Nat) (y : E) (r : List E) (hy : lv < y.h) (z : ByteArray) (h : z ∈ fromL lv (y :: r)) : ∃ p u s, y :: r = p ++ u :: s ∧ lv < u.h ∧ z = lab lv (u :: s) := by
 rcases List.mem_cons.1 h with rfl | h
 ·exact ⟨[], y, r, rfl, hy, rfl⟩
 ·obtain ⟨p, u, s, e, q1, q2⟩ := more_mem lv r z h; exact ⟨y :: p, u, s, by rw [e]; rfl, q1, q2⟩
def collB (ss ts : List ByteArray) : Bool := ss.any fun s => ts.any fun t => !(s.toList == t.toList) && ((sumS s).toList == (sumS t).toList)
theorem coll_none {ss ts : List ByteArray} (h : collB ss ts = false) : ∀ s, s ∈ ss → ∀ t, t ∈ ts → sumS s = sumS t → s = t := by
 intro s hs t ht e
 refine Decidable.byContradiction fun hne => ?_
 unfold collB at h; have h1 := List.any_eq_false.1 h s hs; refine h1 (List.any_eq_true.2 ⟨t, ht, ?_⟩)
 have hne2 : ¬ s.toList = t.toList := fun q => hne (toList_inj q)
 rw [e, beq_self_eq_true, Bool.and_true, beq_eq_false_iff_ne.2 hne2]; rfl
theorem steps_mem (x : S46) (b a : Rows) (j : Nat) (hj : j ≤ 8) : stepN x b a j ∈ stepsL x b a := List.mem_map.2 ⟨j, List.mem_range.2 (by omega), rfl⟩
theorem bind_at (x : S46) (b a : Rows) (hb : okRows b) (ha : okRows a) (r0 : List E) (hno : ∀ s, s ∈ stepsL x b a → ∀ t, t ∈ allT (head :: r0) → sumS s = sumS t → s = t)
  (hroot : sumS (stepN x b a 8) = lab 8 (head :: r0)) (d : Nat) : ∀ j, j + d = 8 → ∃ p y s, head :: r0 = p ++ y :: s ∧ j < y.h ∧ stepN x b a j = textN j (y :: s) := by
 induction d with
 | zero =>
  intro j hj
  obtain rfl : j = 8 := by omega
  refine ⟨[], head, r0, rfl, by decide, ?_⟩; exact hno _ (steps_mem x b a 8 (by omega)) _ (text_mem 8 (by omega) head r0 (by decide) []) (by rw [hroot, lab_text])
 | succ d ih =>
  intro j hj; obtain ⟨p, y, s, e, hy, ht⟩ := ih (j + 1) (by omega); have ht2 : joinT (j + 1) (b.getD j [] ++ [sumS (stepN x b a j)] ++ a.getD j []) = joinT (j + 1) (fromL j (y :: s)) := ht; have h1 := (hb.2 j (by omega)).2; have h2 := (ha.2 j (by omega)).2
  have hl := joinT_inj (fun q hq => by
   rcases List.mem_append.1 hq with hq | hq
   ·rcases List.mem_append.1 hq with hq | hq
    ·exact h1 q hq
    ·rw [List.mem_singleton.1 hq]; exact sumS_size _
   ·exact h2 q hq) (from32 j y s).1 ht2
  have hm : sumS (stepN x b a j) ∈ fromL j (y :: s) := by
   rw [← hl]; exact List.mem_append_left _ (List.mem_append_right _ (List.mem_singleton.2 rfl))
  obtain ⟨p2, u, s2, e2, hu, hz⟩ := from_mem j y s (by omega) _ hm; refine ⟨p ++ p2, u, s2, by rw [e, e2, List.append_assoc], hu, ?_⟩; refine hno _ (steps_mem x b a j (by omega)) _ ?_ (by rw [hz, lab_text]); rw [e, e2, ← List.append_assoc]; exact text_mem j (by omega) u s2 hu (p ++ p2)
theorem binds (key : ByteArray) (l : List S46) (x : S46) (b a : Rows) (hok : ∀ y, y ∈ l → 0 ≤ y.f0 ∧ y.f0 < 18446744073709551616) (hx0 : 0 ≤ x.f0) (hx1 : x.f0 < 18446744073709551616) (hb : okRows b) (ha : okRows a)
  (hroot : sumS (stepN x b a 8) = rootL key l) (hc : collB (stepsL x b a) (allT (ents key l)) = false) : x ∈ l := by
 obtain ⟨p, y, s, e, _, ht⟩ := bind_at x b a hb ha (l.map (ent key)) (coll_none hc) hroot 8 0 rfl; have ht2 : itemT x = y.t := ht
 have hm : y ∈ head :: l.map (ent key) := by rw [e]; exact List.mem_append_right _ List.mem_cons_self
 rcases List.mem_cons.1 hm with rfl | hm
 ·have hz := congrArg ByteArray.size ht2; rw [itemT_size] at hz; have : (head.t).size = 1 := rfl
  omega
 ·obtain ⟨z, hz, rfl⟩ := List.mem_map.1 hm; have hz2 := hok z hz; have : x = z := itemT_inj hx0 hx1 hz2.1 hz2.2 ht2; rw [this]; exact hz
end Go.Proofs.YtolbhliepkcihaaDoor.ProofPure
end
section
namespace Go.Proofs.YtolbhliepkcihaaDoor.ProofPure
open Go.RowKit QPA YtolbhliepkcihaaDoorW.PrintWords Kinds Build Lab Sha Mac Codec Tower SkipOps SkipPure
def rowsB (b : Rows) : Bool := !oddRs b && decide (b.length = 8)
theorem pitem_f (x : S46) (h0 : 0 ≤ x.f0) (h1 : x.f0 < 18446744073709551616) (hs : x.f1.size ≤ 4096) : saltusref17_Item.f x.f0 x.f1 = some (itemT x) := if_pos (by unfold leafB; rw [qj h0, qj h1, qj hs]; rfl)
def cut40 (s : ByteArray) : ByteArray := s.extract 0 (min s.size 40)
def cutRow (r : List ByteArray) : List ByteArray := (r.take (min r.length 66)).map cut40
def cutR (l : Rows) : Rows := (l.take (min l.length 9)).map cutRow
theorem cut_l1 (y : Rows) (acc : Rows) (i : Nat) (x : List ByteArray) (hx : x.length ≤ 66) (hacc : acc.length ≤ 100) (R : Rows)
  (hk : Ev (fun k => saltuslaw18_cut.l0 k (acc ++ [x.map cut40]) y (y.length : Int) (wrap64 ((i : Int) + 1))) R) (d : Nat) : ∀ j o, j + d = x.length → o = (x.take j).map cut40 →
  Ev (fun k => saltuslaw18_cut.l1 k acc o y (y.length : Int) (i : Int) x (x.length : Int) (j : Int)) R := by
 induction d with
 | zero =>
  intro j o hj ho; rw [List.take_of_length_le (by omega)] at ho; subst ho; refine Ev.step (fun k => ?_) hk; rw [saltuslaw18_cut.l1, if_neg (by omega), if_pos (by omega)]
 | succ d ih =>
  intro j o hj ho
  have hlt : j < x.length := by omega
  have hrd : rdOf ByteArray.empty x (j : Int) = x[j] := by
   unfold rdOf; rw [Int.toNat_natCast, List.getD_eq_getElem?_getD, List.getElem?_eq_getElem hlt]; rfl
  have e40 := mn_nat x[j].size 40; rw [show ((40 : Nat) : Int) = 40 from rfl] at e40; have hmin : min x[j].size 40 ≤ x[j].size := Nat.min_le_left _ _
  have hol : o.length = j := by rw [ho, List.length_map, qw]; omega
  have h := ih (j + 1) (o ++ [cut40 x[j]]) (by omega) (by rw [ho, List.take_succ_eq_append_getElem hlt, List.map_append]; rfl); refine Ev.step (fun k => ?_) h; rw [saltuslaw18_cut.l1, if_pos (by omega), if_pos (by omega), if_pos (by omega), hrd, e40, if_pos (by omega), if_pos (by omega), if_pos (by omega), Int.toNat_natCast, SkipPure.w_succ j x.length (by omega) (by omega)]; rfl
theorem cut_l0 (y : Rows) (hy : y.length ≤ 9) (d : Nat) : ∀ i acc, i + d = y.length → acc = (y.take i).map cutRow → Ev (fun k => saltuslaw18_cut.l0 k acc y (y.length : Int) (i : Int)) (y.map cutRow) := by
 induction d with
 | zero =>
  intro i acc hi ho; rw [List.take_of_length_le (by omega)] at ho; subst ho; refine Ev.step (fun k => ?_) (Ev.now _); rw [saltuslaw18_cut.l0, if_neg (by omega)]
 | succ d ih =>
  intro i acc hi ho
  have hlt : i < y.length := by omega
  have er : rd_L1 y (i : Int) = y[i] := by
   unfold rd_L1; rw [Int.toNat_natCast, List.getD_eq_getElem?_getD, List.getElem?_eq_getElem hlt]; rfl
  have e66 := mn_nat y[i].length 66; rw [show ((66 : Nat) : Int) = 66 from rfl] at e66; have hmin : min y[i].length 66 ≤ y[i].length := Nat.min_le_left _ _
  have hal : acc.length = i := by rw [ho, List.length_map, qw]; omega
  have h := ih (i + 1) (acc ++ [cutRow y[i]]) (by omega) (by rw [ho, List.take_succ_eq_append_getElem hlt, List.map_append]; rfl); have hw : wrap64 ((i : Int) + 1) = ((i + 1 : Nat) : Int) := SkipPure.w_succ i y.length (by omega) (by omega); rw [← hw] at h; have h1 := cut_l1 y acc i (y[i].take (min y[i].length 66)) (by rw [qw]; omega) (by omega) _ h (y[i].take (min y[i].length 66)).length 0 [] (by omega) rfl; refine Ev.step (fun k => ?_) h1; rw [saltuslaw18_cut.l0, if_pos (by omega), if_pos (by omega), if_pos (by omega), er, e66, if_pos (by omega), if_pos (by omega), Int.toNat_natCast]; rfl
theorem cut_ev (l : Rows) : Ev (fun k => saltuslaw18_cut.f k l) (cutR l) := by
 have e9 := mn_nat l.length 9; rw [show ((9 : Nat) : Int) = 9 from rfl] at e9; have h := cut_l0 (l.take (min l.length 9)) (by rw [qw]; omega) (l.take (min l.length 9)).length 0 [] (by omega) rfl; have h2 : min l.length 9 ≤ l.length := Nat.min_le_left _ _; refine Ev.congr (fun k => ?_) h; unfold saltuslaw18_cut.f; rw [e9, if_pos (by omega), if_pos (by omega), Int.toNat_natCast, qv]; rfl
theorem few_ev (b a : Rows) : Ev (fun k => saltuslaw18_few.f k b a) (cutR b, cutR a) := by
 unfold saltuslaw18_few.f; exact Ev.bind (cut_ev b) (Ev.bind (cut_ev a) (Ev.now _))
theorem cutR_len (l : Rows) : (cutR l).length ≤ 9 := by unfold cutR; rw [List.length_map, qw]; omega
end Go.Proofs.YtolbhliepkcihaaDoor.ProofPure
end
section
namespace Go.Proofs.YtolbhliepkcihaaDoor
open Go.RowKit YtolbhliepkcihaaDoorW.PrintWords Kinds Build Lab Sha Mac Codec Tower SkipOps SkipPure ProofPure
def domP (a0 : Int) (b a : ProofPure.Rows) : Bool := decide (0 ≤ a0) && decide (a0 < 18446744073709551616) && decide (b.length ≤ 1000) && decide (a.length ≤ 1000)
theorem domP_of {a0 : Int} {b a : ProofPure.Rows} (h : domP a0 b a = true) : 0 ≤ a0 ∧ a0 < 18446744073709551616 ∧ b.length ≤ 1000 ∧ a.length ≤ 1000 := by
 unfold domP at h; simp only [Bool.and_eq_true, decide_eq_true_eq] at h; exact ⟨h.1.1.1, h.1.1.2, h.1.2, h.2⟩
def proof_Steps.f (a0_0 : Int) (a0_1 : ByteArray) (l1_0 l1_1 : ProofPure.Rows) : Option (List ByteArray × Int) := if domP a0_0 l1_0 l1_1 = true then some (stepsR ⟨a0_0, a0_1⟩ l1_0 l1_1) else none
theorem proof_Steps.calls (a0_0 : Int) (a0_1 : ByteArray) (A1_0 : Option Addr) (c1_0 : Nat) (l1_0 : List (List ByteArray)) (A1_1 : Option Addr) (c1_1 : Nat) (l1_1 : List (List ByteArray)) (r1 : List ByteArray) (r2 : Int) (w : World) (hr1_0 : Kd.C (Kd.slice 9 Kd.string) w A1_0 l1_0.length l1_0) (hc1_0 : l1_0.length ≤ c1_0) (hr1_1 : Kd.C (Kd.slice 9 Kd.string) w A1_1 l1_1.length l1_1) (hc1_1 : l1_1.length ≤ c1_1) (h : proof_Steps.f a0_0 a0_1 l1_0 l1_1 = some (r1, r2)) :
  Calls Tryd.prog 53 #[.agg #[.int .u64 a0_0, .string a0_1], .agg #[.slice A1_0 l1_0.length c1_0, .slice A1_1 l1_1.length c1_1]] w fun e w' => ∃ v0_ : Value, e = .returned (.tuple #[v0_, .int .i64 r2]) ∧ Kd.R Kd.string 9 w' w.heap.size (fun _ => True) v0_ r1 ∧ Below w.heap.size w w' := by
 unfold proof_Steps.f at h
 split at h
 ·rename_i hd; obtain ⟨h1, h2, h3, h4⟩ := domP_of hd; obtain ⟨k, hk⟩ := (steps_ev ⟨a0_0, a0_1⟩ l1_0 l1_1 h1 h2 (by omega) (by omega)).rounds; exact QPA.proof_Steps.calls k a0_0 a0_1 A1_0 c1_0 l1_0 A1_1 c1_1 l1_1 r1 r2 w hr1_0 hc1_0 hr1_1 hc1_1 (hk.trans h)
 ·cases h
def proof_Check.f (a0 : ByteArray) (a1_0 : Int) (a1_1 : ByteArray) (l2_0 l2_1 : ProofPure.Rows) : Option (Bool × Int) := if domP a1_0 l2_0 l2_1 = true then some (if mayN a1_1 l2_0 l2_1 = 0 then ((sumS (stepN ⟨a1_0, a1_1⟩ l2_0 l2_1 8)).toList == a0.toList, 0) else (false, mayN a1_1 l2_0 l2_1)) else none
theorem proof_Check.calls (a0 : ByteArray) (a1_0 : Int) (a1_1 : ByteArray) (A2_0 : Option Addr) (c2_0 : Nat) (l2_0 : List (List ByteArray)) (A2_1 : Option Addr) (c2_1 : Nat) (l2_1 : List (List ByteArray)) (r1 : Bool) (r2 : Int) (w : World) (hr2_0 : Kd.C (Kd.slice 9 Kd.string) w A2_0 l2_0.length l2_0) (hc2_0 : l2_0.length ≤ c2_0) (hr2_1 : Kd.C (Kd.slice 9 Kd.string) w A2_1 l2_1.length l2_1) (hc2_1 : l2_1.length ≤ c2_1) (h : proof_Check.f a0 a1_0 a1_1 l2_0 l2_1 = some (r1, r2)) :
  Calls Tryd.prog 54 #[.string a0, .agg #[.int .u64 a1_0, .string a1_1], .agg #[.slice A2_0 l2_0.length c2_0, .slice A2_1 l2_1.length c2_1]] w fun e w' => e = .returned (.tuple #[.bool r1, .int .i64 r2]) ∧ Below w.heap.size w w' := by
 unfold proof_Check.f at h
 split at h
 ·rename_i hd; obtain ⟨h1, h2, h3, h4⟩ := domP_of hd; obtain ⟨k, hk⟩ := (check_ev a0 ⟨a1_0, a1_1⟩ l2_0 l2_1 h1 h2 (by omega) (by omega)).rounds; exact QPA.proof_Check.calls k a0 a1_0 a1_1 A2_0 c2_0 l2_0 A2_1 c2_1 l2_1 r1 r2 w hr2_0 hc2_0 hr2_1 hc2_1 (hk.trans h)
 ·cases h
def saltuslaw18_few.f (l0_0 l0_1 : ProofPure.Rows) : Option (ProofPure.Rows × ProofPure.Rows) := some (cutR l0_0, cutR l0_1)
theorem saltuslaw18_few.calls (A0_0 : Option Addr) (c0_0 : Nat) (l0_0 : List (List ByteArray)) (A0_1 : Option Addr) (c0_1 : Nat) (l0_1 : List (List ByteArray)) (r1 : List (List ByteArray)) (r2 : List (List ByteArray)) (w : World) (hr0_0 : Kd.C (Kd.slice 9 Kd.string) w A0_0 l0_0.length l0_0) (hc0_0 : l0_0.length ≤ c0_0) (hr0_1 : Kd.C (Kd.slice 9 Kd.string) w A0_1 l0_1.length l0_1) (hc0_1 : l0_1.length ≤ c0_1) (h : saltuslaw18_few.f l0_0 l0_1 = some (r1, r2)) :
  Calls Tryd.prog 52 #[.agg #[.slice A0_0 l0_0.length c0_0, .slice A0_1 l0_1.length c0_1]] w fun e w' => ∃ v0_ v1_ : Value, e = .returned (.agg #[v0_, v1_]) ∧ Kd.S (Kd.slice 9 Kd.string) 49 w' w.heap.size (fun k_ => some k_ ≠ (v1_ : Value).ownBlock) v0_ r1 ∧ Kd.S (Kd.slice 9 Kd.string) 49 w' w.heap.size (fun k_ => some k_ ≠ (v0_ : Value).ownBlock) v1_ r2 ∧ Below w.heap.size w w' := by
 obtain ⟨k, hk⟩ := (few_ev l0_0 l0_1).rounds; exact QPA.saltuslaw18_few.calls k A0_0 c0_0 l0_0 A0_1 c0_1 l0_1 r1 r2 w hr0_0 hc0_0 hr0_1 hc0_1 (hk.trans h)
end Go.Proofs.YtolbhliepkcihaaDoor
end
section
namespace Go.Proofs.YtolbhliepkcihaaDoor.ProofPure
open Go.RowKit QPA YtolbhliepkcihaaDoorW.PrintWords Kinds Build Lab Sha Mac Codec Tower SkipOps SkipPure
theorem es_at (key : ByteArray) (l : List S46) (p : Nat) (hp : p ≤ l.length) : ∃ y, (ents key l).drop p = y :: (ents key l).drop (p + 1) ∧ (p = 0 → y = head) ∧ ∀ (i : Nat) (hi : i < l.length), p = i + 1 → y = ent key l[i] := by
 have hlen : (ents key l).length = l.length + 1 := by unfold ents; simp
 refine ⟨(ents key l)[p]'(by omega), List.drop_eq_getElem_cons (by omega), fun e => by subst e; rfl, fun i hi e => ?_⟩; subst e; unfold ents
 simp
theorem hts_rd (key : ByteArray) (l : List S46) (i : Nat) (hi : i < l.length) : rd (htsL key l) (i : Int) = ((heightN key l[i].f0.toNat : Nat) : Int) := by
 unfold rd htsL; rw [Int.toNat_natCast, List.getD_eq_getElem?_getD, List.getElem?_map, List.getElem?_eq_getElem hi]; rfl
theorem from_f (key : ByteArray) (l : List S46) (hn : l.length ≤ 1000) (hok : okL l) (p : Nat) (hp : p ≤ l.length) (lv : Nat) (hlv : lv < 8) (y : E) (r : List E) (e : (ents key l).drop p = y :: r) :
  saltusref17_From.f l (htsL key l) ((p : Int) - 1) (lv : Int) (wrap64 ((lv : Int) + 1)) = some (fromL lv (y :: r)) := by
 have ew : wrap64 ((lv : Int) + 1) = ((lv + 1 : Nat) : Int) := SkipPure.w_succ lv 8 hlv (by decide)
 have es : sufT l (htsL key l) ((p : Int) - 1) = y :: r := by
  rw [suf_at, show ((p : Int) - 1 + 1).toNat = p by omega, e]
 rw [ew]; unfold saltusref17_From.f; rw [if_pos ⟨okT_of key l hn hok, by omega, by omega, by omega, by omega, by omega⟩, es]; rfl
theorem text_f (lv : Nat) (hlv : lv < 8) (y : E) (r : List E) (hr : r.length ≤ 10000) : saltusref17_Text.f (wrap64 ((lv : Int) + 1)) (fromL lv (y :: r)) = some (joinT (lv + 1) (fromL lv (y :: r))) := by
 have ew : wrap64 ((lv : Int) + 1) = ((lv + 1 : Nat) : Int) := SkipPure.w_succ lv 8 hlv (by decide); obtain ⟨f1, f2⟩ := from32 lv y r; have e2 := cat32 _ f1; rw [ew]; unfold saltusref17_Text.f; rw [if_pos ⟨by omega, by omega, by omega, by omega⟩, Int.toNat_natCast]
theorem lvG_len (y : E) (r : List E) : ∀ d lv, (lvG y r d lv).length ≤ d
 | 0, _ => Nat.le_refl _
 | d + 1, lv => by
  have ih := lvG_len y r d (lv + 1); rw [lvG]
  split
  ·rw [List.length_cons]; omega
  ·omega
theorem all_l1 (key : ByteArray) (l : List S46) (hn : l.length ≤ 1000) (hok : okL l) (p : Nat) (hp : p ≤ l.length) (y : E) (r : List E) (e : (ents key l).drop p = y :: r) (h0 : p = 0 → y = head) (hy : ∀ (i : Nat) (hi : i < l.length), p = i + 1 → y = ent key l[i])
  (R : List ByteArray) (d : Nat) : ∀ lv acc, lv + d = 8 → acc.length + d ≤ 1000000 → (∀ acc2, acc2 = acc ++ lvG y r d lv → Ev (fun k => saltusref18_All.l0 k acc2 (wrap64 (((p : Int) - 1) + 1)) l (htsL key l)) R) →
  Ev (fun k => saltusref18_All.l1 k acc ((p : Int) - 1) (lv : Int) l (htsL key l)) R := by
 have hrl : r.length ≤ 10000 := by
  have := congrArg List.length e; rw [List.length_drop, List.length_cons] at this
  have h2 : (ents key l).length = l.length + 1 := by unfold ents; simp
  omega
 induction d with
 | zero =>
  intro lv acc hlv ha hk
  obtain rfl : lv = 8 := by omega
  have h := hk acc (by rw [lvG, List.append_nil]); refine Ev.step (fun k => ?_) h; rw [saltusref18_All.l1, if_neg (by decide)]
 | succ d ih =>
  intro lv acc hlv ha hk; have ew : wrap64 ((lv : Int) + 1) = ((lv + 1 : Nat) : Int) := SkipPure.w_succ lv 8 (by omega) (by decide); have ef := from_f key l hn hok p hp lv (by omega) y r e; have et := text_f lv (by omega) y r hrl
  have hj : ∀ c : Bool, c = decide (lv + 1 < y.h) → Ev (fun k => saltusref18_All.j3 k acc ((p : Int) - 1) (lv : Int) c l (htsL key l)) R := by
   intro c hc
   by_cases g : lv + 1 < y.h
   ·rw [qj g] at hc; subst hc; have h := ih (lv + 1) (acc ++ [joinT (lv + 1) (fromL lv (y :: r))]) (by omega) (by simp; omega) (fun acc2 h2 => hk acc2 (by rw [h2, lvG, if_pos g, List.append_assoc]; rfl)); refine Ev.step (fun k => ?_) h; rw [saltusref18_All.j3, if_pos rfl, ef, qv, et, qv, if_pos (by omega), ew]
   ·rw [decide_eq_false g] at hc; subst hc; have h := ih (lv + 1) acc (by omega) (by omega) (fun acc2 h2 => hk acc2 (by rw [h2, lvG, if_neg g])); refine Ev.step (fun k => ?_) h; rw [saltusref18_All.j3, if_neg (by decide), ew]
  by_cases hp0 : p = 0
  ·have h := hj true (by rw [h0 hp0]; exact (qj (show lv + 1 < 9 by omega)).symm); refine Ev.step (fun k => ?_) h; rw [saltusref18_All.l1, if_pos (by omega), if_pos (by omega)]
  ·obtain ⟨i, rfl⟩ : ∃ i, p = i + 1 := ⟨p - 1, by omega⟩
   have hi : i < l.length := by omega
   have eh := hy i hi rfl
   have hlh : (htsL key l).length = l.length := by unfold htsL; simp
   have e1 : ((i + 1 : Nat) : Int) - 1 = (i : Int) := by omega
   have h := hj (decide ((rd (htsL key l) (((i + 1 : Nat) : Int) - 1)) > (wrap64 ((lv : Int) + 1)))) (by
    rw [e1, hts_rd key l i hi, ew, eh]
    show decide (_ > _) = decide (lv + 1 < heightN key l[i].f0.toNat)
    exact decide_eq_decide.2 (by omega))
   refine Ev.step (fun k => ?_) h; rw [saltusref18_All.l1, if_pos (by omega), if_neg (by omega), if_pos (by omega), if_pos (by omega)]
theorem all_l0 (key : ByteArray) (l : List S46) (hn : l.length ≤ 1000) (hok : okL l) (d : Nat) : ∀ p acc, p + d = l.length + 1 → acc.length + 10 * d ≤ 100000 →
  Ev (fun k => saltusref18_All.l0 k acc ((p : Int) - 1) l (htsL key l)) (acc ++ (if p = 0 then (allT (ents key l)).tail else allT ((ents key l).drop p))) := by
 induction d with
 | zero =>
  intro p acc hp ha
  have hlen : (ents key l).length = l.length + 1 := by unfold ents; simp
  rw [if_neg (by omega), List.drop_eq_nil_of_le (by omega)]; refine Ev.step (fun k => ?_) (Ev.now _); rw [saltusref18_All.l0, if_neg (by omega)]
  show some acc = some (acc ++ [])
  rw [List.append_nil]
 | succ d ih =>
  intro p acc hp ha; obtain ⟨y, e, h0, hy⟩ := es_at key l p (by omega)
  have ew : wrap64 (((p : Int) - 1) + 1) = ((p + 1 : Nat) : Int) - 1 := by unfold wrap64; omega
  have hR := fun acc2 (hl : acc2.length + 10 * d ≤ 100000) => ih (p + 1) acc2 (by omega) hl
  simp only [if_neg (show ¬p + 1 = 0 by omega)] at hR; have hlv := lvG_len y ((ents key l).drop (p + 1)) 8 0
  by_cases hp0 : p = 0
  ·have h1 := all_l1 key l hn hok p (by omega) y _ e h0 hy (acc ++ (allT (ents key l)).tail) 8 0 acc rfl (by omega) (fun acc2 h2 => by
    have h3 := hR acc2 (by rw [h2, List.length_append]; omega); rw [ew]
    have e2 : acc2 ++ allT ((ents key l).drop (p + 1)) = acc ++ (allT (ents key l)).tail := by
     rw [h2, List.append_assoc]
     congr 1
     subst hp0; rw [List.drop_zero] at e
     conv => rhs; rw [e]
     rfl
    rw [← e2]
    exact h3)
   rw [if_pos hp0]; refine Ev.step (fun k => ?_) (Ev.step (fun k => ?_) h1 : Ev (fun k => saltusref18_All.j1 k acc ((p : Int) - 1) l (htsL key l)) _)
   ·rw [saltusref18_All.l0, if_pos (by omega), if_neg (by omega)]
   ·rw [saltusref18_All.j1]; rfl
  ·obtain ⟨i, rfl⟩ : ∃ i, p = i + 1 := ⟨p - 1, by omega⟩
   have hi : i < l.length := by omega
   have eh := hy i hi rfl
   have e1 : ((i + 1 : Nat) : Int) - 1 = (i : Int) := by omega
   obtain ⟨q1, q2, q3⟩ := hok _ (List.getElem_mem hi)
   have eI : saltusref17_Item.f (rd_T46 l (((i + 1 : Nat) : Int) - 1)).f0 (rd_T46 l (((i + 1 : Nat) : Int) - 1)).f1 = some y.t := by
    rw [e1, rd_it l i hi, pitem_f l[i] q2 q3 q1, eh]; rfl
   have h1 := all_l1 key l hn hok (i + 1) (by omega) y _ e h0 hy (acc ++ allT ((ents key l).drop (i + 1))) 8 0 (acc ++ [y.t]) rfl (by simp; omega) (fun acc2 h2 => by
    have h3 := hR acc2 (by rw [h2, List.length_append, List.length_append, List.length_singleton]; omega); rw [ew]
    have e2 : acc2 ++ allT ((ents key l).drop (i + 1 + 1)) = acc ++ allT ((ents key l).drop (i + 1)) := by
     rw [h2, e, List.append_assoc, List.append_assoc]; rfl
    rw [← e2]
    exact h3)
   rw [if_neg hp0]; refine Ev.step (fun k => ?_) (Ev.step (fun k => ?_) h1 : Ev (fun k => saltusref18_All.j1 k (acc ++ [y.t]) (((i + 1 : Nat) : Int) - 1) l (htsL key l)) _)
   ·rw [saltusref18_All.l0, if_pos (by omega), if_pos (by omega), if_pos (by omega), eI, qv, if_pos (by omega)]
   ·rw [saltusref18_All.j1]; rfl
theorem all_ev (key : ByteArray) (l : List S46) (hn : l.length ≤ 1000) (hok : okL l) : Ev (fun k => saltusref18_All.f k l (htsL key l)) (allT (ents key l)) := by
 have h := all_l0 key l hn hok (l.length + 1) 0 [ofNats [1]] (by omega) (by simp; omega); rw [if_pos rfl] at h; have e : [ofNats [1]] ++ (allT (ents key l)).tail = allT (ents key l) := rfl; rw [e] at h; refine Ev.congr (fun k => ?_) h; unfold saltusref18_All.f; rw [show strOfNums ([1] : List Int) = ofNats [1] from ofNats_eq [1]]; rfl
end Go.Proofs.YtolbhliepkcihaaDoor.ProofPure
end
section
namespace Go.Proofs.YtolbhliepkcihaaDoor.ProofPure
open Go.RowKit YtolbhliepkcihaaDoorW.PrintWords Kinds Build Lab Sha Mac Codec Tower SkipOps SkipPure
abbrev Z := Nat × ByteArray
def pr (j : Nat) : List E → List Z
 | [] => []
 | y :: r => if j < y.h then (y.h, lab j (y :: r)) :: pr j r else pr j r
theorem pr_snd (j : Nat) : ∀ s : List E, (pr j s).map (·.2) = rowF (lab j) j s
 | [] => rfl
 | y :: r => by
  have ih := pr_snd j r
  by_cases c : j < y.h
  ·rw [pr, rowF, if_pos c, if_pos c, List.map_cons, ih]
  ·rw [pr, rowF, if_neg c, if_neg c, ih]
theorem pr_fst (j : Nat) : ∀ s : List E, (pr j s).map (·.1) = hts j s
 | [] => rfl
 | y :: r => by
  have ih := pr_fst j r; unfold hts at ih ⊢
  by_cases c : j < y.h
  ·rw [pr, if_pos c, List.map_cons, ih, List.map_cons, List.filter_cons_of_pos (by simpa using c)]
  ·rw [pr, if_neg c, ih, List.map_cons, List.filter_cons_of_neg (by simpa using c)]
def low (t : Nat) (z : Z) : Bool := decide (z.1 ≤ t)
theorem more_pr (j : Nat) : ∀ s : List E, more (lab j) j s = ((pr j s).takeWhile (low (j + 1))).map (·.2)
 | [] => rfl
 | y :: r => by
  have ih := more_pr j r
  by_cases d : j + 1 < y.h
  ·rw [more, if_pos d, pr, if_pos (by omega), List.takeWhile_cons_of_neg (by unfold low; simp; omega)]; rfl
  ·by_cases c : j < y.h
   ·rw [more, if_neg d, if_pos c, pr, if_pos c, List.takeWhile_cons_of_pos (by unfold low; simp; omega), List.map_cons, ih]
   ·rw [more, if_neg d, if_neg c, pr, if_neg c, ih]
def up (t : Nat) : List Z → List Z
 | [] => []
 | z :: r => if t < z.1 then (z.1, sumS (joinT t (z.2 :: (r.takeWhile (low t)).map (·.2)))) :: up t r else up t r
theorem pr_up (j : Nat) : ∀ s : List E, pr (j + 1) s = up (j + 1) (pr j s)
 | [] => rfl
 | y :: r => by
  have ih := pr_up j r
  by_cases d : j + 1 < y.h
  ·rw [pr, if_pos d, pr, if_pos (by omega), up, if_pos d, ih, ← more_pr]; rfl
  ·by_cases c : j < y.h
   ·rw [pr, if_neg d, pr, if_pos c, up, if_neg d, ih]
   ·rw [pr, if_neg d, pr, if_neg c, ih]
def cnt (t : Nat) (u : List Z) : Nat := (u.filter fun z => decide (t < z.1)).length
theorem up_get (t : Nat) : ∀ (u : List Z) (f : Nat) (h : f < u.length), t < u[f].1 →
  (up t u)[cnt t (u.take f)]? = some (u[f].1, sumS (joinT t (u[f].2 :: ((u.drop (f + 1)).takeWhile (low t)).map (·.2))))
 | [], f, h, _ => absurd h (by simp)
 | z :: r, 0, h, hf => by
  have hz : t < z.1 := hf; rw [up, if_pos hz]; rfl
 | z :: r, f + 1, h, hf => by
  have hr : f < r.length := by simpa using h
  have ih := up_get t r f hr hf
  by_cases c : t < z.1
  ·have e : cnt t ((z :: r).take (f + 1)) = cnt t (r.take f) + 1 := by
    unfold cnt; rw [List.take_succ_cons, List.filter_cons_of_pos (by simpa using c), List.length_cons]
   rw [up, if_pos c, e, List.getElem?_cons_succ]; exact ih
  ·have e : cnt t ((z :: r).take (f + 1)) = cnt t (r.take f) := by
    unfold cnt; rw [List.take_succ_cons, List.filter_cons_of_neg (by simpa using c)]
   rw [up, if_neg c, e]; exact ih
def fromN (t : Nat) (u : List Z) : Nat → Nat
 | 0 => 0
 | i + 1 => if t < (u.getD (i + 1) (0, ⟨#[]⟩)).1 then i + 1 else fromN t u i
def toN (t : Nat) (u : List Z) : Nat → Nat → Nat
 | 0, i => i
 | d + 1, i => if t < (u.getD i (0, ⟨#[]⟩)).1 then i else toN t u d (i + 1)
def gD (u : List Z) (i : Nat) : Nat := (u.getD i (0, ⟨#[]⟩)).1
theorem from_spec (t : Nat) (u : List Z) (h0 : t < gD u 0) : ∀ i, fromN t u i ≤ i ∧ t < gD u (fromN t u i) ∧ ∀ k, fromN t u i < k → k ≤ i → gD u k ≤ t
 | 0 => ⟨Nat.le_refl _, h0, fun k h1 h2 => absurd h1 (by rw [fromN]; omega)⟩
 | i + 1 => by
  obtain ⟨h1, h2, h3⟩ := from_spec t u h0 i
  by_cases c : t < (u.getD (i + 1) (0, ⟨#[]⟩)).1
  ·rw [fromN, if_pos c]; exact ⟨Nat.le_refl _, c, fun k q1 q2 => absurd q1 (by omega)⟩
  ·rw [fromN, if_neg c]; refine ⟨by omega, h2, fun k q1 q2 => ?_⟩
   by_cases e : k = i + 1
   ·subst e; unfold gD
    omega
   ·exact h3 k q1 (by omega)
theorem to_spec (t : Nat) (u : List Z) : ∀ d i, i + d = u.length → i ≤ toN t u d i ∧ toN t u d i ≤ u.length ∧ (∀ k, i ≤ k → k < toN t u d i → gD u k ≤ t) ∧ (toN t u d i = u.length ∨ t < gD u (toN t u d i))
 | 0, i, h => ⟨Nat.le_refl _, by rw [toN]; omega, fun k h1 h2 => absurd h2 (by rw [toN]; omega), .inl (by rw [toN]; omega)⟩
 | d + 1, i, h => by
  by_cases c : t < (u.getD i (0, ⟨#[]⟩)).1
  ·rw [toN, if_pos c]; exact ⟨Nat.le_refl _, by omega, fun k q1 q2 => absurd q2 (by omega), .inr c⟩
  ·obtain ⟨h1, h2, h3, h4⟩ := to_spec t u d (i + 1) (by omega); rw [toN, if_neg c]; refine ⟨by omega, h2, fun k q1 q2 => ?_, h4⟩
   by_cases e : k = i
   ·subst e; unfold gD
    omega
   ·exact h3 k (by omega) q2
theorem gD_at (u : List Z) (i : Nat) (h : i < u.length) : gD u i = u[i].1 := by unfold gD; rw [List.getD_eq_getElem?_getD, List.getElem?_eq_getElem h]; rfl
theorem while_is (t : Nat) (u : List Z) (e : Nat) (he : e ≤ u.length) (hend : e = u.length ∨ t < gD u e) : ∀ d i, i + d = e → (∀ k, i ≤ k → k < e → gD u k ≤ t) → (u.drop i).takeWhile (low t) = (u.take e).drop i
 | 0, i, h, hk => by
  obtain rfl : i = e := by omega
  rw [List.drop_eq_nil_of_le (show (u.take i).length ≤ i by rw [qw]; omega)]
  rcases hend with h1 | h1
  ·rw [List.drop_eq_nil_of_le (by omega)]; rfl
  ·by_cases c : i < u.length
   ·rw [gD_at u i c] at h1; rw [List.drop_eq_getElem_cons c, List.takeWhile_cons_of_neg (by unfold low; simp; omega)]
   ·rw [List.drop_eq_nil_of_le (by omega)]; rfl
 | d + 1, i, h, hk => by
  have c : i < u.length := by omega
  have ih := while_is t u e he hend d (i + 1) (by omega) (fun k q1 q2 => hk k (by omega) q2); have h1 := hk i (Nat.le_refl _) (by omega); rw [gD_at u i c] at h1
  have c2 : i < (u.take e).length := by rw [qw]; omega
  rw [List.drop_eq_getElem_cons c, List.takeWhile_cons_of_pos (by unfold low; simp; omega), ih, List.drop_eq_getElem_cons c2]
  congr 1
  exact (List.getElem_take ..).symm
def labs (u : List Z) : List ByteArray := u.map (·.2)
def befN (t : Nat) (u : List Z) (a : Nat) : List ByteArray := cutL (labs u) (fromN t u a, a)
def aftN (t : Nat) (u : List Z) (a : Nat) : List ByteArray := cutL (labs u) (a + 1, toN t u (u.length - (a + 1)) (a + 1))
theorem step_up (t : Nat) (u : List Z) (a : Nat) (ha : a < u.length) (h0 : t < gD u 0) :
  ∃ h, (up t u)[cnt t (u.take (fromN t u a))]? = some (h, sumS (joinT t (befN t u a ++ [u[a].2] ++ aftN t u a))) := by
 obtain ⟨f1, f2, f3⟩ := from_spec t u h0 a; obtain ⟨t1, t2, t3, t4⟩ := to_spec t u (u.length - (a + 1)) (a + 1) (by omega); generalize hf : fromN t u a = f at *; generalize ht : toN t u (u.length - (a + 1)) (a + 1) = e at *
 have hfl : f < u.length := by omega
 rw [gD_at u f hfl] at f2; refine ⟨u[f].1, ?_⟩
 rw [up_get t u f hfl f2, while_is t u e t2 t4 (e - (f + 1)) (f + 1) (by omega) (fun k q1 q2 => by
  by_cases c : k ≤ a
  ·exact f3 k (by omega) c
  ·exact t3 k (by omega) q2)]
 congr 4
 unfold befN aftN cutL labs; rw [hf, ht]
 show u[f].2 :: ((u.take e).drop (f + 1)).map (·.2) = _
 have hc : f < (u.take e).length := by rw [qw]; omega
 have e1 : u[f].2 :: ((u.take e).drop (f + 1)).map (·.2) = ((u.take e).drop f).map (·.2) := by
  rw [List.drop_eq_getElem_cons hc, List.map_cons]
  congr 1
  rw [List.getElem_take]
 rw [e1, ← List.map_take, ← List.map_take, ← List.map_drop, ← List.map_drop]
 have e2 : (u.take e).drop f = (u.take a).drop f ++ ([u[a]] ++ (u.take e).drop (a + 1)) := by
  have h1 : u.take e = u.take a ++ (u.take e).drop a := by
   have := (List.take_append_drop a (u.take e)).symm
   rwa [List.take_take, Nat.min_eq_left (by omega)] at this
  have h2 : (u.take e).drop a = [u[a]] ++ (u.take e).drop (a + 1) := by
   have ca : a < (u.take e).length := by rw [qw]; omega
   rw [List.drop_eq_getElem_cons ca, List.getElem_take]; rfl
  rw [← h2]
  conv => lhs; rw [h1]
  rw [List.drop_append_of_le_length (by rw [qw]; omega)]
 rw [e2, List.map_append, List.map_append, List.append_assoc]; rfl
end Go.Proofs.YtolbhliepkcihaaDoor.ProofPure
end
section
namespace Go.Proofs.YtolbhliepkcihaaDoor.ProofPure
open Go.RowKit YtolbhliepkcihaaDoorW.PrintWords Kinds Build Lab Sha Mac Codec Tower SkipOps SkipPure
def atN (es : List E) (a0 : Nat) : Nat → Nat
 | 0 => a0
 | j + 1 => cnt (j + 1) ((pr j es).take (fromN (j + 1) (pr j es) (atN es a0 j)))
def befR (es : List E) (a0 : Nat) : Rows := (List.range 8).map fun j => befN (j + 1) (pr j es) (atN es a0 j)
def aftR (es : List E) (a0 : Nat) : Rows := (List.range 8).map fun j => aftN (j + 1) (pr j es) (atN es a0 j)
theorem bef_at (es : List E) (a0 j : Nat) (h : j < 8) : (befR es a0).getD j [] = befN (j + 1) (pr j es) (atN es a0 j) := by
 unfold befR; rw [List.getD_eq_getElem?_getD, List.getElem?_map, List.getElem?_range h]; rfl
theorem aft_at (es : List E) (a0 j : Nat) (h : j < 8) : (aftR es a0).getD j [] = aftN (j + 1) (pr j es) (atN es a0 j) := by
 unfold aftR; rw [List.getD_eq_getElem?_getD, List.getElem?_map, List.getElem?_range h]; rfl
theorem pr_head (r : List E) (j : Nat) (h : j < 9) : gD (pr j (head :: r)) 0 = 9 := by
 rw [pr, if_pos (show j < head.h from h)]; rfl
theorem labs_pr (j : Nat) (es : List E) : labs (pr j es) = rowF (lab j) j es := pr_snd j es
theorem pr_len (j : Nat) (es : List E) : (pr j es).length = (rowF (lab j) j es).length := by rw [← pr_snd, List.length_map]
theorem at_lt (r : List E) (a0 : Nat) (h0 : a0 < (pr 0 (head :: r)).length) : ∀ j, j ≤ 8 → atN (head :: r) a0 j < (pr j (head :: r)).length
 | 0, _ => h0
 | j + 1, hj => by
  have ih := at_lt r a0 h0 j (by omega); obtain ⟨h, e⟩ := step_up (j + 1) (pr j (head :: r)) (atN (head :: r) a0 j) ih (by rw [pr_head r j (by omega)]; omega); rw [← pr_up] at e; exact (List.getElem?_eq_some_iff.1 e).1
theorem steps_at (x : S46) (r : List E) (a0 : Nat) (h0 : a0 < (pr 0 (head :: r)).length) (hx : ((pr 0 (head :: r))[a0]'h0).2 = sumS (itemT x)) : ∀ j, (hj : j ≤ 8) →
  sumS (stepN x (befR (head :: r) a0) (aftR (head :: r) a0) j) = ((pr j (head :: r))[atN (head :: r) a0 j]'(at_lt r a0 h0 j hj)).2
 | 0, _ => hx.symm
 | j + 1, hj => by
  have ih := steps_at x r a0 h0 hx j (by omega); obtain ⟨h, e⟩ := step_up (j + 1) (pr j (head :: r)) (atN (head :: r) a0 j) (at_lt r a0 h0 j (by omega)) (by rw [pr_head r j (by omega)]; omega); rw [← pr_up, ← ih] at e; obtain ⟨q, e2⟩ := List.getElem?_eq_some_iff.1 e; have e3 := congrArg Prod.snd e2
  show sumS (joinT (j + 1) _) = _
  rw [bef_at _ _ _ (by omega), aft_at _ _ _ (by omega)]; exact e3.symm
theorem root_pr (key : ByteArray) (l : List S46) : labs (pr 8 (ents key l)) = [rootL key l] := by
 rw [labs_pr]; exact rootL_row key l
theorem pr_item (key : ByteArray) (l : List S46) (i : Nat) (h : i < l.length) : ∃ q : i + 1 < (pr 0 (ents key l)).length, ((pr 0 (ents key l))[i + 1]).2 = sumS (itemT l[i]) := by
 have e := labs_pr 0 (ents key l); rw [← labs_row] at e
 have hl : (pr 0 (ents key l)).length = l.length + 1 := by
  have := congrArg List.length e; unfold labs at this; rw [List.length_map, labs_len] at this; exact this
 refine ⟨by omega, ?_⟩
 have e2 : (labs (pr 0 (ents key l)))[i + 1]? = some (sumS (itemT l[i])) := by
  rw [e]; unfold labs0 ents; rw [List.map_cons, List.getElem?_cons_succ, List.getElem?_map, List.getElem?_map, List.getElem?_eq_getElem h]; rfl
 unfold labs at e2; rw [List.getElem?_map, List.getElem?_eq_getElem (by omega)] at e2; exact Option.some.inj e2
theorem prove_root (key : ByteArray) (l : List S46) (i : Nat) (h : i < l.length) : sumS (stepN l[i] (befR (ents key l) (i + 1)) (aftR (ents key l) (i + 1)) 8) = rootL key l := by
 obtain ⟨q, hx⟩ := pr_item key l i h; have e := steps_at l[i] (l.map (ent key)) (i + 1) q hx 8 (Nat.le_refl _); have h8 := root_pr key l
 have hl : (pr 8 (ents key l)).length = 1 := by
  have := congrArg List.length h8; unfold labs at this
  rwa [List.length_map] at this
 refine e.trans ?_; have ha := at_lt (l.map (ent key)) (i + 1) q 8 (Nat.le_refl _)
 have h0 : atN (head :: l.map (ent key)) (i + 1) 8 = 0 := by
  have : (pr 8 (head :: l.map (ent key))).length = 1 := hl
  omega
 have h1 : (labs (pr 8 (ents key l)))[0]? = some (rootL key l) := by rw [h8]; rfl
 unfold labs at h1; rw [List.getElem?_map] at h1
 have h2 : (pr 8 (ents key l))[0]? = (pr 8 (head :: l.map (ent key)))[atN (head :: l.map (ent key)) (i + 1) 8]? := by rw [h0]; rfl
 rw [h2, List.getElem?_eq_getElem ha] at h1; exact Option.some.inj h1
theorem cutL_mem {l : List ByteArray} {s : Nat × Nat} {x : ByteArray} (h : x ∈ cutL l s) : x ∈ l := List.mem_of_mem_take (List.mem_of_mem_drop h)
theorem cutL_len (l : List ByteArray) (s : Nat × Nat) : (cutL l s).length ≤ l.length := by unfold cutL; rw [List.length_drop, qw]; omega
theorem ok_row (key : ByteArray) (l : List S46) (hl : l.length ≤ 60) (j : Nat) (s : Nat × Nat) : oddR (cutL (labs (pr j (ents key l))) s) = false := by
 have h1 : (cutL (labs (pr j (ents key l))) s).length ≤ 64 := by
  have a1 := cutL_len (labs (pr j (ents key l))) s; have a2 := row_len j (ents key l); rw [labs_pr] at a1 ⊢; unfold ents at a1 a2 ⊢; simp only [List.length_cons, List.length_map] at a2
  omega
 unfold oddR; rw [decide_eq_false (by omega), Bool.false_or]
 cases h : odds (cutL (labs (pr j (ents key l))) s) with
 | false => rfl
 | true =>
  unfold odds at h; obtain ⟨x, hx, ho⟩ := List.any_eq_true.1 h; have hm := cutL_mem hx; rw [labs_pr] at hm; have h32 := row_size j (ents key l) x hm; unfold odd at ho; rw [h32] at ho; exact absurd ho (by decide)
theorem rows_ok (f : Nat → List ByteArray) (h : ∀ j, oddR (f j) = false) : oddRs ((List.range 8).map f) = false := by
 cases hh : oddRs ((List.range 8).map f) with
 | false => rfl
 | true =>
  unfold oddRs at hh; obtain ⟨r, hr, ho⟩ := List.any_eq_true.1 hh; obtain ⟨j, _, rfl⟩ := List.mem_map.1 hr; rw [h j] at ho; cases ho
theorem prove_may (key : ByteArray) (l : List S46) (hl : l.length ≤ 60) (a0 : Nat) (v : ByteArray) (hv : v.size ≤ 64) : mayN v (befR (ents key l) a0) (aftR (ents key l) a0) = 0 := by
 have o1 : oddRs (befR (ents key l) a0) = false := rows_ok _ (fun j => ok_row key l hl j _); have o2 : oddRs (aftR (ents key l) a0) = false := rows_ok _ (fun j => ok_row key l hl j _)
 have l1 : (befR (ents key l) a0).length = 8 := by unfold befR; simp
 have l2 : (aftR (ents key l) a0).length = 8 := by unfold aftR; simp
 unfold mayN; rw [if_neg (by omega), if_neg]
 rintro (h | h | h | h)
 ·exact h l1
 ·exact h l2
 ·rw [o1] at h; cases h
 ·rw [o2] at h; cases h
end Go.Proofs.YtolbhliepkcihaaDoor.ProofPure
end
section
namespace Go.Proofs.YtolbhliepkcihaaDoor.Lab
open Go.RowKit YtolbhliepkcihaaDoorW.PrintWords Kinds Build Sha Mac Codec Tower Mem ProofPure
theorem is_k (f0 : Int) (f1 : ByteArray) (q : Addr) (k : Int) (w : World) (hq : w.cell? q = some (.int .u64 k)) :
  Calls Tryd.prog 89 #[.agg #[.int .u64 f0, .string f1], .pointer (some q)] w fun e w' => e = .returned (.bool (f0 == k)) ∧ Below w.heap.size w w' := by
 have hq2 := (World.cell?_alloc_lt w (.cells #[.int .u64 f0, .string f1] 46) q (qd _ _ hq)).trans hq; have HBW := qa (Below.refl w.heap.size w) (.cells #[.int .u64 f0, .string f1] 46)
 go_enter Tryd.func89, Tryd.ntmps89
 go_wp2; go_ret; exact ⟨rfl, HBW⟩
set_option maxRecDepth 100000 in
set_option maxHeartbeats 4000000 in
theorem idx_k (A : Option Addr) (c : Nat) (l : List It) (w : World) (hr : Kd.C k46 w A l.length l) (hn : l.length ≤ 1000000) (q : Addr) (k : Int) (hq : w.cell? q = some (.int .u64 k)) (i : Int)
  (hi : (∃ m : Nat, ∃ h : m < l.length, i = (m : Int) ∧ l[m].f0 = k ∧ ∀ j (hj : j < m), l[j].f0 ≠ k) ∨ (i = -1 ∧ ∀ j (hj : j < l.length), l[j].f0 ≠ k)) :
  Calls Tryd.prog 88 #[.slice A l.length c, .func (.func 89) #[] #[.pointer (some q)]] w fun e w' => e = .returned (.int .i64 i) ∧ Below w.heap.size w w' := by
 have HI := Lib.hid hi; have HC := qf hr; have HQ := Lib.hid hq; clear hi hr hq
 go_enter Tryd.func88, Tryd.ntmps88
 go_wp2
 go_loopw [8] (fun iv wr => ∃ m : Nat, m ≤ l.length ∧ iv = .int .i64 m ∧ Hid (∀ j (hj : j < l.length), j < m → l[j].f0 ≠ k) ∧ Aside0 (Below w.heap.size w wr)) (fun iv _ => l.length - (intOf iv).toNat)
 case atStart => exact ⟨0, Nat.zero_le _, rfl, Lib.hid (fun j hj h => absurd h (by omega)), ⟨Below.refl _ _⟩⟩
 case round =>
  obtain ⟨m, hm, rfl, HN, HB⟩ := hrel
  by_cases hlt : m < l.length
  ·obtain ⟨ad, e1, hc0, hc1⟩ := at_T46 HC.out (m : Int) (by omega) (by omega); cases e1; rw [rd_it l m hlt, Int.toNat_natCast] at hc0 hc1; replace hc0 := (HB.out.cell (qd w _ hc0)).trans hc0; replace hc1 := (HB.out.cell (qd w _ hc1)).trans hc1; have hqr := (HB.out.cell (qd w _ HQ.out)).trans HQ.out; have G := Lib.hid (is_k l[m].f0 l[m].f1 q k wr hqr)
   have p0 : (0 : Int) ≤ (m : Int) := by omega
   have p1 : (m : Int) < (l.length : Int) := by omega
   cases hb : (l[m].f0 == k) with
   | true =>
    have hk := beq_iff_eq.1 hb
    have hi : i = (m : Int) := by
     rcases HI.out with ⟨m2, h2, rfl, h3, h4⟩ | ⟨_, h4⟩
     ·rcases Nat.lt_trichotomy m m2 with q1 | q1 | q1
      ·exact absurd hk (h4 m q1)
      ·rw [q1]
      ·exact absurd h3 (HN.out m2 h2 q1)
     ·exact absurd hk (h4 m hlt)
    subst hi; rw [hb] at G; clear hk hb; generalize l[m].f0 = f0 at *; generalize l[m].f1 = f1 at *
    go_wp2_with (go_at_call 89; refine (G.out).mono ?_; rintro e w1 ⟨rfl, hb1⟩; have HB2 := qf (below_step HB.out hb1); clear hb1)
    go_ret; exact ⟨rfl, HB2.out⟩
   | false =>
    have hk : l[m].f0 ≠ k := beq_eq_false_iff_ne.1 hb
    have HN2 : Hid (∀ j (hj : j < l.length), j < m + 1 → l[j].f0 ≠ k) := Lib.hid (fun j hj h => by
     by_cases e : j = m
     ·subst e; exact hk
     ·exact HN.out j hj (by omega))
    rw [hb] at G; clear hk hb; generalize l[m].f0 = f0 at *; generalize l[m].f1 = f1 at *
    go_wp2_with (go_at_call 89; refine (G.out).mono ?_; rintro e w1 ⟨rfl, hb1⟩; have HB2 := qf (below_step HB.out hb1); clear hb1)
    go_roundw
    case rel => exact ⟨m + 1, by omega, by go_num, HN2, HB2⟩
    case measure => simp [intOf]; omega
  ·obtain rfl : m = l.length := by omega
   have hi : i = -1 := by
    rcases HI.out with ⟨m2, h2, rfl, h3, h4⟩ | ⟨h4, _⟩
    ·exact absurd h3 (HN.out m2 h2 h2)
    ·exact h4
   subst hi; go_wp2; go_ret; exact ⟨rfl, HB.out⟩
end Go.Proofs.YtolbhliepkcihaaDoor.Lab
end
section
namespace Go.Proofs.YtolbhliepkcihaaDoor.Lab
open Go.RowKit YtolbhliepkcihaaDoorW.PrintWords Kinds Build Sha Mac Codec Tower Mem ProofPure SkipOps SkipPure
theorem results_row_tmp {P : Program} {fn : Func} {p u : Tmp} {ty : TypeId} (h : fn.results = #[.cell p ty, .tmp u]) (tmps : Array Value) (w : World) (g : Nat) (t : TypeId) (cs : Array Value) (fr : Nat × Nat) (d : TypeDesc)
  (hp : tmps.getD p undef = .pointer (some ⟨g, 0, none⟩)) (hg : w.heap[g]? = some (.cells cs t fr))
  (hu : P.underlying ty = some d) (hd : (match d with | .struct _ | .array _ _ => true | _ => false) = true) (hi : (P.info? ty).map (·.size) = some cs.size) (v : Value) (hv : tmps.getD u undef = v) :
  (results fn tmps).run P w = .ok (.tuple #[.agg cs, v]) w := by
 have hp' : tmps[p]?.getD undef = .pointer (some ⟨g, 0, none⟩) := by simpa using hp
 have hv' : tmps[u]?.getD undef = v := by simpa using hv
 simp [results, h, hp', hv', asAddr, run_loadVar_row w g t ty cs fr d hg hu hd hi]
end Go.Proofs.YtolbhliepkcihaaDoor.Lab
end
section
namespace Go.Proofs.YtolbhliepkcihaaDoor.Lab
open Go.RowKit Go.Shelf Go.Lib Go.Sort YtolbhliepkcihaaDoorW.PrintWords Kinds Build Tower
theorem prva_walk (q11 : Addr) (now : Int) (n0 : 0 ≤ now) (n1 : now ≤ 100) (x : Int) (W : World) (h11 : W.cell? q11 = some (.int .i64 now)) :
  FnGives Tryd.prog 92 #[.pointer (some q11)] #[.int .i64 x] (.bool (decide (x ≤ now + 1))) W := by
 show Calls Tryd.prog 92 #[.int .i64 x, .pointer (some q11)] W _
 go_enter Tryd.func92, Tryd.ntmps92
 go_wp2
 all_goals (go_ret; exact ⟨by simp_all, 0, rfl⟩)
theorem prva_at (q11 : Addr) (now : Int) (n0 : 0 ≤ now) (n1 : now ≤ 100) (w : World) (h11 : w.cell? q11 = some (.int .i64 now)) :
  PredAt Tryd.prog 92 #[.pointer (some q11)] (Value.int .i64) (fun x => decide (x ≤ now + 1)) w :=
 fun W x hb => prva_walk q11 now n0 n1 x W ((hb.cell (qd _ _ h11)).trans h11)
theorem prva_over (q11 : Addr) (now : Int) (n0 : 0 ≤ now) (n1 : now ≤ 100) (blk off size : Nat) (w : World) (hne : q11.block ≠ blk) (h11 : w.cell? q11 = some (.int .i64 now)) :
  PredOver Tryd.prog 92 #[.pointer (some q11)] (Value.int .i64) (fun x => decide (x ≤ now + 1)) blk off size w :=
 fun n os dk x _ => prva_walk q11 now n0 n1 x _ (by
  have hB := qd _ _ h11; unfold sortWorld; rw [cell?_grow _ _ _ (by show q11.block < (putRow _ _ _ _ _).heap.size; rw [size_putRow]; exact hB), cell?_putRow_other _ _ blk off _ _ (Or.inl hne)]
  exact h11)
theorem del_a (g cap base : Nat) (hs : List Int) (now : Int) (n0 : 0 ≤ now) (n1 : now ≤ 100) (q11 : Addr) (w : World) (hown : w.ownsRow base 3 1 (.slice (some ⟨g, 0, none⟩) hs.length cap) hs.length (hs.map (Value.int .i64)))
  (h11 : w.cell? q11 = some (.int .i64 now)) (hne : q11.block ≠ g) (hn : hs.length ≤ 1000000) :
  Calls Tryd.prog 90 #[.slice (some ⟨g, 0, none⟩) hs.length cap, .func (.func 92) #[] #[.pointer (some q11)]] w fun e w' =>
   e = .returned (.slice (some ⟨g, 0, none⟩) (hs.filter fun x => !decide (x ≤ now + 1)).length cap) ∧ w'.ownsRow base 3 1 (.slice (some ⟨g, 0, none⟩) (hs.filter fun x => !decide (x ≤ now + 1)).length cap) (hs.filter fun x => !decide (x ≤ now + 1)).length ((hs.filter fun x => !decide (x ≤ now + 1)).map (Value.int .i64)) ∧ w.grownBy w' (some g) := by
 obtain ⟨hlen, hor⟩ := hown
 rcases hor with ⟨he, _⟩ | ⟨g', cap', cur, hv, hbase, hb, hnc, hcm, hsz, htk⟩
 ·cases he
 ·injection hv with e1 _ e3
  injection e1 with e1
  injection e1 with e1 _ _
  subst e1 e3; rw [Nat.mul_one] at htk hsz; have hH := holds_of_blockI hb htk
  have eg : ∀ args w, (callFunc 92 args).run Tryd.prog w = .ok (.enter 92 args) w := enters_of Tryd.func92 (by kernel_rfl) rfl
  have h := Tryd.slices_DeleteFunc (Value.int .i64) (fun _ => rfl) (fun x => decide (x ≤ now + 1)) 92 #[.pointer (some q11)] eg (0 : Int) Tryd.zeroValue3 g 0 cap hs.toArray w (prva_at q11 now n0 n1 w h11) (prva_over q11 now n0 n1 g 0 _ w hne h11) hH (by simp; omega) (by simpa using hnc); rw [show hs.toArray.size = hs.length from by simp] at h; refine h.mono ?_
  rintro e w' ⟨rfl, q, rfl⟩
  obtain ⟨r, hr⟩ : ∃ r, (hs.filter fun x => !decide (x ≤ now + 1)) = r := ⟨_, rfl⟩
  have hrl : r.length ≤ hs.length := by rw [← hr]; exact List.length_filter_le _ _
  have hl : hs.toArray.toList = hs := by simp
  simp only [hr]
  have hD : (r ++ List.replicate (hs.length - r.length) (0 : Int)).length = hs.length := by rw [List.length_append, List.length_replicate]; omega
  have hg := grownBy_sortedI (w := w) (g := g) (n := q) (os := #[]) (r ++ List.replicate (hs.length - r.length) (0 : Int)).toArray; rw [grow_empty] at hg; have ht := take_putCellsI cur (r ++ List.replicate (hs.length - r.length) (0 : Int)) (by rw [hD]; omega); refine ⟨trivial, ⟨by simp, .inr ⟨g, cap, putCells (Value.int .i64) 0 (r ++ List.replicate (hs.length - r.length) (0 : Int)).toArray cur, rfl, hbase, ?_, by omega, hcm, by rw [Nat.mul_one]; simp [putCells, hsz], ?_⟩⟩, hg⟩
  ·show (mapBlock (Sort.ahead w q) g _).heap[g]? = _
   unfold mapBlock; rw [Array.getElem?_modify, if_pos rfl]
   show (w.heap[g]?).map _ = _
   rw [hb]; rfl
  ·rw [hD] at ht; rw [Nat.mul_one]; have h2 := congrArg (List.take r.length) ht; rw [List.take_take, Nat.min_eq_left hrl, List.map_append, List.take_append_of_le_length (by rw [List.length_map]; exact Nat.le_refl _), show (r.map (Value.int .i64)).take r.length = r.map (Value.int .i64) from List.take_of_length_le (by rw [List.length_map]; exact Nat.le_refl _)] at h2; exact h2
theorem prvb_walk (q11 : Addr) (now : Int) (n0 : 0 ≤ now) (n1 : now ≤ 100) (x : Int) (W : World) (h11 : W.cell? q11 = some (.int .i64 now)) :
  FnGives Tryd.prog 93 #[.pointer (some q11)] #[.int .i64 x] (.bool (decide (x ≤ now + 1))) W := by
 show Calls Tryd.prog 93 #[.int .i64 x, .pointer (some q11)] W _
 go_enter Tryd.func93, Tryd.ntmps93
 go_wp2
 all_goals (go_ret; exact ⟨by simp_all, 0, rfl⟩)
theorem prvb_at (q11 : Addr) (now : Int) (n0 : 0 ≤ now) (n1 : now ≤ 100) (w : World) (h11 : w.cell? q11 = some (.int .i64 now)) :
  PredAt Tryd.prog 93 #[.pointer (some q11)] (Value.int .i64) (fun x => decide (x ≤ now + 1)) w :=
 fun W x hb => prvb_walk q11 now n0 n1 x W ((hb.cell (qd _ _ h11)).trans h11)
theorem prvb_over (q11 : Addr) (now : Int) (n0 : 0 ≤ now) (n1 : now ≤ 100) (blk off size : Nat) (w : World) (hne : q11.block ≠ blk) (h11 : w.cell? q11 = some (.int .i64 now)) :
  PredOver Tryd.prog 93 #[.pointer (some q11)] (Value.int .i64) (fun x => decide (x ≤ now + 1)) blk off size w :=
 fun n os dk x _ => prvb_walk q11 now n0 n1 x _ (by
  have hB := qd _ _ h11; unfold sortWorld; rw [cell?_grow _ _ _ (by show q11.block < (putRow _ _ _ _ _).heap.size; rw [size_putRow]; exact hB), cell?_putRow_other _ _ blk off _ _ (Or.inl hne)]
  exact h11)
theorem del_b (g cap base : Nat) (hs : List Int) (now : Int) (n0 : 0 ≤ now) (n1 : now ≤ 100) (q11 : Addr) (w : World) (hown : w.ownsRow base 3 1 (.slice (some ⟨g, 0, none⟩) hs.length cap) hs.length (hs.map (Value.int .i64)))
  (h11 : w.cell? q11 = some (.int .i64 now)) (hne : q11.block ≠ g) (hn : hs.length ≤ 1000000) :
  Calls Tryd.prog 90 #[.slice (some ⟨g, 0, none⟩) hs.length cap, .func (.func 93) #[] #[.pointer (some q11)]] w fun e w' =>
   e = .returned (.slice (some ⟨g, 0, none⟩) (hs.filter fun x => !decide (x ≤ now + 1)).length cap) ∧ w'.ownsRow base 3 1 (.slice (some ⟨g, 0, none⟩) (hs.filter fun x => !decide (x ≤ now + 1)).length cap) (hs.filter fun x => !decide (x ≤ now + 1)).length ((hs.filter fun x => !decide (x ≤ now + 1)).map (Value.int .i64)) ∧ w.grownBy w' (some g) := by
 obtain ⟨hlen, hor⟩ := hown
 rcases hor with ⟨he, _⟩ | ⟨g', cap', cur, hv, hbase, hb, hnc, hcm, hsz, htk⟩
 ·cases he
 ·injection hv with e1 _ e3
  injection e1 with e1
  injection e1 with e1 _ _
  subst e1 e3; rw [Nat.mul_one] at htk hsz; have hH := holds_of_blockI hb htk
  have eg : ∀ args w, (callFunc 93 args).run Tryd.prog w = .ok (.enter 93 args) w := enters_of Tryd.func93 (by kernel_rfl) rfl
  have h := Tryd.slices_DeleteFunc (Value.int .i64) (fun _ => rfl) (fun x => decide (x ≤ now + 1)) 93 #[.pointer (some q11)] eg (0 : Int) Tryd.zeroValue3 g 0 cap hs.toArray w (prvb_at q11 now n0 n1 w h11) (prvb_over q11 now n0 n1 g 0 _ w hne h11) hH (by simp; omega) (by simpa using hnc); rw [show hs.toArray.size = hs.length from by simp] at h; refine h.mono ?_
  rintro e w' ⟨rfl, q, rfl⟩
  obtain ⟨r, hr⟩ : ∃ r, (hs.filter fun x => !decide (x ≤ now + 1)) = r := ⟨_, rfl⟩
  have hrl : r.length ≤ hs.length := by rw [← hr]; exact List.length_filter_le _ _
  have hl : hs.toArray.toList = hs := by simp
  simp only [hr]
  have hD : (r ++ List.replicate (hs.length - r.length) (0 : Int)).length = hs.length := by rw [List.length_append, List.length_replicate]; omega
  have hg := grownBy_sortedI (w := w) (g := g) (n := q) (os := #[]) (r ++ List.replicate (hs.length - r.length) (0 : Int)).toArray; rw [grow_empty] at hg; have ht := take_putCellsI cur (r ++ List.replicate (hs.length - r.length) (0 : Int)) (by rw [hD]; omega); refine ⟨trivial, ⟨by simp, .inr ⟨g, cap, putCells (Value.int .i64) 0 (r ++ List.replicate (hs.length - r.length) (0 : Int)).toArray cur, rfl, hbase, ?_, by omega, hcm, by rw [Nat.mul_one]; simp [putCells, hsz], ?_⟩⟩, hg⟩
  ·show (mapBlock (Sort.ahead w q) g _).heap[g]? = _
   unfold mapBlock; rw [Array.getElem?_modify, if_pos rfl]
   show (w.heap[g]?).map _ = _
   rw [hb]; rfl
  ·rw [hD] at ht; rw [Nat.mul_one]; have h2 := congrArg (List.take r.length) ht; rw [List.take_take, Nat.min_eq_left hrl, List.map_append, List.take_append_of_le_length (by rw [List.length_map]; exact Nat.le_refl _), show (r.map (Value.int .i64)).take r.length = r.map (Value.int .i64) from List.take_of_length_le (by rw [List.length_map]; exact Nat.le_refl _)] at h2; exact h2
end Go.Proofs.YtolbhliepkcihaaDoor.Lab
end
section
namespace Go.Proofs.YtolbhliepkcihaaDoor.Lab
open Go.RowKit YtolbhliepkcihaaDoorW.PrintWords Kinds Build Sha Mac Codec Tower Mem ProofPure
theorem own_form {w : World} {base : Nat} {e : TypeId} {size : Nat} {v : Value} {N : Nat} {xs : List Value} (h : w.ownsRow base e size v N xs) (h0 : 0 < N) : ∃ g cap, v = .slice (some ⟨g, 0, none⟩) N cap ∧ N ≤ cap := by
 obtain ⟨k, rfl⟩ : ∃ k, N = k + 1 := ⟨N - 1, by omega⟩
 exact own_succ3 h
def segW (g c : Nat) (s : Nat × Nat) : Value := .slice (if c = s.1 then some ⟨g, 0, none⟩ else some ⟨g, s.1, none⟩) (s.2 - s.1) (c - s.1)
def befS (es : List E) (a0 i : Nat) : Nat × Nat := (fromN (i + 1) (pr i es) (atN es a0 i), atN es a0 i)
def aftS (es : List E) (a0 i : Nat) : Nat × Nat := (atN es a0 i + 1, toN (i + 1) (pr i es) ((pr i es).length - (atN es a0 i + 1)) (atN es a0 i + 1))
structure Outs (base : Nat) (es : List E) (a0 j : Nat) (bs xs2 : List Value) (W : World) : Prop where
 lb : bs.length = j
 la : xs2.length = j
 row : ∀ i, i < j → ∃ g c N, N = (rowF (lab i) i es).length ∧ N ≤ c ∧ W.ownsRow base 9 1 (.slice (some ⟨g, 0, none⟩) N c) N (strV (rowF (lab i) i es)) ∧ bs[i]? = some (segW g c (befS es a0 i)) ∧ xs2[i]? = some (segW g c (aftS es a0 i))
theorem Outs.keep {base : Nat} {es : List E} {a0 j : Nat} {bs xs2 : List Value} {W W' : World} (h : Outs base es a0 j bs xs2 W) (f : ∀ (v : Value) (n : Nat) (xs : List Value), W.ownsRow base 9 1 v n xs → W'.ownsRow base 9 1 v n xs) : Outs base es a0 j bs xs2 W' :=
 ⟨h.lb, h.la, fun i hi => by
  obtain ⟨g, c, N, h1, h2, h3, h4, h5⟩ := h.row i hi
  exact ⟨g, c, N, h1, h2, f _ _ _ h3, h4, h5⟩⟩
theorem Outs.push {base : Nat} {es : List E} {a0 j : Nat} {bs xs2 : List Value} {W : World} (h : Outs base es a0 j bs xs2 W) {g c N : Nat} (h1 : N = (rowF (lab j) j es).length) (h2 : N ≤ c) (h3 : W.ownsRow base 9 1 (.slice (some ⟨g, 0, none⟩) N c) N (strV (rowF (lab j) j es))) :
  Outs base es a0 (j + 1) (bs ++ [segW g c (befS es a0 j)]) (xs2 ++ [segW g c (aftS es a0 j)]) W := by
 have lb := h.lb; have la := h.la; refine ⟨by rw [List.length_append, lb]; rfl, by rw [List.length_append, la]; rfl, fun i hi => ?_⟩
 by_cases e : i = j
 ·subst e; refine ⟨g, c, N, h1, h2, h3, ?_, ?_⟩
  ·rw [List.getElem?_append_right (by omega), lb, Nat.sub_self]; rfl
  ·rw [List.getElem?_append_right (by omega), la, Nat.sub_self]; rfl
 ·obtain ⟨g', c', N', q1, q2, q3, q4, q5⟩ := h.row i (by omega); refine ⟨g', c', N', q1, q2, q3, ?_, ?_⟩
  ·rw [List.getElem?_append_left (by omega)]; exact q4
  ·rw [List.getElem?_append_left (by omega)]; exact q5
theorem Outs.none (base : Nat) (es : List E) (a0 : Nat) (W : World) : Outs base es a0 0 [] [] W := ⟨rfl, rfl, fun i hi => absurd hi (by omega)⟩
theorem segW_reads {W : World} {base g c N : Nat} {row : List ByteArray} (h : W.ownsRow base 9 1 (.slice (some ⟨g, 0, none⟩) N c) N (strV row)) (hc : N ≤ c) (s : Nat × Nat) (h1 : s.1 ≤ s.2) (h2 : s.2 ≤ N) :
  ∃ A d, segW g c s = .slice A (cutL row s).length d ∧ (cutL row s).length ≤ d ∧ Kd.C Kd.string W A (cutL row s).length (cutL row s) := by
 have hl : row.length = N := by have := h.1; unfold strV at this; simpa using this
 have hlen : (cutL row s).length = s.2 - s.1 := by unfold cutL; rw [List.length_drop, qw]; omega
 have hC := cut_C h s h1 h2; unfold segW
 by_cases e : c = s.1
 ·have hz : (cutL row s).length = 0 := by omega
  have hnil : cutL row s = [] := List.eq_nil_of_length_eq_zero hz; rw [if_pos e]; refine ⟨some ⟨g, 0, none⟩, c - s.1, by rw [hlen], by omega, ?_⟩; rw [hnil]; exact ⟨rfl, by simp, fun h => absurd h (Nat.lt_irrefl 0)⟩
 ·rw [if_neg e]; exact ⟨_, c - s.1, by rw [hlen], by omega, hC⟩
theorem prove_ret2 {R : Ending → World → Prop} {w1 : World} {g : Nat} {u1 u2 : Value} (N : Blk w1 g 78 #[u1, u2]) (tmps : Array Value) (er : Int) (v1 v2 : Value) (hp : tmps.getD 6 undef = .pointer (some ⟨g, 0, none⟩)) (hv : tmps.getD 7 undef = .int .i64 er)
  (h : R (.returned (.tuple #[.agg #[v1, v2], .int .i64 er])) ((w1.setCell ⟨g, 0, none⟩ v1).setCell ⟨g, 1, none⟩ v2)) :
  bodyPost Tryd.prog Tryd.f58 R .ret { tmps := tmps, defers := [] } ((w1.setCell ⟨g, 0, none⟩ v1).setCell ⟨g, 1, none⟩ v2) := by
 have N2 := (N.set_ 0 v1).set_ 1 v2; exact bodyPost_ret (results_row_tmp rfl _ _ g 78 #[v1, v2] (0, 0) _ hp N2 Tryd.underlying78 rfl (by kernel_rfl) _ hv) rfl h
theorem befR_eq (es : List E) (a0 : Nat) : befR es a0 = (List.range 8).map fun n => cutL (labs (pr n es)) (befS es a0 n) := List.map_congr_left (fun _ _ => rfl)
theorem aftR_eq (es : List E) (a0 : Nat) : aftR es a0 = (List.range 8).map fun n => cutL (labs (pr n es)) (aftS es a0 n) := List.map_congr_left (fun _ _ => rfl)
theorem befS_ok (r : List E) (a0 : Nat) (h0 : a0 < (pr 0 (head :: r)).length) (i : Nat) (hi : i < 8) : (befS (head :: r) a0 i).1 ≤ (befS (head :: r) a0 i).2 ∧ (befS (head :: r) a0 i).2 ≤ (rowF (lab i) i (head :: r)).length := by
 have h1 := at_lt r a0 h0 i (by omega); have h2 := (from_spec (i + 1) (pr i (head :: r)) (by rw [pr_head r i (by omega)]; omega) (atN (head :: r) a0 i)).1; rw [← pr_len]; exact ⟨h2, by show atN (head :: r) a0 i ≤ _; omega⟩
theorem aftS_ok (r : List E) (a0 : Nat) (h0 : a0 < (pr 0 (head :: r)).length) (i : Nat) (hi : i < 8) : (aftS (head :: r) a0 i).1 ≤ (aftS (head :: r) a0 i).2 ∧ (aftS (head :: r) a0 i).2 ≤ (rowF (lab i) i (head :: r)).length := by
 have h1 := at_lt r a0 h0 i (by omega); obtain ⟨q1, q2, _, _⟩ := to_spec (i + 1) (pr i (head :: r)) ((pr i (head :: r)).length - (atN (head :: r) a0 i + 1)) (atN (head :: r) a0 i + 1) (by omega); rw [← pr_len]; exact ⟨q1, q2⟩
theorem outs_reads {W : World} {base : Nat} {es : List E} {A : Option Addr} {c : Nat} (f : Nat → Nat × Nat) (vs : List Value)
  (hv : ∀ i, i < 8 → ∃ g d N, N = (rowF (lab i) i es).length ∧ N ≤ d ∧ W.ownsRow base 9 1 (.slice (some ⟨g, 0, none⟩) N d) N (strV (rowF (lab i) i es)) ∧ vs[i]? = some (segW g d (f i)))
  (hf : ∀ i, i < 8 → (f i).1 ≤ (f i).2 ∧ (f i).2 ≤ (rowF (lab i) i es).length) (ho : W.ownsRow base 49 1 (.slice A 8 c) 8 vs) :
  Kd.C (Kd.slice 9 Kd.string) W A 8 ((List.range 8).map fun i => cutL (labs (pr i es)) (f i)) ∧ 8 ≤ c := by
 obtain ⟨g, cap, e, hcap⟩ := own_form ho (by decide); cases e; refine ⟨⟨by simp, by decide, fun _ => ⟨_, rfl, fun i p hp => ?_⟩⟩, hcap⟩
 have hi : i < 8 := by have := (List.getElem?_eq_some_iff.1 hp).1; simpa using this
 have hp2 : p = cutL (labs (pr i es)) (f i) := by
  rw [List.getElem?_map, List.getElem?_range hi] at hp; exact (Option.some.inj hp).symm
 subst hp2; obtain ⟨g', d, N, q1, q2, q3, q4⟩ := hv i hi; obtain ⟨f1, f2⟩ := hf i hi; obtain ⟨B, b, r1, r2, r3⟩ := segW_reads q3 q2 (f i) f1 (by omega); rw [← labs_pr] at r1 r2 r3; refine ⟨[.slice B (cutL (labs (pr i es)) (f i)).length b], rfl, ⟨B, b, rfl, r2, r3⟩, fun n u hu => ?_⟩
 cases n with
 | succ n => simp at hu
 | zero =>
  obtain rfl := Option.some.inj hu; rw [r1] at q4; have hc := ho.cells rfl i _ q4; rw [show i * (Kd.slice 9 Kd.string).sz + 0 = i from by show i * 1 + 0 = i; omega]; exact hc
theorem outs_bef {W : World} {base : Nat} {es : List E} {a0 : Nat} {bs xs2 : List Value} {A : Option Addr} {c : Nat} (o : Outs base es a0 8 bs xs2 W) (fb : ∀ n, n < 8 → (befS es a0 n).1 ≤ (befS es a0 n).2 ∧ (befS es a0 n).2 ≤ (rowF (lab n) n es).length) (ho : W.ownsRow base 49 1 (.slice A 8 c) 8 bs) :
  Kd.C (Kd.slice 9 Kd.string) W A 8 (befR es a0) ∧ 8 ≤ c := by
 rw [befR_eq]
 exact outs_reads (befS es a0) bs (fun n hn => by
  obtain ⟨q0, q1, q2, q3, q4, q5, q6, _⟩ := o.row n hn
  exact ⟨q0, q1, q2, q3, q4, q5, q6⟩) fb ho
theorem outs_aft {W : World} {base : Nat} {es : List E} {a0 : Nat} {bs xs2 : List Value} {A : Option Addr} {c : Nat} (o : Outs base es a0 8 bs xs2 W) (fa : ∀ n, n < 8 → (aftS es a0 n).1 ≤ (aftS es a0 n).2 ∧ (aftS es a0 n).2 ≤ (rowF (lab n) n es).length) (ho : W.ownsRow base 49 1 (.slice A 8 c) 8 xs2) :
  Kd.C (Kd.slice 9 Kd.string) W A 8 (aftR es a0) ∧ 8 ≤ c := by
 rw [aftR_eq]
 exact outs_reads (aftS es a0) xs2 (fun n hn => by
  obtain ⟨q0, q1, q2, q3, q4, q5, _, q6⟩ := o.row n hn
  exact ⟨q0, q1, q2, q3, q4, q5, q6⟩) fa ho
end Go.Proofs.YtolbhliepkcihaaDoor.Lab
end
