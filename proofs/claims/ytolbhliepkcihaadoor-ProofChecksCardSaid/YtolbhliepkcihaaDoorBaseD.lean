/- Joined by a program of this session (wip/pack.py) for this claim: QMTx0, QMTx1, MacPure, MacStub2. -/
import Derived.Test.YtolbhliepkcihaaDoorProg
import Derived.Below
import Derived.Deep.Draws
import Derived.Deep.AppendLies
import Derived.Maps.AppendAt
import Derived.OwnWalk
import Derived.Laws.BytesArg
import Derived.Laws.MakeOwn
import Derived.Laws.OwnMore
import Derived.Deep.OwnRows
import Derived.Tactics
import Derived.Lib.ConvBytes
import Derived.Laws.Slices
import Derived.WalkKit
import Derived.KernelRfl
import Derived.RowKit3
import Derived.Deep.LoopGhost
import Derived.Deep.QuietTactic
import Derived.BigQuiet
import Derived.WideLaws
import Derived.Deep.DeepCutAuto
import Derived.Deep.CutBlock
import Derived.Deep.RegionHeld3
import Derived.Laws.Rows
import Derived.Lib.AppendStr
import Derived.ArgAppend
import Derived.Laws.IdiomCopy
import Derived.OrdersHeld
import Derived.Laws.BitsLemmas
import Derived.RowKit
import Derived.Test.YtolbhliepkcihaaDoorBaseC
import Derived.Test.YtolbhliepkcihaaDoorPWa
section
namespace Go.Proofs.YtolbhliepkcihaaDoor.QMT
open Go.RowKit YtolbhliepkcihaaDoorW.PrintWords YtolbhliepkcihaaDoorW.PrintLast YtolbhliepkcihaaDoorW.PrintMore
attribute [local go_sem] max2_int min2_int max_two min_two max_three min_three max_four min_four   -- for this text's walks alone
set_option linter.unusedVariables false
set_option linter.unusedSimpArgs false
end Go.Proofs.YtolbhliepkcihaaDoor.QMT
end
section
namespace Go.Proofs.YtolbhliepkcihaaDoor.QMT
open Go.RowKit YtolbhliepkcihaaDoorW.PrintWords YtolbhliepkcihaaDoorW.PrintLast YtolbhliepkcihaaDoorW.PrintMore
attribute [local go_sem] max2_int min2_int max_two min_two max_three min_three max_four min_four   -- for this text's walks alone
set_option linter.unusedVariables false
set_option linter.unusedSimpArgs false
/-! ### mac_Tag: function 95 -/
def mac_Tag.f (a0 : ByteArray) (a1 : ByteArray) : Option (ByteArray) := (mac_keys.f a0).bind fun bt101 => ((mac_of.f (([bt101.1, a1] : List ByteArray))).bind fun t106 => ((mac_of.f (([bt101.2, t106] : List ByteArray))).bind fun t110 => (some t110)))
set_option maxHeartbeats 8000000 in
set_option maxRecDepth 100000 in
theorem mac_Tag.calls (a0 : ByteArray) (a1 : ByteArray) (r : ByteArray) (w : World) (h : mac_Tag.f a0 a1 = some r) :
  Calls Tryd.prog 95 #[.string a0, .string a1] w fun e w' => e = .returned (.string r) ∧ Below w.heap.size w w' := by
 have HB := qf (Below.refl w.heap.size w)
 have H : ((mac_keys.f a0).bind fun bt101 => ((mac_of.f (([bt101.1, a1] : List ByteArray))).bind fun t106 => ((mac_of.f (([bt101.2, t106] : List ByteArray))).bind fun t110 => (some t110)))) = some r := h
 clear h
 replace H := qi H
 obtain ⟨⟨t101, t102⟩, A30, H⟩ := H
 (try dsimp only at H)
 have A3 := qf A30
 clear A30
 obtain ⟨y103, hy103⟩ : ∃ y_ : List ByteArray, y_ = (([t101, a1] : List ByteArray)) := ⟨_, rfl⟩
 replace H : ((mac_of.f y103).bind fun t106 => ((mac_of.f (([t102, t106] : List ByteArray))).bind fun t110 => (some t110))) = some r := by first | (rw [hy103]; with_reducible exact H) | (have H2_ := (qv _ _).symm.trans H; rw [hy103]; with_reducible exact H2_) | (have H2_ := (qv _ _).symm.trans H; with_reducible exact H2_) | with_reducible exact H | (rw [hy103]; exact H) | exact H
 have Ny103 := qf hy103
 clear hy103
 replace H := qi H
 obtain ⟨t106, A40, H⟩ := H
 (try dsimp only at H)
 have A4 := qf A40
 clear A40
 obtain ⟨y107, hy107⟩ : ∃ y_ : List ByteArray, y_ = (([t102, t106] : List ByteArray)) := ⟨_, rfl⟩
 replace H : ((mac_of.f y107).bind fun t110 => (some t110)) = some r := by first | (rw [hy107]; with_reducible exact H) | (have H2_ := (qv _ _).symm.trans H; rw [hy107]; with_reducible exact H2_) | (have H2_ := (qv _ _).symm.trans H; with_reducible exact H2_) | with_reducible exact H | (rw [hy107]; exact H) | exact H
 have Ny107 := qf hy107
 clear hy107
 replace H := qi H
 obtain ⟨t110, A50, H⟩ := H
 (try dsimp only at H)
 have A5 := qf A50
 clear A50
 obtain rfl := Option.some.inj H
 go_enter Tryd.func95, Tryd.ntmps95
 go_wp2_with (first | ((with_reducible refine gate_callee (f := 124) rfl ?_); refine goesL_ (some 9) rfl rfl Tryd.func124 (by kernel_rfl) rfl #[.string a0] rfl (by (try simp only [List.map_toArray, List.map_cons, List.map_nil]); first | done | rfl | (simp only [List.length_drop, qw]; rfl)) ?_; (with_reducible refine (mac_keys.calls a0 t101 t102 _ A3.out).mono ?_); rintro e w6 ⟨rfl, hb⟩; refine ⟨_, rfl, ?_⟩; have n0_ := qf (below_step (by repeat (first | (with_reducible first | exact HB.out | apply qa | apply qb | apply qc) | exact HB.out)) hb); clear HB; have HB := n0_; clear n0_; (try clear hb); (try clear hb2); (try clear hk); (try clear hi)) | ((with_reducible refine gate_dst (N := 15) rfl ?_); refine Kd.R_lit Kd.string _ 9 ?hg (N := 15) ?hd (xs := ([t101, a1] : List ByteArray)) (inner := [.string t101, .string a1]) (ok := fun _ => True) (okp := fun _ => True) ?hr ?hp (fun _ hk => hk) trivial (Below.refl _ _) (Nat.le_refl _) (by simp) ?_; (case hd => rfl); (case hg => rfl); (case hr => first | (go_simp; done) | (go_simp; rfl)); (case hp => exact (Reps.one (show Kd.M Kd.string _ _ _ t101 [.string t101] from rfl) (Reps.one (show Kd.M Kd.string _ _ _ a1 [.string a1] from rfl) (Reps.none _ _)))); intro v104 w7 ho8 hb hg_ hnew_; clear hg_ hnew_; (first | rw [← Ny103.out] at ho8 | (simp only [Int.reduceToNat] at ho8; rw [← Ny103.out] at ho8)); have n0_ := qf (Kd.R_lower ho8 (below_size (by repeat (first | (with_reducible first | exact HB.out | apply qa | apply qb | apply qc) | exact HB.out)))); have n1_ := qf (below_step (by repeat (first | (with_reducible first | exact HB.out | apply qa | apply qb | apply qc) | exact HB.out)) hb); clear HB; have HO105 := n0_; have HB := n1_; clear n0_ n1_; clear hb ho8; obtain ⟨Ao9, co9, eo9⟩ := Kd.R_slice HO105.out; subst eo9) | ((with_reducible refine gate_callee (f := 125) rfl ?_); refine goesL_ (some 16) rfl rfl Tryd.func125 (by kernel_rfl) rfl #[.slice Ao9 y103.length co9] rfl (by (try simp only [List.map_toArray, List.map_cons, List.map_nil]); first | done | rfl | (simp only [List.length_drop, qw]; rfl)) ?_; (refine (mac_of_own (by (with_reducible repeat (first | apply Kd.R_alloc | apply Kd.R_drewN | apply Kd.R_drew)); exact HO105.out) A4.out).mono ?_); rintro e w10 ⟨rfl, hb⟩; refine ⟨_, rfl, ?_⟩; have n0_ := qf (Kd.R_below (by (with_reducible repeat (first | apply Kd.R_alloc | apply Kd.R_drewN | apply Kd.R_drew)); exact HO105.out) hb); have n1_ := qf (below_step (by repeat (first | (with_reducible first | exact HB.out | apply qa | apply qb | apply qc) | exact HB.out)) hb); clear HO105; clear HB; have HO105 := n0_; have HB := n1_; clear n0_ n1_; (try clear hb); (try clear hb2); (try clear hk); (try clear hi)) | ((with_reducible refine gate_dst (N := 17) rfl ?_); refine Kd.R_lit Kd.string _ 9 ?hg (N := 17) ?hd (xs := ([t102, t106] : List ByteArray)) (inner := [.string t102, .string t106]) (ok := fun _ => True) (okp := fun _ => True) ?hr ?hp (fun _ hk => hk) trivial (Below.refl _ _) (Nat.le_refl _) (by simp) ?_; (case hd => rfl); (case hg => rfl); (case hr => first | (go_simp; done) | (go_simp; rfl)); (case hp => exact (Reps.one (show Kd.M Kd.string _ _ _ t102 [.string t102] from rfl) (Reps.one (show Kd.M Kd.string _ _ _ t106 [.string t106] from rfl) (Reps.none _ _)))); intro v108 w11 ho12 hb hg_ hnew_; clear hg_ hnew_; (first | rw [← Ny107.out] at ho12 | (simp only [Int.reduceToNat] at ho12; rw [← Ny107.out] at ho12)); have n0_ := qf (Kd.R_elder' (by (with_reducible repeat (first | apply Kd.R_alloc | apply Kd.R_drewN | apply Kd.R_drew)); exact HO105.out) (Kd.R_base ho12) hb); have n1_ := qf (Kd.R_lower (Kd.R_new' ho12 (Kd.R_lt (by (with_reducible repeat (first | apply Kd.R_alloc | apply Kd.R_drewN | apply Kd.R_drew)); exact HO105.out))) (below_size (by repeat (first | (with_reducible first | exact HB.out | apply qa | apply qb | apply qc) | exact HB.out)))); have n2_ := qf (below_step (by repeat (first | (with_reducible first | exact HB.out | apply qa | apply qb | apply qc) | exact HB.out)) hb); clear HO105; clear HB; have HO105 := n0_; have HO109 := n1_; have HB := n2_; clear n0_ n1_ n2_; clear hb ho12; obtain ⟨Ao13, co13, eo13⟩ := Kd.R_slice HO109.out; subst eo13) | ((with_reducible refine gate_callee (f := 125) rfl ?_); refine goesL_ (some 18) rfl rfl Tryd.func125 (by kernel_rfl) rfl #[.slice Ao13 y107.length co13] rfl (by (try simp only [List.map_toArray, List.map_cons, List.map_nil]); first | done | rfl | (simp only [List.length_drop, qw]; rfl)) ?_; (refine (mac_of_own (by (with_reducible repeat (first | apply Kd.R_alloc | apply Kd.R_drewN | apply Kd.R_drew)); exact HO109.out) A5.out).mono ?_); rintro e w14 ⟨rfl, hb⟩; refine ⟨_, rfl, ?_⟩; have n0_ := qf (Kd.R_below (by (with_reducible repeat (first | apply Kd.R_alloc | apply Kd.R_drewN | apply Kd.R_drew)); exact HO105.out) hb); have n1_ := qf (Kd.R_below (by (with_reducible repeat (first | apply Kd.R_alloc | apply Kd.R_drewN | apply Kd.R_drew)); exact HO109.out) hb); have n2_ := qf (below_step (by repeat (first | (with_reducible first | exact HB.out | apply qa | apply qb | apply qc) | exact HB.out)) hb); clear HO105; clear HO109; clear HB; have HO105 := n0_; have HO109 := n1_; have HB := n2_; clear n0_ n1_ n2_; (try clear hb); (try clear hb2); (try clear hk); (try clear hi)))
 go_ret
 exact ⟨by first | rfl | (simp [errW_none, errW_some] <;> rfl) | (simp [*, errW_none, errW_some] <;> rfl), by repeat (first | (with_reducible first | exact HB.out | apply qa | apply qb | apply qc) | exact HB.out)⟩
/-! ### saltusref04_fitted: function 126 -/
mutual
def saltusref04_fitted.j0 : Nat → ByteArray → Option (ByteArray)
 | 0, _ => none
 | k + 1, x0 => saltusref04_fitted.l0 k x0
def saltusref04_fitted.l0 : Nat → ByteArray → Option (ByteArray)
 | 0, _ => none
 | k + 1, x0 => if (x0.size : Int) < 64 then ((some (([0] : List Int) : List Int)).bind fun y112 => (if x0.size + (strOfNums y112).size ≤ 9223372036854775807 then (saltusref04_fitted.l0 k (x0 ++ (strOfNums y112))) else (none))) else (some x0)
end
def saltusref04_fitted.f (k : Nat) (a0 : ByteArray) : Option (ByteArray) := if (a0.size : Int) > 64 then ((saltusref03_Sum.f a0).bind fun t111 => (saltusref04_fitted.j0 k t111)) else (saltusref04_fitted.j0 k a0)
/-! ### saltusref04_with: function 127 -/
def saltusref04_with.l0 : Nat → ByteArray → Int → ByteArray → Int → Option (ByteArray)
 | 0, _, _, _, _ => none
 | k + 1, x0, x1, x5, x6 => if x6 < (x0.size : Int) then (if 0 ≤ x6 then ((some (([Go.bits .xor .u8 (bt x0 x6) x1] : List Int) : List Int)).bind fun y115 => (if x5.size + (strOfNums y115).size ≤ 9223372036854775807 then (saltusref04_with.l0 k x0 x1 (x5 ++ (strOfNums y115)) (wrap64 (x6 + 1))) else (none))) else (none)) else (some x5)
def saltusref04_with.f (k : Nat) (a0 : ByteArray) (a1 : Int) : Option (ByteArray) := saltusref04_with.l0 k a0 a1 (⟨#[]⟩ : ByteArray) 0
/-! ### saltusref04_Tag: function 98 -/
def saltusref04_Tag.f (k : Nat) (a0 : ByteArray) (a1 : ByteArray) : Option (ByteArray) := (saltusref04_fitted.f k a0).bind fun t118 => ((saltusref04_with.f k t118 92).bind fun t119 => ((saltusref04_with.f k t118 54).bind fun t120 => (if t120.size + a1.size ≤ 9223372036854775807 then ((saltusref03_Sum.f (t120 ++ a1)).bind fun t121 => (if t119.size + t121.size ≤ 9223372036854775807 then ((saltusref03_Sum.f (t119 ++ t121)).bind fun t122 => (some t122)) else (none))) else (none))))
end Go.Proofs.YtolbhliepkcihaaDoor.QMT
end
section
namespace Go.Proofs.YtolbhliepkcihaaDoor.MacPure
open Go.RowKit QMT YtolbhliepkcihaaDoorW.PrintWords YtolbhliepkcihaaDoorW.PrintLast YtolbhliepkcihaaDoorW.PrintMore Sha Mac
theorem of_two (a b : ByteArray) (h : a.size + b.size ≤ 1099511627776) : mac_of.f [a, b] = some (sumS (a ++ b)) := if_pos h
theorem tag_f (key s : ByteArray) (hk : key.size ≤ 1000000000) (hs : s.size ≤ 1000000000) : mac_Tag.f key s = some (tagS key s) := by
 have h1 : mac_keys.f key = some (xorS (fitS key) 54, xorS (fitS key) 92) := if_pos (by omega)
 have z1 := xor_size (fitS key) 54
 have z2 := xor_size (fitS key) 92
 have h2 : mac_of.f [xorS (fitS key) 54, s] = some (sumS (xorS (fitS key) 54 ++ s)) := if_pos (by omega)
 have h3 : mac_of.f [xorS (fitS key) 92, sumS (xorS (fitS key) 54 ++ s)] = some (sumS (xorS (fitS key) 92 ++ sumS (xorS (fitS key) 54 ++ s))) := of_two _ _ (by rw [sumS_size]; omega)
 unfold mac_Tag.f
 rw [h1]
 simp only [qv]
 rw [h2]
 simp only [qv]
 rw [h3]
 rfl
end Go.Proofs.YtolbhliepkcihaaDoor.MacPure
end
section
namespace Go.Proofs.YtolbhliepkcihaaDoor
open Go.RowKit YtolbhliepkcihaaDoorW.PrintWords YtolbhliepkcihaaDoorW.PrintLast YtolbhliepkcihaaDoorW.PrintMore Sha Mac MacPure
def mac_Tag.f (a0 a1 : ByteArray) : Option ByteArray := if a0.size ≤ 1000000000 ∧ a1.size ≤ 1000000000 then some (tagS a0 a1) else none
theorem mac_Tag.calls (a0 a1 : ByteArray) (r : ByteArray) (w : World) (h : mac_Tag.f a0 a1 = some r) :
  Calls Tryd.prog 95 #[.string a0, .string a1] w fun e w' => e = .returned (.string r) ∧ Below w.heap.size w w' := by
 unfold mac_Tag.f at h
 split at h
 ·rename_i hc
  obtain rfl := Option.some.inj h
  exact QMT.mac_Tag.calls a0 a1 _ w (tag_f a0 a1 hc.1 hc.2)
 ·cases h
def saltusref04_Tag.f (a0 a1 : ByteArray) : Option ByteArray := if a0.size ≤ 1000000000 ∧ a1.size ≤ 1000000000 then some (tagS a0 a1) else none
end Go.Proofs.YtolbhliepkcihaaDoor
end
