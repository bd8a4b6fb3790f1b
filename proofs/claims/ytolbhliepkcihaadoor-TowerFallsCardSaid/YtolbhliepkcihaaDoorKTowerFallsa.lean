/- Joined by a program of this session (wip/pack.py) for this claim: Laid, ItemRow, QTHx0, QTHx1, TowerUp, TowerUpStub, QTWx0, QTWx1, QTWx3, QTWx2, TowerPure, TowerFall. -/
import Derived.Test.YtolbhliepkcihaaDoorRows
import Derived.Test.YtolbhliepkcihaaDoorBaseH
import Derived.ProofKit
import Derived.LaidMore
import Derived.OpenShut
import Derived.Stop.Joined
import Derived.Deep.Slices
import Derived.ChangeSame
import Derived.Test.YtolbhliepkcihaaDoorProg
import Derived.Below
import Derived.Deep.Draws
import Derived.Deep.AppendLies
import Derived.Maps.AppendAt
import Derived.OwnWalk
import Derived.Laws.BytesArg
import Derived.Laws.MakeOwn
import Derived.Laws.OwnMore
import Derived.Deep.OwnRows
import Derived.Tactics
import Derived.Lib.ConvBytes
import Derived.Laws.Slices
import Derived.WalkKit
import Derived.KernelRfl
import Derived.RowKit3
import Derived.Deep.LoopGhost
import Derived.Deep.QuietTactic
import Derived.BigQuiet
import Derived.WideLaws
import Derived.Deep.DeepCutAuto
import Derived.Deep.CutBlock
import Derived.Deep.RegionHeld3
import Derived.Laws.Rows
import Derived.Lib.AppendStr
import Derived.ArgAppend
import Derived.Laws.IdiomCopy
import Derived.OrdersHeld
import Derived.Laws.BitsLemmas
import Derived.RowKit
import Derived.Test.YtolbhliepkcihaaDoorPWa
import Derived.RangeFuncNested
import Derived.RangeFuncBound
import Derived.RangeFuncCalls
import Derived.RangeFuncLeaves
import Derived.Shelf.Abstract
import Derived.Shelf.RegionOpen
import Derived.OwnWalkIn
import Derived.TacticsInMore
import Derived.LoopNIn
import Derived.LoopIn
import Derived.RangeFuncBox
import Derived.Outline
section
namespace Go.Proofs.YtolbhliepkcihaaDoor
open Go.ChangeShapes Go.WideShapes Go.ChangeAt Go.RowKit
def laidL : List (String × DataW Unit) := [("math/bits.deBruijn64tab", Rows.laid_math_bits_deBruijn64tab)]
theorem gTab : Tryd.prog.globalNamed "math/bits.deBruijn64tab" = some 0 := by kernel_rfl
theorem tTab : (Tryd.prog.globals[0]?).map (·.type) = some 125 := by kernel_rfl
theorem door_met (os : Os) (args : Array Value) : laidMetH Tryd.prog laidL ((World.doorLaid Tryd.prog 14 os).forCall (fun _ _ => 0) ⟨#[], args, []⟩).memory :=
 laidMetH_of_parts3 (fuel := 8) (laidMet_of_run' 8 (by kernel_rfl) (by kernel_rfl)) (by kernel_rfl) (by kernel_rfl)
theorem tab_datum : (Rows.laid_math_bits_deBruijn64tab : DataW Unit) = .agg (Lib.deBruijn64tab.map fun n : Nat => .lit (.int .u8 (n : Int))) := rfl
theorem of_laid {W : World} (h : laidMetH Tryd.prog laidL W) : Tower.TabW W := by
 rw [MakeChecks.laidMetH_plain _ _ _ (by kernel_rfl)] at h
 obtain ⟨ps, ⟨g0, t0, cs0, f0, p0, q0, hg0, ht0, hv0, hd0, _, _⟩, _, _⟩ := h
 obtain rfl := Option.some.inj (gTab.symm.trans hg0)
 obtain rfl := Option.some.inj (tTab.symm.trans ht0)
 obtain ⟨xs, m1, rfl, hx1, hlen, hn3, hel⟩ := DataW.trod_array Tryd.underlying125 hd0
 simp only [Prod.mk.injEq] at hx1
 have c5 : Tryd.prog.cellsOf 5 = 1 := by kernel_rfl
 have hl := hx1.1
 rw [tab_datum] at hl
 injection hl with hl
 intro j hj
 have hxj : xs[j]? = some (xs[j]'(by omega)) := List.getElem?_eq_getElem (by omega)
 have h1 := congrArg (·[j]?) hl
 simp only [List.getElem?_map, hxj, Option.map_some] at h1
 have ht : Lib.deBruijn64tab[j]? = some (Lib.deBruijn64tab.getD j 0) := by
  have hz : Lib.deBruijn64tab.length = 64 := rfl
  rw [List.getD_eq_getElem?_getD, List.getElem?_eq_getElem (by omega)]
  rfl
 rw [ht, Option.map_some] at h1
 generalize Lib.deBruijn64tab.getD j 0 = tv at *
 clear ht hl hlen
 have h2 := Option.some.inj h1
 obtain ⟨k, e1, e2, _⟩ := DataW.trod_int Tryd.underlying5 ((hel j hj).trans hxj)
 rw [e2] at h2
 have h2 : (tv : Int) = k := by
  clear hx1 hd0 hel h1 hxj e1
  simpa using h2
 subst h2
 rw [c5, Nat.mul_one] at e1
 have h3 := World.var?_cell hg0 hv0 j
 rw [h3]
 have h4 : (List.take 1 (List.drop j cs0.toList))[0]? = some (Value.int .u8 (tv : Int)) := by rw [e1]; rfl
 rw [List.getElem?_take, if_pos (by decide), List.getElem?_drop] at h4
 simpa using h4
end Go.Proofs.YtolbhliepkcihaaDoor
end
section
namespace Go.Proofs.YtolbhliepkcihaaDoor
open Go.ChangeShapes Go.WideShapes Go.Deep Go.RowKit Go.Proofs.YtolbhliepkcihaaDoor.Kinds Go.Proofs.YtolbhliepkcihaaDoorW.PrintWords
theorem u64_wf {n : Int} (h : (Lit.int .u64 n).wf = true) : 0 ≤ n ∧ n ≤ 18446744073709551615 := by simpa [Lit.wf, IntKind.min, IntKind.max, IntKind.signed, IntKind.bits] using h
theorem row_u64s {H : Type} {enc : TypeId × Value → H} {W : World} {base : Nat} {spare : Nat → Bool} {held : Bool} {fuel : Nat} {A : Option Addr} {len cap : Nat} {x : DataW H × List MemPlace}
  (h : DataW.trod enc Tryd.prog W base spare held fuel 23 (Value.cells (.slice A len cap)).toList = some x) :
  ∃ l : List Int, l.length = len ∧ len ≤ cap ∧ Kd.C (Kd.int .u64) W A l.length l ∧ ∀ y, y ∈ l → 0 ≤ y ∧ y ≤ 18446744073709551615 := by
 rcases open_ints Tryd.underlying23 Tryd.underlying22 (by kernel_rfl) h with ⟨hcs, _⟩ | ⟨a, len', cap', zs, hcs, _, hl, hm, hz, _, hcell, hwz⟩
 ·simp [Value.cells] at hcs
  obtain ⟨rfl, rfl, rfl⟩ := hcs
  exact ⟨[], rfl, Nat.le_refl _, Kd.C_nil _ _, fun y hy => by cases hy⟩
 ·simp [Value.cells] at hcs
  obtain ⟨rfl, rfl, rfl⟩ := hcs
  have hls : len ≤ zs.length := by
   rw [hz]
   split
   ·exact hl
   ·exact Nat.le_refl _
  have h1 : (zs.take len).length = len := by rw [List.length_take]; omega
  unfold maxLen at hm
  refine ⟨zs.take len, h1, hl, ?_, fun y hy => u64_wf (hwz y (List.mem_of_mem_take hy))⟩
  rw [h1]
  refine ⟨h1, by omega, fun _ => ⟨a, rfl, fun j p hj => ⟨[.int .u64 p], rfl, rfl, fun i u hu => ?_⟩⟩⟩
  have hjl : j < len := by
   have := (List.getElem?_eq_some_iff.1 hj).1
   omega
  match i, hu with
  | 0, hu =>
   have hu : Value.int .u64 p = u := by simpa using hu
   subst hu
   rw [List.getElem?_take, if_pos hjl] at hj
   have h2 := hcell j (by omega)
   rw [List.getD_eq_getElem?_getD, hj] at h2
   show W.cell? (a.add (j * 1 + 0)) = _
   rw [Nat.mul_one, Nat.add_zero]
   exact h2
end Go.Proofs.YtolbhliepkcihaaDoor
end
section
namespace Go.Proofs.YtolbhliepkcihaaDoor.QTH
open Go.RowKit Go.Proofs.YtolbhliepkcihaaDoor.Kinds Go.Proofs.YtolbhliepkcihaaDoorW.PrintWords Go.Proofs.YtolbhliepkcihaaDoorW.PrintLast Go.Proofs.YtolbhliepkcihaaDoorW.PrintMore
attribute [local go_sem] max2_int min2_int max_two min_two max_three min_three max_four min_four   -- for this text's walks alone
set_option linter.unusedVariables false
set_option linter.unusedSimpArgs false
def errW : Option Int → Value
 | none => .nilIface
 | some c => .iface 0 (.int .i64 c)
theorem errW_none : errW none = .nilIface := rfl
theorem errW_some (c : Int) : errW (some c) = .iface 0 (.int .i64 c) := rfl
theorem info3 : (Tryd.prog.info? 3).map (fun i => (i.zero, i.size, i.bytes)) = some (some (.int .i64 0), 1, 8) := by kernel_rfl
end Go.Proofs.YtolbhliepkcihaaDoor.QTH
end
section
namespace Go.Proofs.YtolbhliepkcihaaDoor.QTH
open Go.RowKit Go.Proofs.YtolbhliepkcihaaDoor.Kinds Go.Proofs.YtolbhliepkcihaaDoorW.PrintWords Go.Proofs.YtolbhliepkcihaaDoorW.PrintLast Go.Proofs.YtolbhliepkcihaaDoorW.PrintMore
attribute [local go_sem] max2_int min2_int max_two min_two max_three min_three max_four min_four   -- for this text's walks alone
set_option linter.unusedVariables false
set_option linter.unusedSimpArgs false
/-! ### tower_Heights: function 20 -/
def tower_Heights.l0 : Nat → ByteArray → List Int → List Int → Int → Int → Option (List Int)
 | 0, _, _, _, _, _ => none
 | k + 1, x0, x5, x8, x9, x10 => if x10 < x9 then (if 0 ≤ x10 then (if x10 < (x8.length : Int) then ((tower_Height.f x0 (rd x8 x10)).bind fun t102 => (if x5.length < 17592186044416 then (tower_Heights.l0 k x0 (x5 ++ [t102]) x8 x9 (wrap64 (x10 + 1))) else (none))) else (none)) else (none)) else (some x5)
def tower_Heights.f (k : Nat) (a0 : ByteArray) (l1 : List Int) : Option (List Int) := tower_Heights.l0 k a0 ([] : List Int) l1 (l1.length : Int) 0
theorem tower_Heights.mono_l : ∀ k, (∀ y0 y1 y2 y3 y4, LeO (tower_Heights.l0 k y0 y1 y2 y3 y4) (tower_Heights.l0 (k + 1) y0 y1 y2 y3 y4))
 | 0 => fun _ _ _ _ _ r h => by simp [tower_Heights.l0] at h
 | k + 1 => by
  have ih0 := tower_Heights.mono_l k
  ·intro y0 y1 y2 y3 y4
   unfold tower_Heights.l0
   repeat' first
   | (with_reducible exact ih0 _ _ _ _ _)
   | (with_reducible exact LeO.refl _)
   | (with_reducible exact LeO.none _)
   | (with_reducible refine LeO.ite ?_ ?_)
   | (with_reducible refine LeO.bind ?_ (fun _ => ?_))
   | exact ih0 _ _ _ _ _
   | exact LeO.none _
   | refine LeO.ite ?_ ?_
   | refine LeO.bind ?_ (fun _ => ?_)
theorem tower_Heights.mono : ∀ a0 a1 k, LeO (tower_Heights.f k a0 a1) (tower_Heights.f (k + 1) a0 a1) := by
 intro a0 a1 k
 have ih0 := tower_Heights.mono_l k
 unfold tower_Heights.f
 repeat' first
   | (with_reducible exact ih0 _ _ _ _ _)
   | (with_reducible exact LeO.refl _)
   | (with_reducible exact LeO.none _)
   | (with_reducible refine LeO.ite ?_ ?_)
   | (with_reducible refine LeO.bind ?_ (fun _ => ?_))
   | exact ih0 _ _ _ _ _
   | exact LeO.none _
   | refine LeO.ite ?_ ?_
   | refine LeO.bind ?_ (fun _ => ?_)
set_option maxHeartbeats 8000000 in
set_option maxRecDepth 100000 in
theorem tower_Heights.calls (k : Nat) (a0 : ByteArray) (A1 : Option Addr) (c1 : Nat) (l1 : List Int) (r : List Int) (w : World) (hr1 : Kd.C (Kd.int .u64) w A1 l1.length l1) (hc1 : l1.length ≤ c1) (h : tower_Heights.f k a0 l1 = some r) (hT0 : Tower.TabW w) :
  Calls Tryd.prog 20 #[.string a0, .slice A1 l1.length c1] w fun e w' => ∃ v0_ : Value, e = .returned (v0_) ∧ Kd.R (Kd.int .i64) 3 w' w.heap.size (fun _ => True) v0_ r ∧ Below w.heap.size w w' := by
 have HT := Aside0.mk hT0
 clear hT0
 have HR1 := Aside0.mk hr1
 have HC1 := Aside0.mk hc1
 clear hr1 hc1
 have HB := Aside0.mk (Below.refl w.heap.size w)
 have H : (tower_Heights.l0 k a0 ([] : List Int) l1 (l1.length : Int) 0) = some r := h
 clear h
 have H' := Aside0.mk H
 clear H
 go_enter Tryd.func20, Tryd.ntmps20
 go_wp2
 go_loopg [5, 10] k (fun kq v5 v10 w' => ∃ (x5_1 : List Int) (x10_1 : Int), v10 = .int .i64 x10_1 ∧ Aside0 (tower_Heights.l0 kq a0 x5_1 l1 (l1.length : Int) x10_1 = some r) ∧ Aside0 (kq ≤ k) ∧ Aside0 (Kd.R (Kd.int .i64) 3 w' w.heap.size (fun _ => True) v5 x5_1) ∧ Aside0 (Below w.heap.size w w'))
 case atStart => exact ⟨(([] : List Int)), (0), (by first | rfl | (simp; done) | (simp [*]; done)), H', ⟨Nat.le_refl _⟩, ⟨by first | exact Kd.R_nil _ _ _ _ _ | exact Kd.N_nil _ _ _ _ _ | exact Kd.V_nil _ _ _ _ _ | exact Kd.Q_nil _ _ _ _ _ | exact Kd.S_nil _ _ _ _ _⟩, ⟨by repeat (first | (with_reducible first | exact HB.out | apply below_alloc | apply pw_below_drewN | apply below_drew1) | exact HB.out)⟩⟩
 case round =>
  clear H'
  try clear c1
  try clear c2
  try clear p2
  obtain ⟨x5_1, x10_1, rfl, HA, HK1, HO_5, HB⟩ := hrel
  cases gk with
  | zero => exact absurd HA.out (by simp [tower_Heights.l0])
  | succ k1 =>
   have H := HA.out
   clear HA
   simp only [tower_Heights.l0] at H
   by_cases c3 : x10_1 < (l1.length : Int)
   ·rw [if_pos c3] at H
    have c3b0 : decide (x10_1 < (l1.length : Int)) = true := decide_eq_true c3
    clear c3
    by_cases c4 : 0 ≤ x10_1
    ·rw [if_pos c4] at H
     have c4b0 : decide (0 ≤ x10_1) = true := decide_eq_true c4
     clear c4
     by_cases c5 : x10_1 < (l1.length : Int)
     ·rw [if_pos c5] at H
      have c5b0 : decide (x10_1 < (l1.length : Int)) = true := decide_eq_true c5
      clear c5
      replace H := Option.bind_eq_some_iff.mp H
      obtain ⟨t102, A60, H⟩ := H
      (try dsimp only at H)
      have A6 := Aside0.mk A60
      clear A60
      by_cases c7 : x5_1.length < 17592186044416
      ·rw [if_pos c7] at H
       have LMc7 := Aside0.mk c7
       clear c7
       obtain ⟨y103, hy103⟩ : ∃ y_ : List Int, y_ = (x5_1 ++ [t102]) := ⟨_, rfl⟩
       replace H : (tower_Heights.l0 k1 a0 y103 l1 (l1.length : Int) (wrap64 (x10_1 + 1))) = some r := by first | (rw [hy103]; with_reducible exact H) | (have H2_ := (Option.bind_some _ _).symm.trans H; rw [hy103]; with_reducible exact H2_) | (have H2_ := (Option.bind_some _ _).symm.trans H; with_reducible exact H2_) | with_reducible exact H | (rw [hy103]; exact H) | exact H
       have Ny103 := Aside0.mk hy103
       clear hy103
       have H' := Aside0.mk H
       clear H
       have p101 : 0 ≤ (x10_1 : Int) := of_decide_eq_true (by first | (with_reducible assumption) | assumption)
       have q101 : x10_1 < (l1.length : Int) := of_decide_eq_true (by first | (with_reducible assumption) | assumption)
       obtain ⟨ad101, e101, hx101_0⟩ := Kd.at_int HR1.out x10_1 p101 q101
       cases e101
       replace hx101_0 := (HB.out.cell (World.block_lt_of_cell? w _ hx101_0)).trans hx101_0
       replace p101 := eq_true p101
       replace q101 := eq_true q101
       go_wp2_with (first | ((with_reducible refine gate_callee (f := 17) rfl ?_); refine goesL_ (some 17) rfl rfl Tryd.func17 (by kernel_rfl) rfl #[.string a0, .int .u64 (rd l1 x10_1)] rfl (by (try simp only [List.map_toArray, List.map_cons, List.map_nil]); first | done | rfl | (simp only [List.length_drop, List.length_take]; rfl)) ?_; (with_reducible refine (tower_Height.calls a0 (rd l1 x10_1) t102 _ A6.out (Tower.tab_below HT.out (by repeat (first | (with_reducible first | exact HB.out | apply below_alloc | apply pw_below_drewN | apply below_drew1) | exact HB.out)) (Nat.le_refl _))).mono ?_); rintro e w8 ⟨rfl, hb⟩; refine ⟨_, rfl, ?_⟩; have n0_ := Aside0.mk (Kd.R_below (by (with_reducible repeat (first | apply Kd.R_alloc | apply Kd.R_drewN | apply Kd.R_drew)); exact HO_5.out) hb); have n1_ := Aside0.mk (below_step (by repeat (first | (with_reducible first | exact HB.out | apply below_alloc | apply pw_below_drewN | apply below_drew1) | exact HB.out)) hb); clear HO_5; clear HB; have HO_5 := n0_; have HB := n1_; clear n0_ n1_; (try clear hb); (try clear hb2); (try clear hk); (try clear hi)) | ((with_reducible refine gate_builtin (b := .append) (xs := #[.tmp 14, .tmp 18]) rfl ?_); at_builtin; refine Kd.R_append (Kd.int .i64) (w0 := w) w.heap.size rfl (.tmp 14) (.tmp 18) 27 3 (.int .i64 0) 8 rfl Tryd.underlying27 info3 rfl (by decide) (by omega) u5 x5_1 t102 [.int .i64 t102] (fun _ => True) (fun _ => False) rfl rfl ?aP (fun _ hk => hk.elim) ?aF ?aO ?aB ?aS ?aL ?_; (case aP => exact rfl); (case aB => exact (by repeat (first | (with_reducible first | exact HB.out | apply below_alloc | apply pw_below_drewN | apply below_drew1) | exact HB.out))); (case aF => exact (fun _ _ => trivial)); (case aO => exact (by (with_reducible repeat (first | apply Kd.R_alloc | apply Kd.R_drewN | apply Kd.R_drew)); exact HO_5.out)); (case aS => exact (below_size (by repeat (first | (with_reducible first | exact HB.out | apply below_alloc | apply pw_below_drewN | apply below_drew1) | exact HB.out)))); (case aL => have := LMc7.out; omega); intro v104 w9 ho hb hg hat; rw [← Ny103.out] at ho; have n0_ := Aside0.mk (hb); have n1_ := Aside0.mk (ho); clear HB; clear HO_5; have HB := n0_; have HO105 := n1_; clear n0_ n1_; clear ho hb hg hat))
       go_roundg k1
       case measure => have := HK1.out; omega
       case rel => exact ⟨(y103), (wrap64 (x10_1 + 1)), (by first | rfl | (simp; done) | (simp [*]; done)), H', ⟨by have := HK1.out; omega⟩, ⟨by (with_reducible repeat (first | apply Kd.R_alloc | apply Kd.R_drewN | apply Kd.R_drew)); exact HO105.out⟩, ⟨by repeat (first | (with_reducible first | exact HB.out | apply below_alloc | apply pw_below_drewN | apply below_drew1) | exact HB.out)⟩⟩
      ·rw [if_neg c7] at H
       exact absurd H (by simp)
     ·rw [if_neg c5] at H
      exact absurd H (by simp)
    ·rw [if_neg c4] at H
     exact absurd H (by simp)
   ·rw [if_neg c3] at H
    have c3b0 : decide (x10_1 < (l1.length : Int)) = false := decide_eq_false c3
    clear c3
    obtain rfl := Option.some.inj H
    go_wp2
    go_ret
    exact ⟨_, by first | rfl | (simp [errW_none, errW_some] <;> rfl) | (simp [*, errW_none, errW_some] <;> rfl), by (with_reducible repeat (first | apply Kd.R_alloc | apply Kd.R_drewN | apply Kd.R_drew)); exact HO_5.out, by repeat (first | (with_reducible first | exact HB.out | apply below_alloc | apply pw_below_drewN | apply below_drew1) | exact HB.out)⟩
end Go.Proofs.YtolbhliepkcihaaDoor.QTH
end
section
namespace Go.Proofs.YtolbhliepkcihaaDoor.Tower
open Go.RowKit Go.Shelf Go.Proofs.YtolbhliepkcihaaDoor.Mem Go.Proofs.YtolbhliepkcihaaDoor.QTH Go.Proofs.YtolbhliepkcihaaDoorW.PrintWords
attribute [local go_sem] Oper.semAt_some
def upIx (zs : List Int) (lv : Int) (k : Nat) : List Int := ((List.range k).filter fun j => decide (lv < zs[j]?.getD 0)).map fun j : Nat => (j : Int)
theorem upIx_hit {zs : List Int} {lv : Int} {k : Nat} (h : lv < zs[k]?.getD 0) : upIx zs lv (k + 1) = upIx zs lv k ++ [(k : Int)] := by
 unfold upIx
 rw [List.range_succ, List.filter_append, List.map_append, List.filter_cons_of_pos (by simpa using h)]
 rfl
theorem upIx_miss {zs : List Int} {lv : Int} {k : Nat} (h : ¬lv < zs[k]?.getD 0) : upIx zs lv (k + 1) = upIx zs lv k := by
 unfold upIx
 rw [List.range_succ, List.filter_append, List.map_append, List.filter_cons_of_neg (by simpa using h)]
 simp
theorem upIx_len (zs : List Int) (lv : Int) (k : Nat) : (upIx zs lv k).length ≤ k := by
 unfold upIx
 rw [List.length_map]
 exact Nat.le_trans (List.length_filter_le _ _) (by rw [List.length_range]; exact Nat.le_refl _)
structure KB (g n₀ : Nat) (W W' : World) : Prop where blk : ∀ b, b < n₀ → b ≠ g → W'.heap[b]? = W.heap[b]?
theorem KB.refl (g n₀ : Nat) (W : World) : KB g n₀ W W := ⟨fun _ _ _ => rfl⟩
theorem KB.trans {g n₀ : Nat} {A B C : World} (h : KB g n₀ A B) (k : KB g n₀ B C) : KB g n₀ A C := ⟨fun b h1 h2 => (k.blk b h1 h2).trans (h.blk b h1 h2)⟩
theorem KB.cell {g n₀ b j : Nat} {W W' : World} (h : KB g n₀ W W') (hb : b < n₀) (hn : b ≠ g) : W'.cell? ⟨b, j, none⟩ = W.cell? ⟨b, j, none⟩ := by simp [World.cell?, h.blk b hb hn]
theorem KB.put {g n₀ : Nat} {w : World} (hn : n₀ ≤ w.heap.size) (W : World) (l : Nat) (o o' : Obj) (hl : w.heap.size ≤ l) (h : W.heap[l]? = some o) (hc : o.isCells = false) (hw : o.isWalk = false) : KB g n₀ W (W.putObj l o') :=
 ⟨fun b h1 _ => (belowK_b (w := w) hn W l o o' hl h hc hw).block b h1⟩
set_option maxRecDepth 100000 in
set_option maxHeartbeats 2000000 in
theorem above_stops (F : Fence) (n : Nat) (hF : F.fn 99) (hro : F.round = none) (hn : 1 ≤ n) (B1 B2 g n₀ : Nat) (A : Option Addr) (cap : Nat) (zs : List Int) (lv : Int) (w : World) (hreach : zs.length ≤ 1000000)
  (hB1 : B1 < w.heap.size) (hB2 : B2 < w.heap.size) (hz : n₀ ≤ w.heap.size)
  (hc1 : w.cell? ⟨B1, 0, none⟩ = some (.slice A zs.length cap)) (hc2 : w.cell? ⟨B2, 0, none⟩ = some (.int .i64 lv)) (hN2 : B2 < n₀) (hG2 : B2 ≠ g)
  (hc : ∀ j, j < zs.length → ∃ b, A = some ⟨b, 0, none⟩ ∧ b < n₀ ∧ b ≠ g ∧ w.cell? ⟨b, j, none⟩ = some (.int .i64 (zs[j]?.getD 0))) :
  SeqStopsK F n Tryd.prog 99 #[.pointer (some ⟨B1, 0, none⟩), .pointer (some ⟨B2, 0, none⟩)] (fun x : Int => #[Value.int .i64 x]) (KB g n₀) (fun ys => ys = upIx zs lv zs.length) (fun _ => True) zs.length w := by
 intro l J Jx W hW hA hAx hY h0
 have hb1 := (hW.cell (p := ⟨B1, 0, none⟩) hB1).trans hc1
 have hb2 := (hW.cell (p := ⟨B2, 0, none⟩) hB2).trans hc2
 refine callsIn_of_wp Tryd.func99 rfl hF ?_ hro
 simp only [Tryd.ntmps99, List.size_toArray, List.length_cons, List.length_nil, Nat.reduceAdd, Nat.reduceSub, Array.replicate_succ, Array.replicate_zero, List.push_toArray, List.append_toArray, List.nil_append, List.cons_append]
 gi_wp2
 gi_loopw [8] (fun i wr => ∃ k : Nat, k ≤ zs.length ∧ i = .int .i64 k ∧ J (upIx zs lv k) wr ∧ KB g n₀ W wr)
  (fun i _ => zs.length - (intOf i).toNat)
 case atStart => exact ⟨0, Nat.zero_le _, rfl, h0, KB.refl _ _ _⟩
 case round =>
  obtain ⟨k, hk, rfl, hJs, hnx⟩ := hrel
  have hr2 := (hnx.cell (j := 0) hN2 hG2).trans hb2
  by_cases hlt : k < zs.length
  ·obtain ⟨b, rfl, hbn, hbg, hcz⟩ := hc k hlt
   have hcx := (hnx.cell (j := k) hbn hbg).trans ((hW.cell (p := ⟨b, k, none⟩) (Nat.lt_of_lt_of_le hbn hz)).trans hcz)
   obtain ⟨v, hv⟩ : ∃ v, zs[k]?.getD 0 = v := ⟨_, rfl⟩
   have hit := fun h => upIx_hit (zs := zs) (lv := lv) (k := k) h
   have miss := fun h => upIx_miss (zs := zs) (lv := lv) (k := k) h
   rw [hv] at hcx hit miss
   have HIT := Lib.hid hit
   have MISS := Lib.hid miss
   clear hit miss hv
   by_cases hup : lv < v
   ·have hY1 := hY (upIx zs lv k) (k : Int) wr hJs (Nat.lt_of_le_of_lt (upIx_len _ _ _) hlt)
    obtain ⟨fn, tmps, assign, body, hy, hR⟩ := hY1
    gi_wp2
    refine hR.mono ?_
    rintro e W3 (⟨rfl, hJ3, hk3⟩ | ⟨rfl, hJx3⟩)
    ·gi_wp2
     go_roundw
     case rel => exact ⟨k + 1, by omega, by simp, by rw [HIT.out hup]; exact hJ3, hnx.trans hk3⟩
     case measure => simp [intOf]; omega
    ·gi_wp2
     refine bodyPost_ret (results_none rfl _ _ _) rfl ?_
     exact ⟨⟨_, rfl⟩, .inr ⟨_, trivial, hJx3⟩⟩
   ·gi_wp2
    refine ⟨fun _ h => (by cases h), ?_⟩
    gi_wp2
    go_roundw
    case rel => exact ⟨k + 1, by omega, by simp, by rw [MISS.out hup]; exact hJs, hnx⟩
    case measure => simp [intOf]; omega
  ·obtain rfl : k = zs.length := by omega
   gi_wp2
   go_end0
   exact ⟨⟨_, rfl⟩, .inl ⟨_, rfl, hJs⟩⟩
theorem above_val (A : Option Addr) (n c : Nat) (lv : Int) (w : World) : Calls Tryd.prog 65 #[.slice A n c, .int .i64 lv] w fun e w' =>
  e = .returned (.func (.func 99) #[] #[.pointer (some ⟨w.heap.size, 0, none⟩), .pointer (some ⟨w.heap.size + 1, 0, none⟩)]) ∧ w' = (w.alloc (.cells #[.slice A n c] 27)).alloc (.cells #[.int .i64 lv] 3) := by
 go_enter Tryd.func65, Tryd.ntmps65
 go_wp2
 go_ret
 exact ⟨by simp, rfl⟩
theorem above_no (a0 : ByteArray) (A1 : Option Addr) (c1 n : Nat) (lv : Int) (w : World) (h : lv < 0 ∨ 8 < lv) :
  Calls Tryd.prog 22 #[.string a0, .slice A1 n c1, .int .i64 lv] w fun e w' => e = .returned (.tuple #[.slice none 0 0, .int .i64 2]) ∧ w' = w := by
 by_cases h0 : lv < 0
 ·go_enter Tryd.func22, Tryd.ntmps22
  go_wp2
  go_ret2
  exact ⟨rfl, rfl⟩
 ·have h8 : 8 < lv := by omega
  go_enter Tryd.func22, Tryd.ntmps22
  go_wp2
  go_ret2
  exact ⟨rfl, rfl⟩
theorem i64_info : (Tryd.prog.info? 3).map (fun i => (i.zero, i.size, i.bytes)) = some (some (.int .i64 0), 1, 8) := by kernel_rfl
theorem own_mono2 {w : World} {b b' : Nat} {e : TypeId} {size n : Nat} {v : Value} {xs : List Value} (h : w.ownsRow b e size v n xs) (hb : b' ≤ b) : w.ownsRow b' e size v n xs :=
 ⟨h.1, h.2.imp id fun ⟨g, cap, cur, e1, e2, r⟩ => ⟨g, cap, cur, e1, Nat.le_trans hb e2, r⟩⟩
set_option maxRecDepth 100000 in
set_option maxHeartbeats 4000000 in
theorem above_yes (k : Nat) (a0 : ByteArray) (A1 : Option Addr) (c1 : Nat) (l1 zs : List Int) (lv : Int) (w : World) (hr1 : Kd.C (Kd.int .u64) w A1 l1.length l1) (hc1 : l1.length ≤ c1) (hzs : tower_Heights.f k a0 l1 = some zs) (hT0 : TabW w)
  (hz6 : zs.length ≤ 1000000) (h0 : ¬ lv < 0) (h8 : ¬ 8 < lv) :
  Calls Tryd.prog 22 #[.string a0, .slice A1 l1.length c1, .int .i64 lv] w fun e w' =>
   ∃ v, e = .returned (.tuple #[v, .int .i64 0]) ∧ Kd.R (Kd.int .i64) 3 w' w.heap.size (fun _ => True) v (upIx zs lv zs.length) ∧ Below w.heap.size w w' := by
 obtain ⟨i0, hi, hzz, hz1, hz2⟩ := info_parts i64_info
 refine (callsIn_wide (n := 8)).1 ?_
 refine callsIn_of_wp_marks Tryd.func22 rfl trivial ?_ rfl
 simp only [Tryd.ntmps22, List.size_toArray, List.length_cons, List.length_nil, Nat.reduceAdd, Nat.reduceSub, Array.replicate_succ, Array.replicate_zero, List.push_toArray, List.append_toArray, List.nil_append, List.cons_append]
 obtain ⟨g, hg⟩ : ∃ g, w.heap.size = g := ⟨_, rfl⟩
 have B1 : Below g w (w.alloc (.cells #[.slice none 0 0] 27)) := (Below.refl g w).alloc (by omega) _
 have X1 : Boxed (w.alloc (.cells #[.slice none 0 0] 27)) g 27 (.slice none 0 0) := by
  have := Boxed.new w 27 (.slice none 0 0)
  rwa [hg] at this
 have z1 : (w.alloc (.cells #[.slice none 0 0] 27)).heap.size = g + 1 := by simp [hg]
 have T1 : TabW (w.alloc (.cells #[.slice none 0 0] 27)) := tab_below hT0 ((Below.refl w.heap.size w).alloc (Nat.le_refl _) _) (Nat.le_refl _)
 have R1 : Kd.C (Kd.int .u64) (w.alloc (.cells #[.slice none 0 0] 27)) A1 l1.length l1 := Kd.C_alloc hr1 _
 have HH := Lib.hid (tower_Heights.calls k a0 A1 c1 l1 zs _ R1 hc1 hzs T1)
 rw [hg]
 gi_wp2
 refine ⟨trivial, ?_⟩
 refine (callsIn_wide.2 HH.out).mono ?_
 clear HH R1
 rintro e w2 ⟨hv, rfl, HR, hb2⟩
 obtain ⟨A, c, rfl⟩ := Kd.R_slice HR
 gi_wp2
 refine ⟨trivial, ?_⟩
 refine (callsIn_wide.2 (above_val A zs.length c lv w2)).mono ?_
 rintro e w3 ⟨rfl, hw3⟩
 obtain ⟨m, hm⟩ : ∃ m, w2.heap.size = m := ⟨_, rfl⟩
 have hgm : g + 1 ≤ m := by have := hb2.size; omega
 rw [hm]
 have X2 : Boxed w2 g 27 (.slice none 0 0) := (hb2.block g (by omega)).trans X1
 have z3 : w3.heap.size = m + 2 := by rw [hw3]; simp [hm]
 have X3 : Boxed w3 g 27 (.slice none 0 0) := by rw [hw3]; exact (X2.alloc _).alloc _
 have b23 : Below w2.heap.size w2 w3 := by rw [hw3]; exact ((Below.refl _ w2).alloc (Nat.le_refl _) _).alloc (by simp) _
 have B3 : Below g w w3 := (B1.trans (hb2.mono (by omega))).trans (b23.mono (by omega))
 have C1 : w3.cell? ⟨m, 0, none⟩ = some (.slice A zs.length c) := by
  rw [hw3]
  have := ((Boxed.new w2 27 (.slice A zs.length c)).alloc (.cells #[.int .i64 lv] 3)).cell
  rwa [hm] at this
 have C2 : w3.cell? ⟨m + 1, 0, none⟩ = some (.int .i64 lv) := by
  rw [hw3]
  have := (Boxed.new (w2.alloc (.cells #[.slice A zs.length c] 27)) 3 (.int .i64 lv)).cell
  rwa [World.size_alloc, hm] at this
 have HC : ∀ j, j < zs.length → ∃ b, A = some ⟨b, 0, none⟩ ∧ b < m + 2 ∧ b ≠ g ∧ w3.cell? ⟨b, j, none⟩ = some (.int .i64 (zs[j]?.getD 0)) := by
  intro j hj
  obtain ⟨b, c', he, hb, hbl, _⟩ := Kd.R_form HR (by omega)
  injection he with e1 _ e3
  subst e1
  refine ⟨b, rfl, by omega, by omega, ?_⟩
  have := (Kd.R_celln 0 HR (j : Int) (by omega) (by omega)).1
  rw [Int.toNat_natCast] at this
  rw [(b23.cell (p := ⟨b, j, none⟩) hbl), this]
  unfold rdOf
  rw [Int.toNat_natCast, List.getD_eq_getElem?_getD]
 clear hw3 b23 HR X2 X1 T1 hb2 B1
 gi_wp2
 refine wpIn_rangeFunc_ownF (n := 8) rfl (by decide) (gf := 99) (lb := #[.pointer (some ⟨m, 0, none⟩), .pointer (some ⟨m + 1, 0, none⟩)]) rfl trivial (enters_of Tryd.func99 (by kernel_rfl) rfl)
  (above_stops Fence.wide 7 trivial rfl (by decide) m (m + 1) g (m + 2) A c zs lv w3 hz6 (by omega) (by omega) (by omega) C1 C2 (by omega) (by omega) HC)
  KB.trans (fun W l o o' h1 h2 h3 h4 => KB.put (w := w3) (by omega) W l o o' h1 h2 h3 h4) (Below.refl _ _) (fun _ => rfl)
  (fun pre W => (∃ v, Boxed W g 27 v ∧ W.ownsRow (m + 2) 3 1 v pre.length (pre.map (Value.int .i64)) ∧ True) ∧ Below g w3 W)
  (fun _ _ _ => False)
  (OwnFrom.and (Own.from (holdsRow_own (m + 2) g 27 3 1 (fun pre : List Int => pre.length) (fun pre => pre.map (Value.int .i64)) (fun _ _ => True)) _) (ownFrom_below (by omega) (by omega)))
  (fun _ _ _ _ _ hs _ _ => hs)
  ⟨⟨_, X3, World.ownsRow_nil _ _ _ _, trivial⟩, Below.refl _ _⟩
  (fun x => { tmps := #[.string a0, .slice A1 l1.length c1, .int .i64 lv, undef, undef, undef, .slice none 0 0, .int .i64 0, .pointer (some ⟨g, 0, none⟩), .int .i64 x, .int .i64 lv, .bool false, .bool false, .int .i64 lv, .bool false, .bool false, .string a0, .slice A1 l1.length c1, .slice A zs.length c, .int .i64 lv, .func (.func 99) #[] #[.pointer (some ⟨m, 0, none⟩), .pointer (some ⟨m + 1, 0, none⟩)], .int .i64 x, undef, undef, undef, undef, undef], defers := [] }) ?assign ?body ?done ?stop
 case assign =>
  intro l x W K hK
  gi_wp2
  exact hK
 case body =>
  rintro l pre x W ⟨⟨v, hv, hrow, _⟩, hB⟩ hlt
  have hgW : g < W.heap.size := hv.lt
  have hmW : m + 2 ≤ W.heap.size := by have := hB.size; omega
  have hrg : W.ownsRow g 3 1 v pre.length (pre.map (Value.int .i64)) := own_mono2 hrow (by omega)
  have hbase := own_base hrow
  have hcv := hv.cell
  gi_wp2_with (gi_at_builtin; refine wpListIn_append_own _ rfl _ _ 27 rfl (m + 2) 3 i0 (.int .i64 0) 1 8 Tryd.underlying27 hi hzz hz1 hz2 rfl (by decide) _ _ _ rfl (hrow.alloc _) ⟨W.heap.size, 0, none⟩ 1 1 [.int .i64 x] rfl rfl (cell_one_new _ _ _) (by simp [Value.oneCell']) (by simp only [maxLen]; omega) (by omega) (by simp; omega) ?_; intro v' w1 hown' hgrow _; have hog : w1.ownsRow g 3 1 v' (pre.length + 1) (pre.map (Value.int .i64) ++ [.int .i64 x]) := own_mono2 hown' (by omega); obtain ⟨g', cap', rfl⟩ := ownsRow_succ hown'; obtain ⟨hv1, hv2, hr2, hk2, hb2⟩ := hv.appended (by decide) hrg (by omega) (Nat.le_refl _) hog hgrow; have hc1 := hv1.cell; have hf1 := hv1.frozen)
  have hrn : (w1.setCell ⟨g, 0, none⟩ (.slice (some ⟨g', 0, none⟩) (pre.length + 1) cap')).ownsRow (m + 2) 3 1 (.slice (some ⟨g', 0, none⟩) (pre.length + 1) cap') (pre.length + 1) (pre.map (Value.int .i64) ++ [.int .i64 x]) := ⟨hr2.1, hr2.2.imp id fun ⟨q, cap, cur, e1, e2, r⟩ => ⟨q, cap, cur, e1, own_base hown' q (by rw [e1]; rfl), r⟩⟩
  refine ⟨hk2, ⟨fun b hb hbg => ?_⟩, ⟨_, hv2, ?_, trivial⟩, hB.trans hb2⟩
  ·have h1 := (grownBy_setCell' w1 g (.slice (some ⟨g', 0, none⟩) (pre.length + 1) cap')).block b (by have := hgrow.size; rw [World.size_alloc] at this; omega) (by simpa using hbg)
   have h2 := hgrow.block b (by rw [World.size_alloc]; omega) (fun e => by have := hbase b e.symm; omega)
   have h3 := (World.grownBy_alloc W (.cells #[.int .i64 x] 3) none).block b (by omega) (by simp)
   exact h1.trans (h2.trans h3)
  ·rw [List.length_append, List.length_singleton, List.map_append]
   exact hrn
 case done =>
  rintro D ys W hD rfl ⟨⟨v, hv, hrow, _⟩, hB⟩ hK
  have hcv := hv.cell
  gi_wp2
  refine ⟨by simp, .inl ⟨_, _, rfl, run_takeDeferred hK, ?_⟩⟩
  have hr := ownsRow_putObj hrow (.deferred none) hK rfl
  exact ⟨_, results_tmp2 rfl _ _ _, v, rfl, Kd.R_of_own (own_mono2 hr (by omega)) (fun _ _ => trivial), B3.trans (hB.trans (belowK_b (w := w3) (by omega) W D _ _ (by omega) hK rfl rfl))⟩
 case stop =>
  rintro D c pre W _ _ h _
  exact h.elim
end Go.Proofs.YtolbhliepkcihaaDoor.Tower
end
section
namespace Go.Proofs.YtolbhliepkcihaaDoor.Tower
open Go.RowKit Go.Proofs.YtolbhliepkcihaaDoorW.PrintWords Go.Proofs.YtolbhliepkcihaaDoorW.PrintLast Go.Proofs.YtolbhliepkcihaaDoorW.PrintMore Go.Proofs.YtolbhliepkcihaaDoor.QTH
def htsI (key : ByteArray) (l : List Int) : List Int := l.map fun y => ((heightN key y.toNat : Nat) : Int)
theorem htsI_len (key : ByteArray) (l : List Int) : (htsI key l).length = l.length := by unfold htsI; rw [List.length_map]
def okNs (l : List Int) : Prop := ∀ y, y ∈ l → 0 ≤ y ∧ y ≤ 18446744073709551615
instance (l : List Int) : Decidable (okNs l) := by unfold okNs; infer_instance
theorem tw_succ (i n : Nat) (h : i < n) (hn : n ≤ 1000000000) : wrap64 ((i : Int) + 1) = ((i + 1 : Nat) : Int) := by unfold wrap64; omega
theorem heights_ev0 (key : ByteArray) (hkey : key.size ≤ 1000000000) (l : List Int) (hn : l.length ≤ 100000) (hk : okNs l) (d : Nat) : ∀ i acc, i + d = l.length → acc.length + d ≤ 100000 →
  Ev (fun k => tower_Heights.l0 k key acc l (l.length : Int) (i : Int)) (acc ++ (l.drop i).map fun y => ((heightN key y.toNat : Nat) : Int)) := by
 induction d with
 | zero =>
  intro i acc hi ha
  refine Ev.step (fun k => ?_) (Ev.now _)
  rw [tower_Heights.l0, if_neg (by omega), List.drop_eq_nil_of_le (by omega)]
  simp
 | succ d ih =>
  intro i acc hi ha
  have hlt : i < l.length := by omega
  have hb := hk l[i] (List.getElem_mem hlt)
  have hrd : rd l (i : Int) = l[i] := by
   unfold rd
   rw [Int.toNat_natCast, List.getD_eq_getElem?_getD, List.getElem?_eq_getElem hlt]
   rfl
  have h := ih (i + 1) (acc ++ [((heightN key (l[i]).toNat : Nat) : Int)]) (by omega) (by rw [List.length_append, List.length_singleton]; omega)
  rw [List.drop_eq_getElem_cons hlt]
  rw [List.append_assoc] at h
  refine Ev.step (fun k => ?_) h
  have e : tower_Height.f key l[i] = some ((heightN key (l[i]).toNat : Nat) : Int) := if_pos ⟨hkey, by omega, by omega⟩
  rw [tower_Heights.l0, if_pos (by omega), if_pos (by omega), if_pos (by omega), hrd, e, Option.bind_some, if_pos (by omega), tw_succ i l.length (by omega) (by omega)]
theorem heights_k (key : ByteArray) (hkey : key.size ≤ 1000000000) (l : List Int) (hn : l.length ≤ 100000) (hk : okNs l) : ∃ k, tower_Heights.f k key l = some (htsI key l) := by
 obtain ⟨K, h⟩ := heights_ev0 key hkey l hn hk l.length 0 [] (by omega) (by simp; omega)
 exact ⟨K, h K (Nat.le_refl _)⟩
end Go.Proofs.YtolbhliepkcihaaDoor.Tower
namespace Go.Proofs.YtolbhliepkcihaaDoor
open Go.RowKit Go.Proofs.YtolbhliepkcihaaDoorW.PrintWords Go.Proofs.YtolbhliepkcihaaDoorW.PrintLast Go.Proofs.YtolbhliepkcihaaDoorW.PrintMore Go.Proofs.YtolbhliepkcihaaDoor.Tower
def tower_Heights.f (a0 : ByteArray) (l1 : List Int) : Option (List Int) := if a0.size ≤ 1000000000 ∧ l1.length ≤ 100000 ∧ okNs l1 then some (htsI a0 l1) else none
theorem tower_Heights.calls (a0 : ByteArray) (A1 : Option Addr) (c1 : Nat) (l1 : List Int) (r : List Int) (w : World) (hr1 : Kd.C (Kd.int .u64) w A1 l1.length l1) (hc1 : l1.length ≤ c1) (h : tower_Heights.f a0 l1 = some r) (hT0 : TabW w) :
  Calls Tryd.prog 20 #[.string a0, .slice A1 l1.length c1] w fun e w' => ∃ v0_ : Value, e = .returned (v0_) ∧ Kd.R (Kd.int .i64) 3 w' w.heap.size (fun _ => True) v0_ r ∧ Below w.heap.size w w' := by
 unfold tower_Heights.f at h
 split at h
 ·rename_i hc
  obtain rfl := Option.some.inj h
  obtain ⟨k, hk⟩ := heights_k a0 hc.1 l1 hc.2.1 hc.2.2
  exact QTH.tower_Heights.calls k a0 A1 c1 l1 _ w hr1 hc1 hk hT0
 ·cases h
def tower_Above.f (a0 : ByteArray) (l1 : List Int) (a2 : Int) : Option (List Int × Int) := if a0.size ≤ 1000000000 ∧ l1.length ≤ 100000 ∧ okNs l1 then some (if a2 < 0 ∨ 8 < a2 then ([], 2) else (upIx (htsI a0 l1) a2 l1.length, 0)) else none
theorem tower_Above.calls (a0 : ByteArray) (A1 : Option Addr) (c1 : Nat) (l1 : List Int) (a2 : Int) (r1 : List Int) (r2 : Int) (w : World) (hr1 : Kd.C (Kd.int .u64) w A1 l1.length l1) (hc1 : l1.length ≤ c1) (h : tower_Above.f a0 l1 a2 = some (r1, r2)) (hT0 : TabW w) :
  Calls Tryd.prog 22 #[.string a0, .slice A1 l1.length c1, .int .i64 a2] w fun e w' => ∃ v0_ : Value, e = .returned (.tuple #[v0_, .int .i64 r2]) ∧ Kd.R (Kd.int .i64) 3 w' w.heap.size (fun _ => True) v0_ r1 ∧ Below w.heap.size w w' := by
 unfold tower_Above.f at h
 split at h
 ·rename_i hc
  have h := Option.some.inj h
  split at h
  ·rename_i h8
   obtain ⟨rfl, rfl⟩ := Prod.mk.inj h
   refine (above_no a0 A1 c1 l1.length a2 w h8).mono fun e w' ⟨he, hw⟩ => ?_
   subst hw
   exact ⟨_, he, Kd.R_nil _ _ _ _ _, Below.refl _ _⟩
  ·rename_i h8
   obtain ⟨rfl, rfl⟩ := Prod.mk.inj h
   obtain ⟨k, hk⟩ := heights_k a0 hc.1 l1 hc.2.1 hc.2.2
   have := above_yes k a0 A1 c1 l1 _ a2 w hr1 hc1 hk hT0 (by rw [htsI_len]; omega) (by omega) (by omega)
   rwa [htsI_len] at this
 ·cases h
end Go.Proofs.YtolbhliepkcihaaDoor
end
section
namespace Go.Proofs.YtolbhliepkcihaaDoor.QTW
open Go.RowKit Go.Proofs.YtolbhliepkcihaaDoor.Kinds Go.Proofs.YtolbhliepkcihaaDoorW.PrintWords Go.Proofs.YtolbhliepkcihaaDoorW.PrintLast Go.Proofs.YtolbhliepkcihaaDoorW.PrintMore
attribute [local go_sem] max2_int min2_int max_two min_two max_three min_three max_four min_four   -- for this text's walks alone
set_option linter.unusedVariables false
set_option linter.unusedSimpArgs false
def errW : Option Int → Value
 | none => .nilIface
 | some c => .iface 0 (.int .i64 c)
theorem errW_none : errW none = .nilIface := rfl
theorem errW_some (c : Int) : errW (some c) = .iface 0 (.int .i64 c) := rfl
theorem info3 : (Tryd.prog.info? 3).map (fun i => (i.zero, i.size, i.bytes)) = some (some (.int .i64 0), 1, 8) := by kernel_rfl
theorem info22 : (Tryd.prog.info? 22).map (fun i => (i.zero, i.size, i.bytes)) = some (some (.int .u64 0), 1, 8) := by kernel_rfl
end Go.Proofs.YtolbhliepkcihaaDoor.QTW
end
section
namespace Go.Proofs.YtolbhliepkcihaaDoor.QTW
open Go.RowKit Go.Proofs.YtolbhliepkcihaaDoor.Kinds Go.Proofs.YtolbhliepkcihaaDoorW.PrintWords Go.Proofs.YtolbhliepkcihaaDoorW.PrintLast Go.Proofs.YtolbhliepkcihaaDoorW.PrintMore
attribute [local go_sem] max2_int min2_int max_two min_two max_three min_three max_four min_four   -- for this text's walks alone
set_option linter.unusedVariables false
set_option linter.unusedSimpArgs false
/-! ### saltusref15_Same: function 19 -/
def saltusref15_Same.l0 : Nat → List Int → List Int → Int → Int → Option (Bool)
 | 0, _, _, _, _ => none
 | k + 1, x0, x1, x12, x13 => if x13 < x12 then (if 0 ≤ x13 then (if x13 < (x0.length : Int) then (if x13 < (x1.length : Int) then (if (rd x0 x13) = (rd x1 x13) then (saltusref15_Same.l0 k x0 x1 x12 (wrap64 (x13 + 1))) else (some false)) else (none)) else (none)) else (none)) else (some true)
def saltusref15_Same.f (k : Nat) (l0 : List Int) (l1 : List Int) : Option (Bool) := if (l0.length : Int) = (l1.length : Int) then (saltusref15_Same.l0 k l0 l1 (l0.length : Int) 0) else (some false)
theorem saltusref15_Same.mono_l : ∀ k, (∀ y0 y1 y2 y3, LeO (saltusref15_Same.l0 k y0 y1 y2 y3) (saltusref15_Same.l0 (k + 1) y0 y1 y2 y3))
 | 0 => fun _ _ _ _ r h => by simp [saltusref15_Same.l0] at h
 | k + 1 => by
  have ih0 := saltusref15_Same.mono_l k
  ·intro y0 y1 y2 y3
   unfold saltusref15_Same.l0
   repeat' first
   | (with_reducible exact ih0 _ _ _ _)
   | (with_reducible exact LeO.refl _)
   | (with_reducible exact LeO.none _)
   | (with_reducible refine LeO.ite ?_ ?_)
   | (with_reducible refine LeO.bind ?_ (fun _ => ?_))
   | exact ih0 _ _ _ _
   | exact LeO.none _
   | refine LeO.ite ?_ ?_
   | refine LeO.bind ?_ (fun _ => ?_)
theorem saltusref15_Same.mono : ∀ a0 a1 k, LeO (saltusref15_Same.f k a0 a1) (saltusref15_Same.f (k + 1) a0 a1) := by
 intro a0 a1 k
 have ih0 := saltusref15_Same.mono_l k
 unfold saltusref15_Same.f
 repeat' first
   | (with_reducible exact ih0 _ _ _ _)
   | (with_reducible exact LeO.refl _)
   | (with_reducible exact LeO.none _)
   | (with_reducible refine LeO.ite ?_ ?_)
   | (with_reducible refine LeO.bind ?_ (fun _ => ?_))
   | exact ih0 _ _ _ _
   | exact LeO.none _
   | refine LeO.ite ?_ ?_
   | refine LeO.bind ?_ (fun _ => ?_)
set_option maxHeartbeats 8000000 in
set_option maxRecDepth 100000 in
theorem saltusref15_Same.calls (k : Nat) (A0 : Option Addr) (c0 : Nat) (l0 : List Int) (A1 : Option Addr) (c1 : Nat) (l1 : List Int) (r : Bool) (w : World) (hr0 : Kd.C (Kd.int .i64) w A0 l0.length l0) (hc0 : l0.length ≤ c0) (hr1 : Kd.C (Kd.int .i64) w A1 l1.length l1) (hc1 : l1.length ≤ c1) (h : saltusref15_Same.f k l0 l1 = some r) :
  Calls Tryd.prog 19 #[.slice A0 l0.length c0, .slice A1 l1.length c1] w fun e w' => e = .returned (.bool r) ∧ Drawn0 w w' := by
 have HR0 := Aside0.mk hr0
 have HC0 := Aside0.mk hc0
 clear hr0 hc0
 have HR1 := Aside0.mk hr1
 have HC1 := Aside0.mk hc1
 clear hr1 hc1
 have H : (if (l0.length : Int) = (l1.length : Int) then (saltusref15_Same.l0 k l0 l1 (l0.length : Int) 0) else (some false)) = some r := h
 clear h
 by_cases c3 : (l0.length : Int) = (l1.length : Int)
 ·rw [if_pos c3] at H
  have c3b0 : ((l0.length : Int) == (l1.length : Int)) = true := beq_iff_eq.mpr c3
  have c3b1 : ((l0.length : Int) != (l1.length : Int)) = false := bne_eq_false_iff_eq.mpr c3
  have c3b2 : (l0.length == l1.length) = true := by first | simpa using c3 | (simp at c3 ⊢; omega)
  clear c3
  have H' := Aside0.mk H
  clear H
  go_enter Tryd.func19, Tryd.ntmps19
  go_wp2
  repeat (go_quiet (fail); try go_wp2)
  go_loopg [13] k (fun kq v13 w' => ∃ (x13_1 : Int), v13 = .int .i64 x13_1 ∧ Aside0 (saltusref15_Same.l0 kq l0 l1 (l0.length : Int) x13_1 = some r) ∧ Aside0 (kq ≤ k) ∧ Drawn0 w w')
  case atStart => exact ⟨(0), (by first | rfl | (simp; done) | (simp [*]; done)), H', ⟨Nat.le_refl _⟩, by repeat (first | exact Drawn0.refl _ | apply Drawn0.step)⟩
  case round =>
   clear H'
   try clear c1
   try clear p2
   try clear c3
   try clear c3b0
   try clear c3b1
   try clear c3b2
   obtain ⟨x13_1, rfl, HA, HK1, ⟨m1, rfl⟩⟩ := hrel
   cases gk with
   | zero => exact absurd HA.out (by simp [saltusref15_Same.l0])
   | succ k1 =>
    have H := HA.out
    clear HA
    simp only [saltusref15_Same.l0] at H
    by_cases c4 : x13_1 < (l0.length : Int)
    ·rw [if_pos c4] at H
     have c4b0 : decide (x13_1 < (l0.length : Int)) = true := decide_eq_true c4
     clear c4
     by_cases c5 : 0 ≤ x13_1
     ·rw [if_pos c5] at H
      have c5b0 : decide (0 ≤ x13_1) = true := decide_eq_true c5
      clear c5
      by_cases c6 : x13_1 < (l0.length : Int)
      ·rw [if_pos c6] at H
       have c6b0 : decide (x13_1 < (l0.length : Int)) = true := decide_eq_true c6
       clear c6
       by_cases c7 : x13_1 < (l1.length : Int)
       ·rw [if_pos c7] at H
        have c7b0 : decide (x13_1 < (l1.length : Int)) = true := decide_eq_true c7
        clear c7
        by_cases c8 : (rd l0 x13_1) = (rd l1 x13_1)
        ·rw [if_pos c8] at H
         have c8b0 : ((rd l0 x13_1) == (rd l1 x13_1)) = true := beq_iff_eq.mpr c8
         have c8b1 : ((rd l0 x13_1) != (rd l1 x13_1)) = false := bne_eq_false_iff_eq.mpr c8
         clear c8
         have H' := Aside0.mk H
         clear H
         have p101 : 0 ≤ (x13_1 : Int) := of_decide_eq_true (by first | (with_reducible assumption) | assumption)
         have q101 : x13_1 < (l0.length : Int) := of_decide_eq_true (by first | (with_reducible assumption) | assumption)
         obtain ⟨ad101, e101, hx101_0⟩ := Kd.at_int HR0.out x13_1 p101 q101
         cases e101
         replace p101 := eq_true p101
         replace q101 := eq_true q101
         have p102 : 0 ≤ (x13_1 : Int) := of_decide_eq_true (by first | (with_reducible assumption) | assumption)
         have q102 : x13_1 < (l1.length : Int) := of_decide_eq_true (by first | (with_reducible assumption) | assumption)
         obtain ⟨ad102, e102, hx102_0⟩ := Kd.at_int HR1.out x13_1 p102 q102
         cases e102
         replace p102 := eq_true p102
         replace q102 := eq_true q102
         go_wp2
         repeat (go_quiet (fail); try go_wp2)
         go_roundg k1
         case measure => have := HK1.out; omega
         case rel => exact ⟨(wrap64 (x13_1 + 1)), (by first | rfl | (simp; done) | (simp [*]; done)), H', ⟨by have := HK1.out; omega⟩, by repeat (first | exact Drawn0.refl _ | apply Drawn0.step)⟩
        ·rw [if_neg c8] at H
         have c8b0 : ((rd l0 x13_1) == (rd l1 x13_1)) = false := beq_eq_false_iff_ne.mpr c8
         have c8b1 : ((rd l0 x13_1) != (rd l1 x13_1)) = true := bne_iff_ne.mpr c8
         obtain rfl := Option.some.inj H
         have p101 : 0 ≤ (x13_1 : Int) := of_decide_eq_true (by first | (with_reducible assumption) | assumption)
         have q101 : x13_1 < (l0.length : Int) := of_decide_eq_true (by first | (with_reducible assumption) | assumption)
         obtain ⟨ad101, e101, hx101_0⟩ := Kd.at_int HR0.out x13_1 p101 q101
         cases e101
         replace p101 := eq_true p101
         replace q101 := eq_true q101
         have p102 : 0 ≤ (x13_1 : Int) := of_decide_eq_true (by first | (with_reducible assumption) | assumption)
         have q102 : x13_1 < (l1.length : Int) := of_decide_eq_true (by first | (with_reducible assumption) | assumption)
         obtain ⟨ad102, e102, hx102_0⟩ := Kd.at_int HR1.out x13_1 p102 q102
         cases e102
         replace p102 := eq_true p102
         replace q102 := eq_true q102
         go_wp2
         repeat (go_quiet (fail); try go_wp2)
         go_ret
         exact ⟨by first | rfl | (simp; done) | (simp [*]; done), by repeat (first | exact Drawn0.refl _ | apply Drawn0.step)⟩
       ·rw [if_neg c7] at H
        exact absurd H (by simp)
      ·rw [if_neg c6] at H
       exact absurd H (by simp)
     ·rw [if_neg c5] at H
      exact absurd H (by simp)
    ·rw [if_neg c4] at H
     have c4b0 : decide (x13_1 < (l0.length : Int)) = false := decide_eq_false c4
     clear c4
     obtain rfl := Option.some.inj H
     go_wp2
     repeat (go_quiet (fail); try go_wp2)
     go_ret
     exact ⟨by first | rfl | (simp; done) | (simp [*]; done), by repeat (first | exact Drawn0.refl _ | apply Drawn0.step)⟩
 ·rw [if_neg c3] at H
  have c3b0 : ((l0.length : Int) == (l1.length : Int)) = false := beq_eq_false_iff_ne.mpr c3
  have c3b1 : ((l0.length : Int) != (l1.length : Int)) = true := bne_iff_ne.mpr c3
  have c3b2 : (l0.length == l1.length) = false := by first | simpa using c3 | (simp at c3 ⊢; omega)
  obtain rfl := Option.some.inj H
  go_enter Tryd.func19, Tryd.ntmps19
  go_wp2
  repeat (go_quiet (fail); try go_wp2)
  go_ret
  exact ⟨by first | rfl | (simp; done) | (simp [*]; done), by repeat (first | exact Drawn0.refl _ | apply Drawn0.step)⟩
/-! ### saltuslaw15_alive: function 16 -/
def saltuslaw15_alive.f (k : Nat)  : Option (Bool) := (tower_Above.f (⟨#[107]⟩ : ByteArray) (([5, 7] : List Int)) 0).bind fun bt106 => (if bt106.2 = 0 then ((saltusref15_Same.f k bt106.1 (([0, 1] : List Int))).bind fun t113 => (some t113)) else (some false))
theorem saltuslaw15_alive.mono : ∀ k, LeO (saltuslaw15_alive.f k ) (saltuslaw15_alive.f (k + 1) ) := by
 intro  k
 unfold saltuslaw15_alive.f
 repeat' first
   | (with_reducible exact saltusref15_Same.mono _ _ _)
   | (with_reducible exact LeO.refl _)
   | (with_reducible exact LeO.none _)
   | (with_reducible refine LeO.ite ?_ ?_)
   | (with_reducible refine LeO.bind ?_ (fun _ => ?_))
   | exact saltusref15_Same.mono _ _ _
   | exact LeO.none _
   | refine LeO.ite ?_ ?_
   | refine LeO.bind ?_ (fun _ => ?_)
set_option maxHeartbeats 8000000 in
set_option maxRecDepth 100000 in
theorem saltuslaw15_alive.calls (k : Nat)  (r : Bool) (w : World) (h : saltuslaw15_alive.f k  = some r) (hT0 : Tower.TabW w) :
  Calls Tryd.prog 16 #[] w fun e w' => e = .returned (.bool r) ∧ Below w.heap.size w w' := by
 have HT := Aside0.mk hT0
 clear hT0
 have HB := Aside0.mk (Below.refl w.heap.size w)
 have H : ((tower_Above.f (⟨#[107]⟩ : ByteArray) (([5, 7] : List Int)) 0).bind fun bt106 => (if bt106.2 = 0 then ((saltusref15_Same.f k bt106.1 (([0, 1] : List Int))).bind fun t113 => (some t113)) else (some false))) = some r := h
 clear h
 obtain ⟨y103, hy103⟩ : ∃ y_ : List Int, y_ = (([5, 7] : List Int)) := ⟨_, rfl⟩
 replace H : ((tower_Above.f (⟨#[107]⟩ : ByteArray) y103 0).bind fun bt106 => (if bt106.2 = 0 then ((saltusref15_Same.f k bt106.1 (([0, 1] : List Int))).bind fun t113 => (some t113)) else (some false))) = some r := by first | (rw [hy103]; with_reducible exact H) | (have H2_ := (Option.bind_some _ _).symm.trans H; rw [hy103]; with_reducible exact H2_) | (have H2_ := (Option.bind_some _ _).symm.trans H; with_reducible exact H2_) | with_reducible exact H | (rw [hy103]; exact H) | exact H
 have Ny103 := Aside0.mk hy103
 clear hy103
 replace H := Option.bind_eq_some_iff.mp H
 obtain ⟨⟨t106, t107⟩, A10, H⟩ := H
 (try dsimp only at H)
 have A1 := Aside0.mk A10
 clear A10
 by_cases c2 : t107 = 0
 ·rw [if_pos c2] at H
  have c2b0 : (t107 == 0) = true := beq_iff_eq.mpr c2
  have c2b1 : (t107 != 0) = false := bne_eq_false_iff_eq.mpr c2
  clear c2
  obtain ⟨y110, hy110⟩ : ∃ y_ : List Int, y_ = (([0, 1] : List Int)) := ⟨_, rfl⟩
  replace H : ((saltusref15_Same.f k t106 y110).bind fun t113 => (some t113)) = some r := by first | (rw [hy110]; with_reducible exact H) | (have H2_ := (Option.bind_some _ _).symm.trans H; rw [hy110]; with_reducible exact H2_) | (have H2_ := (Option.bind_some _ _).symm.trans H; with_reducible exact H2_) | with_reducible exact H | (rw [hy110]; exact H) | exact H
  have Ny110 := Aside0.mk hy110
  clear hy110
  replace H := Option.bind_eq_some_iff.mp H
  obtain ⟨t113, A30, H⟩ := H
  (try dsimp only at H)
  have A3 := Aside0.mk A30
  clear A30
  obtain rfl := Option.some.inj H
  go_enter Tryd.func16, Tryd.ntmps16
  go_wp2_with (first | ((with_reducible refine gate_dst (N := 4) rfl ?_); (try (refine gate_guard (by rfl) ?_; dsimp only)); refine Kd.R_lit (Kd.int .u64) _ 22 ?hg (N := 4) ?hd (xs := ([5, 7] : List Int)) (inner := [.int .u64 5, .int .u64 7]) (ok := fun _ => True) (okp := fun _ => True) ?hr ?hp (fun _ hk => hk) trivial (Below.refl _ _) (Nat.le_refl _) (by simp) ?_; (case hd => rfl); (case hg => rfl); (case hr => first | (go_simp; done) | (go_simp; rfl)); (case hp => exact (Reps.one (show Kd.M (Kd.int .u64) _ _ _ 5 [.int .u64 5] from rfl) (Reps.one (show Kd.M (Kd.int .u64) _ _ _ 7 [.int .u64 7] from rfl) (Reps.none _ _)))); intro v104 w4 ho5 hb hg_ hnew_; clear hg_ hnew_; (first | rw [← Ny103.out] at ho5 | (simp only [Int.reduceToNat] at ho5; rw [← Ny103.out] at ho5)); have n0_ := Aside0.mk (Kd.R_lower ho5 (below_size (by repeat (first | (with_reducible first | exact HB.out | apply below_alloc | apply pw_below_drewN | apply below_drew1) | exact HB.out)))); have n1_ := Aside0.mk (below_step (by repeat (first | (with_reducible first | exact HB.out | apply below_alloc | apply pw_below_drewN | apply below_drew1) | exact HB.out)) hb); clear HB; have HO105 := n0_; have HB := n1_; clear n0_ n1_; clear hb ho5; obtain ⟨Ao6, co6, eo6⟩ := Kd.R_slice HO105.out; subst eo6) | ((with_reducible refine gate_callee (f := 22) rfl ?_); refine goesL_ (some 5) rfl rfl Tryd.func22 (by kernel_rfl) rfl #[.string (⟨#[107]⟩ : ByteArray), .slice Ao6 y103.length co6, .int .i64 0] rfl (by (try simp only [List.map_toArray, List.map_cons, List.map_nil]); first | done | rfl | (simp only [List.length_drop, List.length_take]; rfl)) ?_; (with_reducible refine (tower_Above.calls (⟨#[107]⟩ : ByteArray) _ _ y103 0 t106 t107 _ ?side1 ?side2 A1.out (Tower.tab_below HT.out (by repeat (first | (with_reducible first | exact HB.out | apply below_alloc | apply pw_below_drewN | apply below_drew1) | exact HB.out)) (Nat.le_refl _))).mono ?_); (case side1 => repeat (first | exact (Kd.R_reads' HO105.out).2.2 | (with_reducible refine Kd.C_alloc ?_ _) | (with_reducible refine Kd.C_drewN ?_ _) | (with_reducible refine Kd.C_drew ?_))); (case side2 => exact (Kd.R_reads' HO105.out).2.1); rintro e w7 ⟨v108, rfl, ho0, hb⟩; refine ⟨_, rfl, ?_⟩; have n0_ := Aside0.mk (Kd.R_below (by (with_reducible repeat (first | apply Kd.R_alloc | apply Kd.R_drewN | apply Kd.R_drew)); exact HO105.out) hb); have n1_ := Aside0.mk (Kd.R_lower ho0 (below_size (by repeat (first | (with_reducible first | exact HB.out | apply below_alloc | apply pw_below_drewN | apply below_drew1) | exact HB.out)))); have n2_ := Aside0.mk (below_step (by repeat (first | (with_reducible first | exact HB.out | apply below_alloc | apply pw_below_drewN | apply below_drew1) | exact HB.out)) hb); clear HO105; clear HB; have HO105 := n0_; have HO109 := n1_; have HB := n2_; clear n0_ n1_ n2_; (try clear hb); (try clear hb2); (try clear hk); (try clear hi); (try clear ho0)) | ((with_reducible refine gate_dst (N := 12) rfl ?_); (try (refine gate_guard (by rfl) ?_; dsimp only)); refine Kd.R_lit (Kd.int .i64) _ 3 ?hg (N := 12) ?hd (xs := ([0, 1] : List Int)) (inner := [.int .i64 0, .int .i64 1]) (ok := fun _ => True) (okp := fun _ => True) ?hr ?hp (fun _ hk => hk) trivial (Below.refl _ _) (Nat.le_refl _) (by simp) ?_; (case hd => rfl); (case hg => rfl); (case hr => first | (go_simp; done) | (go_simp; rfl)); (case hp => exact (Reps.one (show Kd.M (Kd.int .i64) _ _ _ 0 [.int .i64 0] from rfl) (Reps.one (show Kd.M (Kd.int .i64) _ _ _ 1 [.int .i64 1] from rfl) (Reps.none _ _)))); intro v111 w8 ho9 hb hg_ hnew_; clear hg_ hnew_; (first | rw [← Ny110.out] at ho9 | (simp only [Int.reduceToNat] at ho9; rw [← Ny110.out] at ho9)); have n0_ := Aside0.mk (Kd.R_below (by (with_reducible repeat (first | apply Kd.R_alloc | apply Kd.R_drewN | apply Kd.R_drew)); exact HO105.out) hb); have n1_ := Aside0.mk (Kd.R_elder' (by (with_reducible repeat (first | apply Kd.R_alloc | apply Kd.R_drewN | apply Kd.R_drew)); exact HO109.out) (Kd.R_base ho9) hb); have n2_ := Aside0.mk (Kd.R_lower (Kd.R_new' ho9 (Kd.R_lt (by (with_reducible repeat (first | apply Kd.R_alloc | apply Kd.R_drewN | apply Kd.R_drew)); exact HO109.out))) (below_size (by repeat (first | (with_reducible first | exact HB.out | apply below_alloc | apply pw_below_drewN | apply below_drew1) | exact HB.out)))); have n3_ := Aside0.mk (below_step (by repeat (first | (with_reducible first | exact HB.out | apply below_alloc | apply pw_below_drewN | apply below_drew1) | exact HB.out)) hb); clear HO105; clear HO109; clear HB; have HO105 := n0_; have HO109 := n1_; have HO112 := n2_; have HB := n3_; clear n0_ n1_ n2_ n3_; clear hb ho9; obtain ⟨Ao10, co10, eo10⟩ := Kd.R_slice HO109.out; subst eo10; obtain ⟨Ao11, co11, eo11⟩ := Kd.R_slice HO112.out; subst eo11) | (go_at_call 19; (with_reducible refine (saltusref15_Same.calls k _ _ t106 _ _ y110 t113 _ ?side1 ?side2 ?side3 ?side4 A3.out).mono ?_); (case side1 => repeat (first | exact (Kd.R_reads' HO109.out).2.2 | (with_reducible refine Kd.C_alloc ?_ _) | (with_reducible refine Kd.C_drewN ?_ _) | (with_reducible refine Kd.C_drew ?_))); (case side2 => exact (Kd.R_reads' HO109.out).2.1); (case side3 => repeat (first | exact (Kd.R_reads' HO112.out).2.2 | (with_reducible refine Kd.C_alloc ?_ _) | (with_reducible refine Kd.C_drewN ?_ _) | (with_reducible refine Kd.C_drew ?_))); (case side4 => exact (Kd.R_reads' HO112.out).2.1); rintro e w' ⟨rfl, ⟨nd, rfl⟩⟩))
  go_ret
  exact ⟨by first | rfl | (simp [errW_none, errW_some] <;> rfl) | (simp [*, errW_none, errW_some] <;> rfl), by repeat (first | (with_reducible first | exact HB.out | apply below_alloc | apply pw_below_drewN | apply below_drew1) | exact HB.out)⟩
 ·rw [if_neg c2] at H
  have c2b0 : (t107 == 0) = false := beq_eq_false_iff_ne.mpr c2
  have c2b1 : (t107 != 0) = true := bne_iff_ne.mpr c2
  obtain rfl := Option.some.inj H
  go_enter Tryd.func16, Tryd.ntmps16
  go_wp2_with (first | ((with_reducible refine gate_dst (N := 4) rfl ?_); (try (refine gate_guard (by rfl) ?_; dsimp only)); refine Kd.R_lit (Kd.int .u64) _ 22 ?hg (N := 4) ?hd (xs := ([5, 7] : List Int)) (inner := [.int .u64 5, .int .u64 7]) (ok := fun _ => True) (okp := fun _ => True) ?hr ?hp (fun _ hk => hk) trivial (Below.refl _ _) (Nat.le_refl _) (by simp) ?_; (case hd => rfl); (case hg => rfl); (case hr => first | (go_simp; done) | (go_simp; rfl)); (case hp => exact (Reps.one (show Kd.M (Kd.int .u64) _ _ _ 5 [.int .u64 5] from rfl) (Reps.one (show Kd.M (Kd.int .u64) _ _ _ 7 [.int .u64 7] from rfl) (Reps.none _ _)))); intro v104 w12 ho13 hb hg_ hnew_; clear hg_ hnew_; (first | rw [← Ny103.out] at ho13 | (simp only [Int.reduceToNat] at ho13; rw [← Ny103.out] at ho13)); have n0_ := Aside0.mk (Kd.R_lower ho13 (below_size (by repeat (first | (with_reducible first | exact HB.out | apply below_alloc | apply pw_below_drewN | apply below_drew1) | exact HB.out)))); have n1_ := Aside0.mk (below_step (by repeat (first | (with_reducible first | exact HB.out | apply below_alloc | apply pw_below_drewN | apply below_drew1) | exact HB.out)) hb); clear HB; have HO105 := n0_; have HB := n1_; clear n0_ n1_; clear hb ho13; obtain ⟨Ao14, co14, eo14⟩ := Kd.R_slice HO105.out; subst eo14) | ((with_reducible refine gate_callee (f := 22) rfl ?_); refine goesL_ (some 5) rfl rfl Tryd.func22 (by kernel_rfl) rfl #[.string (⟨#[107]⟩ : ByteArray), .slice Ao14 y103.length co14, .int .i64 0] rfl (by (try simp only [List.map_toArray, List.map_cons, List.map_nil]); first | done | rfl | (simp only [List.length_drop, List.length_take]; rfl)) ?_; (with_reducible refine (tower_Above.calls (⟨#[107]⟩ : ByteArray) _ _ y103 0 t106 t107 _ ?side1 ?side2 A1.out (Tower.tab_below HT.out (by repeat (first | (with_reducible first | exact HB.out | apply below_alloc | apply pw_below_drewN | apply below_drew1) | exact HB.out)) (Nat.le_refl _))).mono ?_); (case side1 => repeat (first | exact (Kd.R_reads' HO105.out).2.2 | (with_reducible refine Kd.C_alloc ?_ _) | (with_reducible refine Kd.C_drewN ?_ _) | (with_reducible refine Kd.C_drew ?_))); (case side2 => exact (Kd.R_reads' HO105.out).2.1); rintro e w15 ⟨v108, rfl, ho0, hb⟩; refine ⟨_, rfl, ?_⟩; have n0_ := Aside0.mk (Kd.R_below (by (with_reducible repeat (first | apply Kd.R_alloc | apply Kd.R_drewN | apply Kd.R_drew)); exact HO105.out) hb); have n1_ := Aside0.mk (Kd.R_lower ho0 (below_size (by repeat (first | (with_reducible first | exact HB.out | apply below_alloc | apply pw_below_drewN | apply below_drew1) | exact HB.out)))); have n2_ := Aside0.mk (below_step (by repeat (first | (with_reducible first | exact HB.out | apply below_alloc | apply pw_below_drewN | apply below_drew1) | exact HB.out)) hb); clear HO105; clear HB; have HO105 := n0_; have HO109 := n1_; have HB := n2_; clear n0_ n1_ n2_; (try clear hb); (try clear hb2); (try clear hk); (try clear hi); (try clear ho0)))
  go_ret
  exact ⟨by first | rfl | (simp [errW_none, errW_some] <;> rfl) | (simp [*, errW_none, errW_some] <;> rfl), by repeat (first | (with_reducible first | exact HB.out | apply below_alloc | apply pw_below_drewN | apply below_drew1) | exact HB.out)⟩
/-! ### saltusref15_Height: function 18 -/
def saltusref15_Height.l0 : Nat → Int → Int → Option (Int)
 | 0, _, _ => none
 | k + 1, x5, x6 => if (Int.tmod x5 2) = 0 then (if x6 < 8 then (saltusref15_Height.l0 k (IntKind.u64.wrap (Int.tdiv x5 2)) (wrap64 (x6 + 1))) else (some x6)) else (some x6)
def saltusref15_Height.f (k : Nat) (a0 : ByteArray) (a1 : Int) : Option (Int) := (saltusref02_Low.f a1 8).bind fun t114 => ((saltusref10_Word.f a0 t114).bind fun t115 => (saltusref15_Height.l0 k t115 1))
theorem saltusref15_Height.mono_l : ∀ k, (∀ y0 y1, LeO (saltusref15_Height.l0 k y0 y1) (saltusref15_Height.l0 (k + 1) y0 y1))
 | 0 => fun _ _ r h => by simp [saltusref15_Height.l0] at h
 | k + 1 => by
  have ih0 := saltusref15_Height.mono_l k
  ·intro y0 y1
   unfold saltusref15_Height.l0
   repeat' first
   | (with_reducible exact ih0 _ _)
   | (with_reducible exact LeO.refl _)
   | (with_reducible exact LeO.none _)
   | (with_reducible refine LeO.ite ?_ ?_)
   | (with_reducible refine LeO.bind ?_ (fun _ => ?_))
   | exact ih0 _ _
   | exact LeO.none _
   | refine LeO.ite ?_ ?_
   | refine LeO.bind ?_ (fun _ => ?_)
theorem saltusref15_Height.mono : ∀ a0 a1 k, LeO (saltusref15_Height.f k a0 a1) (saltusref15_Height.f (k + 1) a0 a1) := by
 intro a0 a1 k
 have ih0 := saltusref15_Height.mono_l k
 unfold saltusref15_Height.f
 repeat' first
   | (with_reducible exact ih0 _ _)
   | (with_reducible exact LeO.refl _)
   | (with_reducible exact LeO.none _)
   | (with_reducible refine LeO.ite ?_ ?_)
   | (with_reducible refine LeO.bind ?_ (fun _ => ?_))
   | exact ih0 _ _
   | exact LeO.none _
   | refine LeO.ite ?_ ?_
   | refine LeO.bind ?_ (fun _ => ?_)
set_option maxHeartbeats 8000000 in
set_option maxRecDepth 100000 in
theorem saltusref15_Height.calls (k : Nat) (a0 : ByteArray) (a1 : Int) (r : Int) (w : World) (h : saltusref15_Height.f k a0 a1 = some r) :
  Calls Tryd.prog 18 #[.string a0, .int .u64 a1] w fun e w' => e = .returned (.int .i64 r) ∧ Below w.heap.size w w' := by
 have HB := Aside0.mk (Below.refl w.heap.size w)
 have H : ((saltusref02_Low.f a1 8).bind fun t114 => ((saltusref10_Word.f a0 t114).bind fun t115 => (saltusref15_Height.l0 k t115 1))) = some r := h
 clear h
 replace H := Option.bind_eq_some_iff.mp H
 obtain ⟨t114, A30, H⟩ := H
 (try dsimp only at H)
 have A3 := Aside0.mk A30
 clear A30
 replace H := Option.bind_eq_some_iff.mp H
 obtain ⟨t115, A40, H⟩ := H
 (try dsimp only at H)
 have A4 := Aside0.mk A40
 clear A40
 have H' := Aside0.mk H
 clear H
 go_enter Tryd.func18, Tryd.ntmps18
 go_wp2_with (first | ((with_reducible refine gate_callee (f := 64) rfl ?_); refine goesL_ (some 9) rfl rfl Tryd.func64 (by kernel_rfl) rfl #[.int .u64 a1, .int .i64 8] rfl (by (try simp only [List.map_toArray, List.map_cons, List.map_nil]); first | done | rfl | (simp only [List.length_drop, List.length_take]; rfl)) ?_; (with_reducible refine (saltusref02_Low.calls a1 8 t114 _ A3.out).mono ?_); rintro e w5 ⟨rfl, hb⟩; refine ⟨_, rfl, ?_⟩; have n0_ := Aside0.mk (below_step (by repeat (first | (with_reducible first | exact HB.out | apply below_alloc | apply pw_below_drewN | apply below_drew1) | exact HB.out)) hb); clear HB; have HB := n0_; clear n0_; (try clear hb); (try clear hb2); (try clear hk); (try clear hi)) | ((with_reducible refine gate_callee (f := 63) rfl ?_); refine goesL_ (some 10) rfl rfl Tryd.func63 (by kernel_rfl) rfl #[.string a0, .string t114] rfl (by (try simp only [List.map_toArray, List.map_cons, List.map_nil]); first | done | rfl | (simp only [List.length_drop, List.length_take]; rfl)) ?_; (with_reducible refine (saltusref10_Word.calls a0 t114 t115 _ A4.out).mono ?_); rintro e w6 ⟨rfl, hb⟩; refine ⟨_, rfl, ?_⟩; have n0_ := Aside0.mk (below_step (by repeat (first | (with_reducible first | exact HB.out | apply below_alloc | apply pw_below_drewN | apply below_drew1) | exact HB.out)) hb); clear HB; have HB := n0_; clear n0_; (try clear hb); (try clear hb2); (try clear hk); (try clear hi)))
 go_loopg [5, 6] k (fun kq v5 v6 w' => ∃ (x5_1 : Int) (x6_1 : Int), v5 = .int .u64 x5_1 ∧ v6 = .int .i64 x6_1 ∧ Aside0 (saltusref15_Height.l0 kq x5_1 x6_1 = some r) ∧ Aside0 (kq ≤ k) ∧ Aside0 (Below w.heap.size w w'))
 case atStart => exact ⟨(t115), (1), (by first | rfl | (simp; done) | (simp [*]; done)), (by first | rfl | (simp; done) | (simp [*]; done)), H', ⟨Nat.le_refl _⟩, ⟨by repeat (first | (with_reducible first | exact HB.out | apply below_alloc | apply pw_below_drewN | apply below_drew1) | exact HB.out)⟩⟩
 case round =>
  clear H'
  try clear c1
  try clear p2
  try clear c6
  obtain ⟨x5_1, x6_1, rfl, rfl, HA, HK1, HB⟩ := hrel
  cases gk with
  | zero => exact absurd HA.out (by simp [saltusref15_Height.l0])
  | succ k1 =>
   have H := HA.out
   clear HA
   simp only [saltusref15_Height.l0] at H
   by_cases c7 : (Int.tmod x5_1 2) = 0
   ·rw [if_pos c7] at H
    have c7b0 : ((Int.tmod x5_1 2) == 0) = true := beq_iff_eq.mpr c7
    have c7b1 : ((Int.tmod x5_1 2) != 0) = false := bne_eq_false_iff_eq.mpr c7
    clear c7
    by_cases c8 : x6_1 < 8
    ·rw [if_pos c8] at H
     have c8b0 : decide (x6_1 < 8) = true := decide_eq_true c8
     clear c8
     have H' := Aside0.mk H
     clear H
     go_wp2
     go_roundg k1
     case measure => have := HK1.out; omega
     case rel => exact ⟨(IntKind.u64.wrap (Int.tdiv x5_1 2)), (wrap64 (x6_1 + 1)), (by first | rfl | (simp; done) | (simp [*]; done)), (by first | rfl | (simp; done) | (simp [*]; done)), H', ⟨by have := HK1.out; omega⟩, ⟨by repeat (first | (with_reducible first | exact HB.out | apply below_alloc | apply pw_below_drewN | apply below_drew1) | exact HB.out)⟩⟩
    ·rw [if_neg c8] at H
     have c8b0 : decide (x6_1 < 8) = false := decide_eq_false c8
     clear c8
     obtain rfl := Option.some.inj H
     go_wp2
     go_ret
     exact ⟨by first | rfl | (simp [errW_none, errW_some] <;> rfl) | (simp [*, errW_none, errW_some] <;> rfl), by repeat (first | (with_reducible first | exact HB.out | apply below_alloc | apply pw_below_drewN | apply below_drew1) | exact HB.out)⟩
   ·rw [if_neg c7] at H
    have c7b0 : ((Int.tmod x5_1 2) == 0) = false := beq_eq_false_iff_ne.mpr c7
    have c7b1 : ((Int.tmod x5_1 2) != 0) = true := bne_iff_ne.mpr c7
    obtain rfl := Option.some.inj H
    go_wp2
    go_ret
    exact ⟨by first | rfl | (simp [errW_none, errW_some] <;> rfl) | (simp [*, errW_none, errW_some] <;> rfl), by repeat (first | (with_reducible first | exact HB.out | apply below_alloc | apply pw_below_drewN | apply below_drew1) | exact HB.out)⟩
/-! ### saltusref15_Heights: function 21 -/
def saltusref15_Heights.l0 : Nat → ByteArray → List Int → List Int → Int → Int → Option (List Int)
 | 0, _, _, _, _, _ => none
 | k + 1, x0, x5, x9, x10, x11 => if x11 < x10 then (if 0 ≤ x11 then (if x11 < (x9.length : Int) then ((saltusref15_Height.f k x0 (rd x9 x11)).bind fun t120 => (if x5.length < 17592186044416 then (saltusref15_Heights.l0 k x0 (x5 ++ [t120]) x9 x10 (wrap64 (x11 + 1))) else (none))) else (none)) else (none)) else (some x5)
def saltusref15_Heights.f (k : Nat) (a0 : ByteArray) (l1 : List Int) : Option (List Int) := saltusref15_Heights.l0 k a0 (([] : List Int)) l1 (l1.length : Int) 0
theorem saltusref15_Heights.mono_l : ∀ k, (∀ y0 y1 y2 y3 y4, LeO (saltusref15_Heights.l0 k y0 y1 y2 y3 y4) (saltusref15_Heights.l0 (k + 1) y0 y1 y2 y3 y4))
 | 0 => fun _ _ _ _ _ r h => by simp [saltusref15_Heights.l0] at h
 | k + 1 => by
  have ih0 := saltusref15_Heights.mono_l k
  ·intro y0 y1 y2 y3 y4
   unfold saltusref15_Heights.l0
   repeat' first
   | (with_reducible exact ih0 _ _ _ _ _)
   | (with_reducible exact saltusref15_Height.mono _ _ _)
   | (with_reducible exact LeO.refl _)
   | (with_reducible exact LeO.none _)
   | (with_reducible refine LeO.ite ?_ ?_)
   | (with_reducible refine LeO.bind ?_ (fun _ => ?_))
   | exact ih0 _ _ _ _ _
   | exact saltusref15_Height.mono _ _ _
   | exact LeO.none _
   | refine LeO.ite ?_ ?_
   | refine LeO.bind ?_ (fun _ => ?_)
theorem saltusref15_Heights.mono : ∀ a0 a1 k, LeO (saltusref15_Heights.f k a0 a1) (saltusref15_Heights.f (k + 1) a0 a1) := by
 intro a0 a1 k
 have ih0 := saltusref15_Heights.mono_l k
 unfold saltusref15_Heights.f
 repeat' first
   | (with_reducible exact ih0 _ _ _ _ _)
   | (with_reducible exact saltusref15_Height.mono _ _ _)
   | (with_reducible exact LeO.refl _)
   | (with_reducible exact LeO.none _)
   | (with_reducible refine LeO.ite ?_ ?_)
   | (with_reducible refine LeO.bind ?_ (fun _ => ?_))
   | exact ih0 _ _ _ _ _
   | exact saltusref15_Height.mono _ _ _
   | exact LeO.none _
   | refine LeO.ite ?_ ?_
   | refine LeO.bind ?_ (fun _ => ?_)
set_option maxHeartbeats 8000000 in
set_option maxRecDepth 100000 in
theorem saltusref15_Heights.calls (k : Nat) (a0 : ByteArray) (A1 : Option Addr) (c1 : Nat) (l1 : List Int) (r : List Int) (w : World) (hr1 : Kd.C (Kd.int .u64) w A1 l1.length l1) (hc1 : l1.length ≤ c1) (h : saltusref15_Heights.f k a0 l1 = some r) :
  Calls Tryd.prog 21 #[.string a0, .slice A1 l1.length c1] w fun e w' => ∃ v0_ : Value, e = .returned (v0_) ∧ Kd.R (Kd.int .i64) 3 w' w.heap.size (fun _ => True) v0_ r ∧ Below w.heap.size w w' := by
 have HR1 := Aside0.mk hr1
 have HC1 := Aside0.mk hc1
 clear hr1 hc1
 have HB := Aside0.mk (Below.refl w.heap.size w)
 have H : (saltusref15_Heights.l0 k a0 (([] : List Int)) l1 (l1.length : Int) 0) = some r := h
 clear h
 obtain ⟨y116, hy116⟩ : ∃ y_ : List Int, y_ = (([] : List Int)) := ⟨_, rfl⟩
 replace H : (saltusref15_Heights.l0 k a0 y116 l1 (l1.length : Int) 0) = some r := by first | (rw [hy116]; with_reducible exact H) | (have H2_ := (Option.bind_some _ _).symm.trans H; rw [hy116]; with_reducible exact H2_) | (have H2_ := (Option.bind_some _ _).symm.trans H; with_reducible exact H2_) | with_reducible exact H | (rw [hy116]; exact H) | exact H
 have Ny116 := Aside0.mk hy116
 clear hy116
 have H' := Aside0.mk H
 clear H
 go_enter Tryd.func21, Tryd.ntmps21
 go_wp2_with (first | ((with_reducible refine gate_dst (N := 8) rfl ?_); refine Kd.R_lit (Kd.int .i64) _ 3 ?hg (N := 8) ?hd (xs := ([] : List Int)) (inner := []) (ok := fun _ => True) (okp := fun _ => True) ?hr ?hp (fun _ hk => hk) trivial (Below.refl _ _) (Nat.le_refl _) (by simp) ?_; (case hd => rfl); (case hg => rfl); (case hr => first | (go_simp; done) | (go_simp; rfl)); (case hp => exact (Reps.none _ _)); intro v117 w3 ho4 hb hg_ hnew_; clear hg_ hnew_; (first | rw [← Ny116.out] at ho4 | (simp only [Int.reduceToNat] at ho4; rw [← Ny116.out] at ho4)); have n0_ := Aside0.mk (Kd.R_lower ho4 (below_size (by repeat (first | (with_reducible first | exact HB.out | apply below_alloc | apply pw_below_drewN | apply below_drew1) | exact HB.out)))); have n1_ := Aside0.mk (below_step (by repeat (first | (with_reducible first | exact HB.out | apply below_alloc | apply pw_below_drewN | apply below_drew1) | exact HB.out)) hb); clear HB; have HO118 := n0_; have HB := n1_; clear n0_ n1_; clear hb ho4))
 go_loopg [5, 11] k (fun kq v5 v11 w' => ∃ (x5_1 : List Int) (x11_1 : Int), v11 = .int .i64 x11_1 ∧ Aside0 (saltusref15_Heights.l0 kq a0 x5_1 l1 (l1.length : Int) x11_1 = some r) ∧ Aside0 (kq ≤ k) ∧ Aside0 (Kd.R (Kd.int .i64) 3 w' w.heap.size (fun _ => True) v5 x5_1) ∧ Aside0 (Below w.heap.size w w'))
 case atStart => exact ⟨(y116), (0), (by first | rfl | (simp; done) | (simp [*]; done)), H', ⟨Nat.le_refl _⟩, ⟨by (with_reducible repeat (first | apply Kd.R_alloc | apply Kd.R_drewN | apply Kd.R_drew)); exact HO118.out⟩, ⟨by repeat (first | (with_reducible first | exact HB.out | apply below_alloc | apply pw_below_drewN | apply below_drew1) | exact HB.out)⟩⟩
 case round =>
  clear H'
  try clear c1
  try clear c2
  try clear p2
  obtain ⟨x5_1, x11_1, rfl, HA, HK1, HO_5, HB⟩ := hrel
  cases gk with
  | zero => exact absurd HA.out (by simp [saltusref15_Heights.l0])
  | succ k1 =>
   have H := HA.out
   clear HA
   simp only [saltusref15_Heights.l0] at H
   by_cases c5 : x11_1 < (l1.length : Int)
   ·rw [if_pos c5] at H
    have c5b0 : decide (x11_1 < (l1.length : Int)) = true := decide_eq_true c5
    clear c5
    by_cases c6 : 0 ≤ x11_1
    ·rw [if_pos c6] at H
     have c6b0 : decide (0 ≤ x11_1) = true := decide_eq_true c6
     clear c6
     by_cases c7 : x11_1 < (l1.length : Int)
     ·rw [if_pos c7] at H
      have c7b0 : decide (x11_1 < (l1.length : Int)) = true := decide_eq_true c7
      clear c7
      replace H := Option.bind_eq_some_iff.mp H
      obtain ⟨t120, A80, H⟩ := H
      (try dsimp only at H)
      have A8 := Aside0.mk A80
      clear A80
      by_cases c9 : x5_1.length < 17592186044416
      ·rw [if_pos c9] at H
       have LMc9 := Aside0.mk c9
       clear c9
       obtain ⟨y121, hy121⟩ : ∃ y_ : List Int, y_ = (x5_1 ++ [t120]) := ⟨_, rfl⟩
       replace H : (saltusref15_Heights.l0 k1 a0 y121 l1 (l1.length : Int) (wrap64 (x11_1 + 1))) = some r := by first | (rw [hy121]; with_reducible exact H) | (have H2_ := (Option.bind_some _ _).symm.trans H; rw [hy121]; with_reducible exact H2_) | (have H2_ := (Option.bind_some _ _).symm.trans H; with_reducible exact H2_) | with_reducible exact H | (rw [hy121]; exact H) | exact H
       have Ny121 := Aside0.mk hy121
       clear hy121
       have H' := Aside0.mk H
       clear H
       have p119 : 0 ≤ (x11_1 : Int) := of_decide_eq_true (by first | (with_reducible assumption) | assumption)
       have q119 : x11_1 < (l1.length : Int) := of_decide_eq_true (by first | (with_reducible assumption) | assumption)
       obtain ⟨ad119, e119, hx119_0⟩ := Kd.at_int HR1.out x11_1 p119 q119
       cases e119
       replace hx119_0 := (HB.out.cell (World.block_lt_of_cell? w _ hx119_0)).trans hx119_0
       replace p119 := eq_true p119
       replace q119 := eq_true q119
       go_wp2_with (first | ((with_reducible refine gate_callee (f := 18) rfl ?_); refine goesL_ (some 18) rfl rfl Tryd.func18 (by kernel_rfl) rfl #[.string a0, .int .u64 (rd l1 x11_1)] rfl (by (try simp only [List.map_toArray, List.map_cons, List.map_nil]); first | done | rfl | (simp only [List.length_drop, List.length_take]; rfl)) ?_; (with_reducible refine (saltusref15_Height.calls k1 a0 (rd l1 x11_1) t120 _ A8.out).mono ?_); rintro e w10 ⟨rfl, hb⟩; refine ⟨_, rfl, ?_⟩; have n0_ := Aside0.mk (Kd.R_below (by (with_reducible repeat (first | apply Kd.R_alloc | apply Kd.R_drewN | apply Kd.R_drew)); exact HO_5.out) hb); have n1_ := Aside0.mk (below_step (by repeat (first | (with_reducible first | exact HB.out | apply below_alloc | apply pw_below_drewN | apply below_drew1) | exact HB.out)) hb); clear HO_5; clear HB; have HO_5 := n0_; have HB := n1_; clear n0_ n1_; (try clear hb); (try clear hb2); (try clear hk); (try clear hi)) | ((with_reducible refine gate_builtin (b := .append) (xs := #[.tmp 15, .tmp 19]) rfl ?_); at_builtin; refine Kd.R_append (Kd.int .i64) (w0 := w) w.heap.size rfl (.tmp 15) (.tmp 19) 27 3 (.int .i64 0) 8 rfl Tryd.underlying27 info3 rfl (by decide) (by omega) u5 x5_1 t120 [.int .i64 t120] (fun _ => True) (fun _ => False) rfl rfl ?aP (fun _ hk => hk.elim) ?aF ?aO ?aB ?aS ?aL ?_; (case aP => exact rfl); (case aB => exact (by repeat (first | (with_reducible first | exact HB.out | apply below_alloc | apply pw_below_drewN | apply below_drew1) | exact HB.out))); (case aF => exact (fun _ _ => trivial)); (case aO => exact (by (with_reducible repeat (first | apply Kd.R_alloc | apply Kd.R_drewN | apply Kd.R_drew)); exact HO_5.out)); (case aS => exact (below_size (by repeat (first | (with_reducible first | exact HB.out | apply below_alloc | apply pw_below_drewN | apply below_drew1) | exact HB.out)))); (case aL => have := LMc9.out; omega); intro v122 w11 ho hb hg hat; rw [← Ny121.out] at ho; have n0_ := Aside0.mk (hb); have n1_ := Aside0.mk (ho); clear HB; clear HO_5; have HB := n0_; have HO123 := n1_; clear n0_ n1_; clear ho hb hg hat))
       go_roundg k1
       case measure => have := HK1.out; omega
       case rel => exact ⟨(y121), (wrap64 (x11_1 + 1)), (by first | rfl | (simp; done) | (simp [*]; done)), H', ⟨by have := HK1.out; omega⟩, ⟨by (with_reducible repeat (first | apply Kd.R_alloc | apply Kd.R_drewN | apply Kd.R_drew)); exact HO123.out⟩, ⟨by repeat (first | (with_reducible first | exact HB.out | apply below_alloc | apply pw_below_drewN | apply below_drew1) | exact HB.out)⟩⟩
      ·rw [if_neg c9] at H
       exact absurd H (by simp)
     ·rw [if_neg c7] at H
      exact absurd H (by simp)
    ·rw [if_neg c6] at H
     exact absurd H (by simp)
   ·rw [if_neg c5] at H
    have c5b0 : decide (x11_1 < (l1.length : Int)) = false := decide_eq_false c5
    clear c5
    obtain rfl := Option.some.inj H
    go_wp2
    go_ret
    exact ⟨_, by first | rfl | (simp [errW_none, errW_some] <;> rfl) | (simp [*, errW_none, errW_some] <;> rfl), by (with_reducible repeat (first | apply Kd.R_alloc | apply Kd.R_drewN | apply Kd.R_drew)); exact HO_5.out, by repeat (first | (with_reducible first | exact HB.out | apply below_alloc | apply pw_below_drewN | apply below_drew1) | exact HB.out)⟩
/-! ### saltuslaw15_TowerHeights: function 3 -/
def saltuslaw15_TowerHeights.f (k : Nat) (a0 : ByteArray) (a1 : Int) (l2 : List Int) : Option (Bool) := if 0 ≤ (mn (a0.size : Int) 80) then (if (mn (a0.size : Int) 80) ≤ (a0.size : Int) then (if 0 ≤ (mn (l2.length : Int) 12) then (if (mn (l2.length : Int) 12) ≤ (l2.length : Int) then ((saltuslaw15_alive.f k).bind fun t125 => (if t125 = true then ((tower_Height.f (a0.extract 0 ((mn (a0.size : Int) 80) : Int).toNat) a1).bind fun t126 => ((saltusref15_Height.f k (a0.extract 0 ((mn (a0.size : Int) 80) : Int).toNat) a1).bind fun t127 => (if t126 = t127 then ((tower_Heights.f (a0.extract 0 ((mn (a0.size : Int) 80) : Int).toNat) (l2.take ((mn (l2.length : Int) 12) : Int).toNat)).bind fun t128 => ((saltusref15_Heights.f k (a0.extract 0 ((mn (a0.size : Int) 80) : Int).toNat) (l2.take ((mn (l2.length : Int) 12) : Int).toNat)).bind fun t131 => ((saltusref15_Same.f k t128 t131).bind fun t134 => (some t134)))) else (some false)))) else (some false))) else (none)) else (none)) else (none)) else (none)
theorem saltuslaw15_TowerHeights.mono : ∀ a0 a1 a2 k, LeO (saltuslaw15_TowerHeights.f k a0 a1 a2) (saltuslaw15_TowerHeights.f (k + 1) a0 a1 a2) := by
 intro a0 a1 a2 k
 unfold saltuslaw15_TowerHeights.f
 repeat' first
   | (with_reducible exact saltuslaw15_alive.mono _)
   | (with_reducible exact saltusref15_Height.mono _ _ _)
   | (with_reducible exact saltusref15_Heights.mono _ _ _)
   | (with_reducible exact saltusref15_Same.mono _ _ _)
   | (with_reducible exact LeO.refl _)
   | (with_reducible exact LeO.none _)
   | (with_reducible refine LeO.ite ?_ ?_)
   | (with_reducible refine LeO.bind ?_ (fun _ => ?_))
   | exact saltuslaw15_alive.mono _
   | exact saltusref15_Height.mono _ _ _
   | exact saltusref15_Heights.mono _ _ _
   | exact saltusref15_Same.mono _ _ _
   | exact LeO.none _
   | refine LeO.ite ?_ ?_
   | refine LeO.bind ?_ (fun _ => ?_)
set_option maxHeartbeats 8000000 in
set_option maxRecDepth 100000 in
theorem saltuslaw15_TowerHeights.calls (k : Nat) (a0 : ByteArray) (a1 : Int) (A2 : Option Addr) (c2 : Nat) (l2 : List Int) (r : Bool) (w : World) (hr2 : Kd.C (Kd.int .u64) w A2 l2.length l2) (hc2 : l2.length ≤ c2) (hr : Aside0 (r = true)) (h : saltuslaw15_TowerHeights.f k a0 a1 l2 = some r) (hT0 : Tower.TabW w) :
  Calls Tryd.prog 3 #[.string a0, .int .u64 a1, .slice A2 l2.length c2] w fun e w' => e = .returned (.bool r) ∧ Below w.heap.size w w' := by
 have HT := Aside0.mk hT0
 clear hT0
 have HR2 := Aside0.mk hr2
 have HC2 := Aside0.mk hc2
 clear hr2 hc2
 have HB := Aside0.mk (Below.refl w.heap.size w)
 have H : (if 0 ≤ (mn (a0.size : Int) 80) then (if (mn (a0.size : Int) 80) ≤ (a0.size : Int) then (if 0 ≤ (mn (l2.length : Int) 12) then (if (mn (l2.length : Int) 12) ≤ (l2.length : Int) then ((saltuslaw15_alive.f k).bind fun t125 => (if t125 = true then ((tower_Height.f (a0.extract 0 ((mn (a0.size : Int) 80) : Int).toNat) a1).bind fun t126 => ((saltusref15_Height.f k (a0.extract 0 ((mn (a0.size : Int) 80) : Int).toNat) a1).bind fun t127 => (if t126 = t127 then ((tower_Heights.f (a0.extract 0 ((mn (a0.size : Int) 80) : Int).toNat) (l2.take ((mn (l2.length : Int) 12) : Int).toNat)).bind fun t128 => ((saltusref15_Heights.f k (a0.extract 0 ((mn (a0.size : Int) 80) : Int).toNat) (l2.take ((mn (l2.length : Int) 12) : Int).toNat)).bind fun t131 => ((saltusref15_Same.f k t128 t131).bind fun t134 => (some t134)))) else (some false)))) else (some false))) else (none)) else (none)) else (none)) else (none)) = some r := h
 clear h
 obtain ⟨ji4, hji4⟩ : ∃ j_ : Int, (mn (a0.size : Int) 80) = j_ := ⟨_, rfl⟩
 replace H : (if 0 ≤ (ji4) then (if (ji4) ≤ (a0.size : Int) then (if 0 ≤ (mn (l2.length : Int) 12) then (if (mn (l2.length : Int) 12) ≤ (l2.length : Int) then ((saltuslaw15_alive.f k).bind fun t125 => (if t125 = true then ((tower_Height.f (a0.extract 0 ((ji4) : Int).toNat) a1).bind fun t126 => ((saltusref15_Height.f k (a0.extract 0 ((ji4) : Int).toNat) a1).bind fun t127 => (if t126 = t127 then ((tower_Heights.f (a0.extract 0 ((ji4) : Int).toNat) (l2.take ((mn (l2.length : Int) 12) : Int).toNat)).bind fun t128 => ((saltusref15_Heights.f k (a0.extract 0 ((ji4) : Int).toNat) (l2.take ((mn (l2.length : Int) 12) : Int).toNat)).bind fun t131 => ((saltusref15_Same.f k t128 t131).bind fun t134 => (some t134)))) else (some false)))) else (some false))) else (none)) else (none)) else (none)) else (none)) = some r := by first | (rw [hji4] at H; exact H) | (simp only [hji4] at H ⊢; exact H)
 (try (have hji4h : ji4 ≤ 80 := by (rw [← hji4]; unfold mn; (repeat' split) <;> omega)))
 (try (have hji4g : ji4 ≤ 64 := by omega))
 (try (have hji4l : 0 ≤ ji4 := by (rw [← hji4]; unfold mn; (repeat' split) <;> omega)))
 (try (have hji4m : 0 ≤ ji4 := by omega))
 have hji4_ : (if 80 < (a0.size : Int) then 80 else (a0.size : Int)) = ji4 := hji4
 by_cases c5 : 0 ≤ (ji4)
 ·rw [if_pos c5] at H
  have c5b0 := eq_true c5
  have c5b1 : decide (0 ≤ (ji4)) = true := decide_eq_true c5
  clear c5
  by_cases c6 : (ji4) ≤ (a0.size : Int)
  ·rw [if_pos c6] at H
   have c6b0 := eq_true c6
   have c6b1 : decide ((ji4) ≤ (a0.size : Int)) = true := decide_eq_true c6
   clear c6
   obtain ⟨ji7, hji7⟩ : ∃ j_ : Int, (mn (l2.length : Int) 12) = j_ := ⟨_, rfl⟩
   replace H : (if 0 ≤ (ji7) then (if (ji7) ≤ (l2.length : Int) then ((saltuslaw15_alive.f k).bind fun t125 => (if t125 = true then ((tower_Height.f (a0.extract 0 ((ji4) : Int).toNat) a1).bind fun t126 => ((saltusref15_Height.f k (a0.extract 0 ((ji4) : Int).toNat) a1).bind fun t127 => (if t126 = t127 then ((tower_Heights.f (a0.extract 0 ((ji4) : Int).toNat) (l2.take ((ji7) : Int).toNat)).bind fun t128 => ((saltusref15_Heights.f k (a0.extract 0 ((ji4) : Int).toNat) (l2.take ((ji7) : Int).toNat)).bind fun t131 => ((saltusref15_Same.f k t128 t131).bind fun t134 => (some t134)))) else (some false)))) else (some false))) else (none)) else (none)) = some r := by first | (rw [hji7] at H; exact H) | (simp only [hji7] at H ⊢; exact H)
   (try (have hji7h : ji7 ≤ 12 := by (rw [← hji7]; unfold mn; (repeat' split) <;> omega)))
   (try (have hji7g : ji7 ≤ 64 := by omega))
   (try (have hji7l : 0 ≤ ji7 := by (rw [← hji7]; unfold mn; (repeat' split) <;> omega)))
   (try (have hji7m : 0 ≤ ji7 := by omega))
   have hji7_ : (if 12 < (l2.length : Int) then 12 else (l2.length : Int)) = ji7 := hji7
   by_cases c8 : 0 ≤ (ji7)
   ·rw [if_pos c8] at H
    have c8b0 := eq_true c8
    have c8b1 : decide (0 ≤ (ji7)) = true := decide_eq_true c8
    clear c8
    by_cases c9 : (ji7) ≤ (l2.length : Int)
    ·rw [if_pos c9] at H
     have c9b0 := eq_true c9
     have c9b1 : decide ((ji7) ≤ (l2.length : Int)) = true := decide_eq_true c9
     clear c9
     replace H := Option.bind_eq_some_iff.mp H
     obtain ⟨t125, A100, H⟩ := H
     (try dsimp only at H)
     have A10 := Aside0.mk A100
     clear A100
     by_cases c11 : t125 = true
     ·subst c11
      have H1 : ((tower_Height.f (a0.extract 0 ((ji4) : Int).toNat) a1).bind fun t126 => ((saltusref15_Height.f k (a0.extract 0 ((ji4) : Int).toNat) a1).bind fun t127 => (if t126 = t127 then ((tower_Heights.f (a0.extract 0 ((ji4) : Int).toNat) (l2.take ((ji7) : Int).toNat)).bind fun t128 => ((saltusref15_Heights.f k (a0.extract 0 ((ji4) : Int).toNat) (l2.take ((ji7) : Int).toNat)).bind fun t131 => ((saltusref15_Same.f k t128 t131).bind fun t134 => (some t134)))) else (some false)))) = some r := by rw [if_pos rfl] at H; exact H
      clear H
      have H := H1
      clear H1
      replace H := Option.bind_eq_some_iff.mp H
      obtain ⟨t126, A120, H⟩ := H
      (try dsimp only at H)
      have A12 := Aside0.mk A120
      clear A120
      replace H := Option.bind_eq_some_iff.mp H
      obtain ⟨t127, A130, H⟩ := H
      (try dsimp only at H)
      have A13 := Aside0.mk A130
      clear A130
      by_cases c14 : t126 = t127
      ·rw [if_pos c14] at H
       have c14b0 : (t126 == t127) = true := beq_iff_eq.mpr c14
       have c14b1 : (t126 != t127) = false := bne_eq_false_iff_eq.mpr c14
       clear c14
       replace H := Option.bind_eq_some_iff.mp H
       obtain ⟨t128, A150, H⟩ := H
       (try dsimp only at H)
       have A15 := Aside0.mk A150
       clear A150
       replace H := Option.bind_eq_some_iff.mp H
       obtain ⟨t131, A160, H⟩ := H
       (try dsimp only at H)
       have A16 := Aside0.mk A160
       clear A160
       replace H := Option.bind_eq_some_iff.mp H
       obtain ⟨t134, A170, H⟩ := H
       (try dsimp only at H)
       have A17 := Aside0.mk A170
       clear A170
       obtain rfl := Option.some.inj H
       obtain ⟨i018, hi018, _, hsz18, _⟩ := info_parts info22
       obtain ⟨hcut18, hA18, hC18⟩ := print_take_of (P := Tryd.prog) (Value.int .u64) 0 23 22 .i64 Tryd.underlying23 hi018 hsz18 A2 c2 l2 (ji7) (of_decide_eq_true (by first | (with_reducible assumption) | assumption)) (of_decide_eq_true (by first | (with_reducible assumption) | assumption)) HC2.out
       have HR124 := Aside0.mk (Kd.C_of_reads (h1 := fun _ => rfl) (hA18 _ (Kd.reads_of_C HR2.out)))
       have HC124 := Aside0.mk hC18
       clear hA18 hC18 hi018 hsz18
       obtain ⟨lq18, hlq18⟩ : ∃ l_, l2.take ((ji7) : Int).toNat = l_ := ⟨_, rfl⟩
       simp only [hlq18] at *
       clear hlq18
       go_enter Tryd.func3, Tryd.ntmps3
       go_wp2_with (first | (go_at_call 16; (with_reducible refine (saltuslaw15_alive.calls k  true _ A10.out (Tower.tab_below HT.out (by repeat (first | (with_reducible first | exact HB.out | apply below_alloc | apply pw_below_drewN | apply below_drew1) | exact HB.out)) (Nat.le_refl _))).mono ?_); rintro e w19 ⟨rfl, hb⟩; have n0_ := Aside0.mk (below_step (by repeat (first | (with_reducible first | exact HB.out | apply below_alloc | apply pw_below_drewN | apply below_drew1) | exact HB.out)) hb); clear HB; have HB := n0_; clear n0_; (try clear hb); (try clear hb2); (try clear hk); (try clear hi)) | (go_at_call 17; (with_reducible refine (tower_Height.calls (a0.extract 0 ((ji4) : Int).toNat) a1 t126 _ A12.out (Tower.tab_below HT.out (by repeat (first | (with_reducible first | exact HB.out | apply below_alloc | apply pw_below_drewN | apply below_drew1) | exact HB.out)) (Nat.le_refl _))).mono ?_); rintro e w20 ⟨rfl, hb⟩; have n0_ := Aside0.mk (below_step (by repeat (first | (with_reducible first | exact HB.out | apply below_alloc | apply pw_below_drewN | apply below_drew1) | exact HB.out)) hb); clear HB; have HB := n0_; clear n0_; (try clear hb); (try clear hb2); (try clear hk); (try clear hi)) | (go_at_call 18; (with_reducible refine (saltusref15_Height.calls k (a0.extract 0 ((ji4) : Int).toNat) a1 t127 _ A13.out).mono ?_); rintro e w21 ⟨rfl, hb⟩; have n0_ := Aside0.mk (below_step (by repeat (first | (with_reducible first | exact HB.out | apply below_alloc | apply pw_below_drewN | apply below_drew1) | exact HB.out)) hb); clear HB; have HB := n0_; clear n0_; (try clear hb); (try clear hb2); (try clear hk); (try clear hi)) | (go_at_call 20; (with_reducible refine (tower_Heights.calls (a0.extract 0 ((ji4) : Int).toNat) _ _ lq18 t128 _ ?side1 ?side2 A15.out (Tower.tab_below HT.out (by repeat (first | (with_reducible first | exact HB.out | apply below_alloc | apply pw_below_drewN | apply below_drew1) | exact HB.out)) (Nat.le_refl _))).mono ?_); (case side1 => repeat (first | exact (Kd.C_below HR124.out HB.out) | (with_reducible refine Kd.C_alloc ?_ _) | (with_reducible refine Kd.C_drewN ?_ _) | (with_reducible refine Kd.C_drew ?_))); (case side2 => exact HC124.out); rintro e w22 ⟨v129, rfl, ho0, hb⟩; have n0_ := Aside0.mk (Kd.R_lower ho0 (below_size (by repeat (first | (with_reducible first | exact HB.out | apply below_alloc | apply pw_below_drewN | apply below_drew1) | exact HB.out)))); have n1_ := Aside0.mk (below_step (by repeat (first | (with_reducible first | exact HB.out | apply below_alloc | apply pw_below_drewN | apply below_drew1) | exact HB.out)) hb); clear HB; have HO130 := n0_; have HB := n1_; clear n0_ n1_; (try clear hb); (try clear hb2); (try clear hk); (try clear hi); (try clear ho0)) | (go_at_call 21; (with_reducible refine (saltusref15_Heights.calls k (a0.extract 0 ((ji4) : Int).toNat) _ _ lq18 t131 _ ?side1 ?side2 A16.out).mono ?_); (case side1 => repeat (first | exact (Kd.C_below HR124.out HB.out) | (with_reducible refine Kd.C_alloc ?_ _) | (with_reducible refine Kd.C_drewN ?_ _) | (with_reducible refine Kd.C_drew ?_))); (case side2 => exact HC124.out); rintro e w23 ⟨v132, rfl, ho0, hb⟩; have n0_ := Aside0.mk (Kd.R_elder' (by (with_reducible repeat (first | apply Kd.R_alloc | apply Kd.R_drewN | apply Kd.R_drew)); exact HO130.out) (Kd.R_base ho0) hb); have n1_ := Aside0.mk (Kd.R_lower (Kd.R_new' ho0 (Kd.R_lt (by (with_reducible repeat (first | apply Kd.R_alloc | apply Kd.R_drewN | apply Kd.R_drew)); exact HO130.out))) (below_size (by repeat (first | (with_reducible first | exact HB.out | apply below_alloc | apply pw_below_drewN | apply below_drew1) | exact HB.out)))); have n2_ := Aside0.mk (below_step (by repeat (first | (with_reducible first | exact HB.out | apply below_alloc | apply pw_below_drewN | apply below_drew1) | exact HB.out)) hb); clear HO130; clear HB; have HO130 := n0_; have HO133 := n1_; have HB := n2_; clear n0_ n1_ n2_; (try clear hb); (try clear hb2); (try clear hk); (try clear hi); (try clear ho0); obtain ⟨Ao24, co24, eo24⟩ := Kd.R_slice HO130.out; subst eo24; obtain ⟨Ao25, co25, eo25⟩ := Kd.R_slice HO133.out; subst eo25) | (go_at_call 19; (with_reducible refine (saltusref15_Same.calls k _ _ t128 _ _ t131 t134 _ ?side1 ?side2 ?side3 ?side4 A17.out).mono ?_); (case side1 => repeat (first | exact (Kd.R_reads' HO130.out).2.2 | (with_reducible refine Kd.C_alloc ?_ _) | (with_reducible refine Kd.C_drewN ?_ _) | (with_reducible refine Kd.C_drew ?_))); (case side2 => exact (Kd.R_reads' HO130.out).2.1); (case side3 => repeat (first | exact (Kd.R_reads' HO133.out).2.2 | (with_reducible refine Kd.C_alloc ?_ _) | (with_reducible refine Kd.C_drewN ?_ _) | (with_reducible refine Kd.C_drew ?_))); (case side4 => exact (Kd.R_reads' HO133.out).2.1); rintro e w' ⟨rfl, ⟨nd, rfl⟩⟩; (try first | exact ⟨rfl, _, World.drewN_drewN _ _ _⟩ | exact ⟨rfl, _, Eq.trans (World.drewN_drewN _ _ _) (congrArg (World.drewN _) (Nat.add_assoc _ _ _))⟩)))
       repeat (go_quiet (first | (go_at_call 16; (with_reducible refine (saltuslaw15_alive.calls k  true _ A10.out (Tower.tab_below HT.out (by repeat (first | (with_reducible first | exact HB.out | apply below_alloc | apply pw_below_drewN | apply below_drew1) | exact HB.out)) (Nat.le_refl _))).mono ?_); rintro e w19 ⟨rfl, hb⟩; have n0_ := Aside0.mk (below_step (by repeat (first | (with_reducible first | exact HB.out | apply below_alloc | apply pw_below_drewN | apply below_drew1) | exact HB.out)) hb); clear HB; have HB := n0_; clear n0_; (try clear hb); (try clear hb2); (try clear hk); (try clear hi)) | (go_at_call 17; (with_reducible refine (tower_Height.calls (a0.extract 0 ((ji4) : Int).toNat) a1 t126 _ A12.out (Tower.tab_below HT.out (by repeat (first | (with_reducible first | exact HB.out | apply below_alloc | apply pw_below_drewN | apply below_drew1) | exact HB.out)) (Nat.le_refl _))).mono ?_); rintro e w20 ⟨rfl, hb⟩; have n0_ := Aside0.mk (below_step (by repeat (first | (with_reducible first | exact HB.out | apply below_alloc | apply pw_below_drewN | apply below_drew1) | exact HB.out)) hb); clear HB; have HB := n0_; clear n0_; (try clear hb); (try clear hb2); (try clear hk); (try clear hi)) | (go_at_call 18; (with_reducible refine (saltusref15_Height.calls k (a0.extract 0 ((ji4) : Int).toNat) a1 t127 _ A13.out).mono ?_); rintro e w21 ⟨rfl, hb⟩; have n0_ := Aside0.mk (below_step (by repeat (first | (with_reducible first | exact HB.out | apply below_alloc | apply pw_below_drewN | apply below_drew1) | exact HB.out)) hb); clear HB; have HB := n0_; clear n0_; (try clear hb); (try clear hb2); (try clear hk); (try clear hi)) | (go_at_call 20; (with_reducible refine (tower_Heights.calls (a0.extract 0 ((ji4) : Int).toNat) _ _ lq18 t128 _ ?side1 ?side2 A15.out (Tower.tab_below HT.out (by repeat (first | (with_reducible first | exact HB.out | apply below_alloc | apply pw_below_drewN | apply below_drew1) | exact HB.out)) (Nat.le_refl _))).mono ?_); (case side1 => repeat (first | exact (Kd.C_below HR124.out HB.out) | (with_reducible refine Kd.C_alloc ?_ _) | (with_reducible refine Kd.C_drewN ?_ _) | (with_reducible refine Kd.C_drew ?_))); (case side2 => exact HC124.out); rintro e w22 ⟨v129, rfl, ho0, hb⟩; have n0_ := Aside0.mk (Kd.R_lower ho0 (below_size (by repeat (first | (with_reducible first | exact HB.out | apply below_alloc | apply pw_below_drewN | apply below_drew1) | exact HB.out)))); have n1_ := Aside0.mk (below_step (by repeat (first | (with_reducible first | exact HB.out | apply below_alloc | apply pw_below_drewN | apply below_drew1) | exact HB.out)) hb); clear HB; have HO130 := n0_; have HB := n1_; clear n0_ n1_; (try clear hb); (try clear hb2); (try clear hk); (try clear hi); (try clear ho0)) | (go_at_call 21; (with_reducible refine (saltusref15_Heights.calls k (a0.extract 0 ((ji4) : Int).toNat) _ _ lq18 t131 _ ?side1 ?side2 A16.out).mono ?_); (case side1 => repeat (first | exact (Kd.C_below HR124.out HB.out) | (with_reducible refine Kd.C_alloc ?_ _) | (with_reducible refine Kd.C_drewN ?_ _) | (with_reducible refine Kd.C_drew ?_))); (case side2 => exact HC124.out); rintro e w23 ⟨v132, rfl, ho0, hb⟩; have n0_ := Aside0.mk (Kd.R_elder' (by (with_reducible repeat (first | apply Kd.R_alloc | apply Kd.R_drewN | apply Kd.R_drew)); exact HO130.out) (Kd.R_base ho0) hb); have n1_ := Aside0.mk (Kd.R_lower (Kd.R_new' ho0 (Kd.R_lt (by (with_reducible repeat (first | apply Kd.R_alloc | apply Kd.R_drewN | apply Kd.R_drew)); exact HO130.out))) (below_size (by repeat (first | (with_reducible first | exact HB.out | apply below_alloc | apply pw_below_drewN | apply below_drew1) | exact HB.out)))); have n2_ := Aside0.mk (below_step (by repeat (first | (with_reducible first | exact HB.out | apply below_alloc | apply pw_below_drewN | apply below_drew1) | exact HB.out)) hb); clear HO130; clear HB; have HO130 := n0_; have HO133 := n1_; have HB := n2_; clear n0_ n1_ n2_; (try clear hb); (try clear hb2); (try clear hk); (try clear hi); (try clear ho0); obtain ⟨Ao24, co24, eo24⟩ := Kd.R_slice HO130.out; subst eo24; obtain ⟨Ao25, co25, eo25⟩ := Kd.R_slice HO133.out; subst eo25) | (go_at_call 19; (with_reducible refine (saltusref15_Same.calls k _ _ t128 _ _ t131 t134 _ ?side1 ?side2 ?side3 ?side4 A17.out).mono ?_); (case side1 => repeat (first | exact (Kd.R_reads' HO130.out).2.2 | (with_reducible refine Kd.C_alloc ?_ _) | (with_reducible refine Kd.C_drewN ?_ _) | (with_reducible refine Kd.C_drew ?_))); (case side2 => exact (Kd.R_reads' HO130.out).2.1); (case side3 => repeat (first | exact (Kd.R_reads' HO133.out).2.2 | (with_reducible refine Kd.C_alloc ?_ _) | (with_reducible refine Kd.C_drewN ?_ _) | (with_reducible refine Kd.C_drew ?_))); (case side4 => exact (Kd.R_reads' HO133.out).2.1); rintro e w' ⟨rfl, ⟨nd, rfl⟩⟩; (try first | exact ⟨rfl, _, World.drewN_drewN _ _ _⟩ | exact ⟨rfl, _, Eq.trans (World.drewN_drewN _ _ _) (congrArg (World.drewN _) (Nat.add_assoc _ _ _))⟩))); try go_wp2_with (first | (go_at_call 16; (with_reducible refine (saltuslaw15_alive.calls k  true _ A10.out (Tower.tab_below HT.out (by repeat (first | (with_reducible first | exact HB.out | apply below_alloc | apply pw_below_drewN | apply below_drew1) | exact HB.out)) (Nat.le_refl _))).mono ?_); rintro e w19 ⟨rfl, hb⟩; have n0_ := Aside0.mk (below_step (by repeat (first | (with_reducible first | exact HB.out | apply below_alloc | apply pw_below_drewN | apply below_drew1) | exact HB.out)) hb); clear HB; have HB := n0_; clear n0_; (try clear hb); (try clear hb2); (try clear hk); (try clear hi)) | (go_at_call 17; (with_reducible refine (tower_Height.calls (a0.extract 0 ((ji4) : Int).toNat) a1 t126 _ A12.out (Tower.tab_below HT.out (by repeat (first | (with_reducible first | exact HB.out | apply below_alloc | apply pw_below_drewN | apply below_drew1) | exact HB.out)) (Nat.le_refl _))).mono ?_); rintro e w20 ⟨rfl, hb⟩; have n0_ := Aside0.mk (below_step (by repeat (first | (with_reducible first | exact HB.out | apply below_alloc | apply pw_below_drewN | apply below_drew1) | exact HB.out)) hb); clear HB; have HB := n0_; clear n0_; (try clear hb); (try clear hb2); (try clear hk); (try clear hi)) | (go_at_call 18; (with_reducible refine (saltusref15_Height.calls k (a0.extract 0 ((ji4) : Int).toNat) a1 t127 _ A13.out).mono ?_); rintro e w21 ⟨rfl, hb⟩; have n0_ := Aside0.mk (below_step (by repeat (first | (with_reducible first | exact HB.out | apply below_alloc | apply pw_below_drewN | apply below_drew1) | exact HB.out)) hb); clear HB; have HB := n0_; clear n0_; (try clear hb); (try clear hb2); (try clear hk); (try clear hi)) | (go_at_call 20; (with_reducible refine (tower_Heights.calls (a0.extract 0 ((ji4) : Int).toNat) _ _ lq18 t128 _ ?side1 ?side2 A15.out (Tower.tab_below HT.out (by repeat (first | (with_reducible first | exact HB.out | apply below_alloc | apply pw_below_drewN | apply below_drew1) | exact HB.out)) (Nat.le_refl _))).mono ?_); (case side1 => repeat (first | exact (Kd.C_below HR124.out HB.out) | (with_reducible refine Kd.C_alloc ?_ _) | (with_reducible refine Kd.C_drewN ?_ _) | (with_reducible refine Kd.C_drew ?_))); (case side2 => exact HC124.out); rintro e w22 ⟨v129, rfl, ho0, hb⟩; have n0_ := Aside0.mk (Kd.R_lower ho0 (below_size (by repeat (first | (with_reducible first | exact HB.out | apply below_alloc | apply pw_below_drewN | apply below_drew1) | exact HB.out)))); have n1_ := Aside0.mk (below_step (by repeat (first | (with_reducible first | exact HB.out | apply below_alloc | apply pw_below_drewN | apply below_drew1) | exact HB.out)) hb); clear HB; have HO130 := n0_; have HB := n1_; clear n0_ n1_; (try clear hb); (try clear hb2); (try clear hk); (try clear hi); (try clear ho0)) | (go_at_call 21; (with_reducible refine (saltusref15_Heights.calls k (a0.extract 0 ((ji4) : Int).toNat) _ _ lq18 t131 _ ?side1 ?side2 A16.out).mono ?_); (case side1 => repeat (first | exact (Kd.C_below HR124.out HB.out) | (with_reducible refine Kd.C_alloc ?_ _) | (with_reducible refine Kd.C_drewN ?_ _) | (with_reducible refine Kd.C_drew ?_))); (case side2 => exact HC124.out); rintro e w23 ⟨v132, rfl, ho0, hb⟩; have n0_ := Aside0.mk (Kd.R_elder' (by (with_reducible repeat (first | apply Kd.R_alloc | apply Kd.R_drewN | apply Kd.R_drew)); exact HO130.out) (Kd.R_base ho0) hb); have n1_ := Aside0.mk (Kd.R_lower (Kd.R_new' ho0 (Kd.R_lt (by (with_reducible repeat (first | apply Kd.R_alloc | apply Kd.R_drewN | apply Kd.R_drew)); exact HO130.out))) (below_size (by repeat (first | (with_reducible first | exact HB.out | apply below_alloc | apply pw_below_drewN | apply below_drew1) | exact HB.out)))); have n2_ := Aside0.mk (below_step (by repeat (first | (with_reducible first | exact HB.out | apply below_alloc | apply pw_below_drewN | apply below_drew1) | exact HB.out)) hb); clear HO130; clear HB; have HO130 := n0_; have HO133 := n1_; have HB := n2_; clear n0_ n1_ n2_; (try clear hb); (try clear hb2); (try clear hk); (try clear hi); (try clear ho0); obtain ⟨Ao24, co24, eo24⟩ := Kd.R_slice HO130.out; subst eo24; obtain ⟨Ao25, co25, eo25⟩ := Kd.R_slice HO133.out; subst eo25) | (go_at_call 19; (with_reducible refine (saltusref15_Same.calls k _ _ t128 _ _ t131 t134 _ ?side1 ?side2 ?side3 ?side4 A17.out).mono ?_); (case side1 => repeat (first | exact (Kd.R_reads' HO130.out).2.2 | (with_reducible refine Kd.C_alloc ?_ _) | (with_reducible refine Kd.C_drewN ?_ _) | (with_reducible refine Kd.C_drew ?_))); (case side2 => exact (Kd.R_reads' HO130.out).2.1); (case side3 => repeat (first | exact (Kd.R_reads' HO133.out).2.2 | (with_reducible refine Kd.C_alloc ?_ _) | (with_reducible refine Kd.C_drewN ?_ _) | (with_reducible refine Kd.C_drew ?_))); (case side4 => exact (Kd.R_reads' HO133.out).2.1); rintro e w' ⟨rfl, ⟨nd, rfl⟩⟩; (try first | exact ⟨rfl, _, World.drewN_drewN _ _ _⟩ | exact ⟨rfl, _, Eq.trans (World.drewN_drewN _ _ _) (congrArg (World.drewN _) (Nat.add_assoc _ _ _))⟩))))
       go_ret
       exact ⟨by first | rfl | (simp [errW_none, errW_some] <;> rfl) | (simp only [← hji4, ← hji7]; first | rfl | (simp [errW_none, errW_some] <;> rfl)) | (simp [*, errW_none, errW_some] <;> rfl), by repeat (first | (with_reducible first | exact HB.out | apply below_alloc | apply pw_below_drewN | apply below_drew1) | exact HB.out)⟩
      ·rw [if_neg c14] at H
       have c14b0 : (t126 == t127) = false := beq_eq_false_iff_ne.mpr c14
       have c14b1 : (t126 != t127) = true := bne_iff_ne.mpr c14
       exact absurd ((Option.some.inj H).trans hr.out) (by decide)
     ·replace c11 := Bool.eq_false_iff.mpr c11
      subst c11
      have H1 : (some false) = some r := by rw [if_neg (show ¬ (false = true) by decide)] at H; exact H
      clear H
      have H := H1
      clear H1
      exact absurd ((Option.some.inj H).trans hr.out) (by decide)
    ·rw [if_neg c9] at H
     exact absurd H (by simp)
   ·rw [if_neg c8] at H
    exact absurd H (by simp)
  ·rw [if_neg c6] at H
   exact absurd H (by simp)
 ·rw [if_neg c5] at H
  exact absurd H (by simp)
/-! ### saltusref15_Above: function 23 -/
def saltusref15_Above.l0 : Nat → ByteArray → Int → List Int → List Int → Int → Int → Option (List Int)
 | 0, _, _, _, _, _, _ => none
 | k + 1, x0, x2, x7, x11, x12, x13 => if x13 < x12 then (if 0 ≤ x13 then (if x13 < (x11.length : Int) then ((saltusref15_Height.f k x0 (rd x11 x13)).bind fun t139 => (if t139 > x2 then (if x7.length < 17592186044416 then (saltusref15_Above.l0 k x0 x2 (x7 ++ [x13]) x11 x12 (wrap64 (x13 + 1))) else (none)) else (saltusref15_Above.l0 k x0 x2 x7 x11 x12 (wrap64 (x13 + 1))))) else (none)) else (none)) else (some x7)
def saltusref15_Above.f (k : Nat) (a0 : ByteArray) (l1 : List Int) (a2 : Int) : Option (List Int) := saltusref15_Above.l0 k a0 a2 (([] : List Int)) l1 (l1.length : Int) 0
theorem saltusref15_Above.mono_l : ∀ k, (∀ y0 y1 y2 y3 y4 y5, LeO (saltusref15_Above.l0 k y0 y1 y2 y3 y4 y5) (saltusref15_Above.l0 (k + 1) y0 y1 y2 y3 y4 y5))
 | 0 => fun _ _ _ _ _ _ r h => by simp [saltusref15_Above.l0] at h
 | k + 1 => by
  have ih0 := saltusref15_Above.mono_l k
  ·intro y0 y1 y2 y3 y4 y5
   unfold saltusref15_Above.l0
   repeat' first
   | (with_reducible exact ih0 _ _ _ _ _ _)
   | (with_reducible exact saltusref15_Height.mono _ _ _)
   | (with_reducible exact LeO.refl _)
   | (with_reducible exact LeO.none _)
   | (with_reducible refine LeO.ite ?_ ?_)
   | (with_reducible refine LeO.bind ?_ (fun _ => ?_))
   | exact ih0 _ _ _ _ _ _
   | exact saltusref15_Height.mono _ _ _
   | exact LeO.none _
   | refine LeO.ite ?_ ?_
   | refine LeO.bind ?_ (fun _ => ?_)
theorem saltusref15_Above.mono : ∀ a0 a1 a2 k, LeO (saltusref15_Above.f k a0 a1 a2) (saltusref15_Above.f (k + 1) a0 a1 a2) := by
 intro a0 a1 a2 k
 have ih0 := saltusref15_Above.mono_l k
 unfold saltusref15_Above.f
 repeat' first
   | (with_reducible exact ih0 _ _ _ _ _ _)
   | (with_reducible exact saltusref15_Height.mono _ _ _)
   | (with_reducible exact LeO.refl _)
   | (with_reducible exact LeO.none _)
   | (with_reducible refine LeO.ite ?_ ?_)
   | (with_reducible refine LeO.bind ?_ (fun _ => ?_))
   | exact ih0 _ _ _ _ _ _
   | exact saltusref15_Height.mono _ _ _
   | exact LeO.none _
   | refine LeO.ite ?_ ?_
   | refine LeO.bind ?_ (fun _ => ?_)
set_option maxHeartbeats 8000000 in
set_option maxRecDepth 100000 in
theorem saltusref15_Above.calls (k : Nat) (a0 : ByteArray) (A1 : Option Addr) (c1 : Nat) (l1 : List Int) (a2 : Int) (r : List Int) (w : World) (hr1 : Kd.C (Kd.int .u64) w A1 l1.length l1) (hc1 : l1.length ≤ c1) (h : saltusref15_Above.f k a0 l1 a2 = some r) :
  Calls Tryd.prog 23 #[.string a0, .slice A1 l1.length c1, .int .i64 a2] w fun e w' => ∃ v0_ : Value, e = .returned (v0_) ∧ Kd.R (Kd.int .i64) 3 w' w.heap.size (fun _ => True) v0_ r ∧ Below w.heap.size w w' := by
 have HR1 := Aside0.mk hr1
 have HC1 := Aside0.mk hc1
 clear hr1 hc1
 have HB := Aside0.mk (Below.refl w.heap.size w)
 have H : (saltusref15_Above.l0 k a0 a2 (([] : List Int)) l1 (l1.length : Int) 0) = some r := h
 clear h
 obtain ⟨y135, hy135⟩ : ∃ y_ : List Int, y_ = (([] : List Int)) := ⟨_, rfl⟩
 replace H : (saltusref15_Above.l0 k a0 a2 y135 l1 (l1.length : Int) 0) = some r := by first | (rw [hy135]; with_reducible exact H) | (have H2_ := (Option.bind_some _ _).symm.trans H; rw [hy135]; with_reducible exact H2_) | (have H2_ := (Option.bind_some _ _).symm.trans H; with_reducible exact H2_) | with_reducible exact H | (rw [hy135]; exact H) | exact H
 have Ny135 := Aside0.mk hy135
 clear hy135
 have H' := Aside0.mk H
 clear H
 go_enter Tryd.func23, Tryd.ntmps23
 go_wp2_with (first | ((with_reducible refine gate_dst (N := 10) rfl ?_); refine Kd.R_lit (Kd.int .i64) _ 3 ?hg (N := 10) ?hd (xs := ([] : List Int)) (inner := []) (ok := fun _ => True) (okp := fun _ => True) ?hr ?hp (fun _ hk => hk) trivial (Below.refl _ _) (Nat.le_refl _) (by simp) ?_; (case hd => rfl); (case hg => rfl); (case hr => first | (go_simp; done) | (go_simp; rfl)); (case hp => exact (Reps.none _ _)); intro v136 w4 ho5 hb hg_ hnew_; clear hg_ hnew_; (first | rw [← Ny135.out] at ho5 | (simp only [Int.reduceToNat] at ho5; rw [← Ny135.out] at ho5)); have n0_ := Aside0.mk (Kd.R_lower ho5 (below_size (by repeat (first | (with_reducible first | exact HB.out | apply below_alloc | apply pw_below_drewN | apply below_drew1) | exact HB.out)))); have n1_ := Aside0.mk (below_step (by repeat (first | (with_reducible first | exact HB.out | apply below_alloc | apply pw_below_drewN | apply below_drew1) | exact HB.out)) hb); clear HB; have HO137 := n0_; have HB := n1_; clear n0_ n1_; clear hb ho5))
 go_loopg [7, 13] k (fun kq v7 v13 w' => ∃ (x7_1 : List Int) (x13_1 : Int), v13 = .int .i64 x13_1 ∧ Aside0 (saltusref15_Above.l0 kq a0 a2 x7_1 l1 (l1.length : Int) x13_1 = some r) ∧ Aside0 (kq ≤ k) ∧ Aside0 (Kd.R (Kd.int .i64) 3 w' w.heap.size (fun _ => True) v7 x7_1) ∧ Aside0 (Below w.heap.size w w'))
 case atStart => exact ⟨(y135), (0), (by first | rfl | (simp; done) | (simp [*]; done)), H', ⟨Nat.le_refl _⟩, ⟨by (with_reducible repeat (first | apply Kd.R_alloc | apply Kd.R_drewN | apply Kd.R_drew)); exact HO137.out⟩, ⟨by repeat (first | (with_reducible first | exact HB.out | apply below_alloc | apply pw_below_drewN | apply below_drew1) | exact HB.out)⟩⟩
 case round =>
  clear H'
  try clear c1
  try clear c2
  try clear p2
  obtain ⟨x7_1, x13_1, rfl, HA, HK1, HO_7, HB⟩ := hrel
  cases gk with
  | zero => exact absurd HA.out (by simp [saltusref15_Above.l0])
  | succ k1 =>
   have H := HA.out
   clear HA
   simp only [saltusref15_Above.l0] at H
   by_cases c6 : x13_1 < (l1.length : Int)
   ·rw [if_pos c6] at H
    have c6b0 : decide (x13_1 < (l1.length : Int)) = true := decide_eq_true c6
    clear c6
    by_cases c7 : 0 ≤ x13_1
    ·rw [if_pos c7] at H
     have c7b0 : decide (0 ≤ x13_1) = true := decide_eq_true c7
     clear c7
     by_cases c8 : x13_1 < (l1.length : Int)
     ·rw [if_pos c8] at H
      have c8b0 : decide (x13_1 < (l1.length : Int)) = true := decide_eq_true c8
      clear c8
      replace H := Option.bind_eq_some_iff.mp H
      obtain ⟨t139, A90, H⟩ := H
      (try dsimp only at H)
      have A9 := Aside0.mk A90
      clear A90
      by_cases c10 : t139 > a2
      ·rw [if_pos c10] at H
       have c10b0 : decide (a2 < t139) = true := decide_eq_true c10
       clear c10
       by_cases c11 : x7_1.length < 17592186044416
       ·rw [if_pos c11] at H
        have LMc11 := Aside0.mk c11
        clear c11
        obtain ⟨y140, hy140⟩ : ∃ y_ : List Int, y_ = (x7_1 ++ [x13_1]) := ⟨_, rfl⟩
        replace H : (saltusref15_Above.l0 k1 a0 a2 y140 l1 (l1.length : Int) (wrap64 (x13_1 + 1))) = some r := by first | (rw [hy140]; with_reducible exact H) | (have H2_ := (Option.bind_some _ _).symm.trans H; rw [hy140]; with_reducible exact H2_) | (have H2_ := (Option.bind_some _ _).symm.trans H; with_reducible exact H2_) | with_reducible exact H | (rw [hy140]; exact H) | exact H
        have Ny140 := Aside0.mk hy140
        clear hy140
        have H' := Aside0.mk H
        clear H
        have p138 : 0 ≤ (x13_1 : Int) := of_decide_eq_true (by first | (with_reducible assumption) | assumption)
        have q138 : x13_1 < (l1.length : Int) := of_decide_eq_true (by first | (with_reducible assumption) | assumption)
        obtain ⟨ad138, e138, hx138_0⟩ := Kd.at_int HR1.out x13_1 p138 q138
        cases e138
        replace hx138_0 := (HB.out.cell (World.block_lt_of_cell? w _ hx138_0)).trans hx138_0
        replace p138 := eq_true p138
        replace q138 := eq_true q138
        go_wp2_with (first | ((with_reducible refine gate_callee (f := 18) rfl ?_); refine goesL_ (some 20) rfl rfl Tryd.func18 (by kernel_rfl) rfl #[.string a0, .int .u64 (rd l1 x13_1)] rfl (by (try simp only [List.map_toArray, List.map_cons, List.map_nil]); first | done | rfl | (simp only [List.length_drop, List.length_take]; rfl)) ?_; (with_reducible refine (saltusref15_Height.calls k1 a0 (rd l1 x13_1) t139 _ A9.out).mono ?_); rintro e w12 ⟨rfl, hb⟩; refine ⟨_, rfl, ?_⟩; have n0_ := Aside0.mk (Kd.R_below (by (with_reducible repeat (first | apply Kd.R_alloc | apply Kd.R_drewN | apply Kd.R_drew)); exact HO_7.out) hb); have n1_ := Aside0.mk (below_step (by repeat (first | (with_reducible first | exact HB.out | apply below_alloc | apply pw_below_drewN | apply below_drew1) | exact HB.out)) hb); clear HO_7; clear HB; have HO_7 := n0_; have HB := n1_; clear n0_ n1_; (try clear hb); (try clear hb2); (try clear hk); (try clear hi)) | ((with_reducible refine gate_builtin (b := .append) (xs := #[.tmp 23, .tmp 25]) rfl ?_); at_builtin; refine Kd.R_append (Kd.int .i64) (w0 := w) w.heap.size rfl (.tmp 23) (.tmp 25) 27 3 (.int .i64 0) 8 rfl Tryd.underlying27 info3 rfl (by decide) (by omega) u7 x7_1 x13_1 [.int .i64 x13_1] (fun _ => True) (fun _ => False) rfl rfl ?aP (fun _ hk => hk.elim) ?aF ?aO ?aB ?aS ?aL ?_; (case aP => exact rfl); (case aB => exact (by repeat (first | (with_reducible first | exact HB.out | apply below_alloc | apply pw_below_drewN | apply below_drew1) | exact HB.out))); (case aF => exact (fun _ _ => trivial)); (case aO => exact (by (with_reducible repeat (first | apply Kd.R_alloc | apply Kd.R_drewN | apply Kd.R_drew)); exact HO_7.out)); (case aS => exact (below_size (by repeat (first | (with_reducible first | exact HB.out | apply below_alloc | apply pw_below_drewN | apply below_drew1) | exact HB.out)))); (case aL => have := LMc11.out; omega); intro v141 w13 ho hb hg hat; rw [← Ny140.out] at ho; have n0_ := Aside0.mk (hb); have n1_ := Aside0.mk (ho); clear HB; clear HO_7; have HB := n0_; have HO142 := n1_; clear n0_ n1_; clear ho hb hg hat))
        go_roundg k1
        case measure => have := HK1.out; omega
        case rel => exact ⟨(y140), (wrap64 (x13_1 + 1)), (by first | rfl | (simp; done) | (simp [*]; done)), H', ⟨by have := HK1.out; omega⟩, ⟨by (with_reducible repeat (first | apply Kd.R_alloc | apply Kd.R_drewN | apply Kd.R_drew)); exact HO142.out⟩, ⟨by repeat (first | (with_reducible first | exact HB.out | apply below_alloc | apply pw_below_drewN | apply below_drew1) | exact HB.out)⟩⟩
       ·rw [if_neg c11] at H
        exact absurd H (by simp)
      ·rw [if_neg c10] at H
       have c10b0 : decide (a2 < t139) = false := decide_eq_false c10
       clear c10
       have H' := Aside0.mk H
       clear H
       have p138 : 0 ≤ (x13_1 : Int) := of_decide_eq_true (by first | (with_reducible assumption) | assumption)
       have q138 : x13_1 < (l1.length : Int) := of_decide_eq_true (by first | (with_reducible assumption) | assumption)
       obtain ⟨ad138, e138, hx138_0⟩ := Kd.at_int HR1.out x13_1 p138 q138
       cases e138
       replace hx138_0 := (HB.out.cell (World.block_lt_of_cell? w _ hx138_0)).trans hx138_0
       replace p138 := eq_true p138
       replace q138 := eq_true q138
       go_wp2_with (first | ((with_reducible refine gate_callee (f := 18) rfl ?_); refine goesL_ (some 20) rfl rfl Tryd.func18 (by kernel_rfl) rfl #[.string a0, .int .u64 (rd l1 x13_1)] rfl (by (try simp only [List.map_toArray, List.map_cons, List.map_nil]); first | done | rfl | (simp only [List.length_drop, List.length_take]; rfl)) ?_; (with_reducible refine (saltusref15_Height.calls k1 a0 (rd l1 x13_1) t139 _ A9.out).mono ?_); rintro e w14 ⟨rfl, hb⟩; refine ⟨_, rfl, ?_⟩; have n0_ := Aside0.mk (Kd.R_below (by (with_reducible repeat (first | apply Kd.R_alloc | apply Kd.R_drewN | apply Kd.R_drew)); exact HO_7.out) hb); have n1_ := Aside0.mk (below_step (by repeat (first | (with_reducible first | exact HB.out | apply below_alloc | apply pw_below_drewN | apply below_drew1) | exact HB.out)) hb); clear HO_7; clear HB; have HO_7 := n0_; have HB := n1_; clear n0_ n1_; (try clear hb); (try clear hb2); (try clear hk); (try clear hi)))
       go_roundg k1
       case measure => have := HK1.out; omega
       case rel => exact ⟨(x7_1), (wrap64 (x13_1 + 1)), (by first | rfl | (simp; done) | (simp [*]; done)), H', ⟨by have := HK1.out; omega⟩, ⟨by (with_reducible repeat (first | apply Kd.R_alloc | apply Kd.R_drewN | apply Kd.R_drew)); exact HO_7.out⟩, ⟨by repeat (first | (with_reducible first | exact HB.out | apply below_alloc | apply pw_below_drewN | apply below_drew1) | exact HB.out)⟩⟩
     ·rw [if_neg c8] at H
      exact absurd H (by simp)
    ·rw [if_neg c7] at H
     exact absurd H (by simp)
   ·rw [if_neg c6] at H
    have c6b0 : decide (x13_1 < (l1.length : Int)) = false := decide_eq_false c6
    clear c6
    obtain rfl := Option.some.inj H
    go_wp2
    go_ret
    exact ⟨_, by first | rfl | (simp [errW_none, errW_some] <;> rfl) | (simp [*, errW_none, errW_some] <;> rfl), by (with_reducible repeat (first | apply Kd.R_alloc | apply Kd.R_drewN | apply Kd.R_drew)); exact HO_7.out, by repeat (first | (with_reducible first | exact HB.out | apply below_alloc | apply pw_below_drewN | apply below_drew1) | exact HB.out)⟩
end Go.Proofs.YtolbhliepkcihaaDoor.QTW
end
section
namespace Go.Proofs.YtolbhliepkcihaaDoor.QTW
open Go.RowKit Go.Proofs.YtolbhliepkcihaaDoor.Kinds Go.Proofs.YtolbhliepkcihaaDoorW.PrintWords Go.Proofs.YtolbhliepkcihaaDoorW.PrintLast Go.Proofs.YtolbhliepkcihaaDoorW.PrintMore
attribute [local go_sem] max2_int min2_int max_two min_two max_three min_three max_four min_four   -- for this text's walks alone
set_option linter.unusedVariables false
set_option linter.unusedSimpArgs false
/-! ### saltuslaw15_TowerFalls: function 5 -/
mutual
def saltuslaw15_TowerFalls.j0 : Nat → ByteArray → List Int → List Int → Bool → Option (Bool)
 | 0, _, _, _, _ => none
 | k + 1, x0, x1, x5, x35 => if x35 = true then (some false) else (if 0 ≤ (x1.length : Int) then (if ((x1.length : Int) : Int).toNat ≤ 35184372088832 then (saltuslaw15_TowerFalls.l0 k x0 x1 x5 (List.replicate ((x1.length : Int) : Int).toNat 0) 0) else (none)) else (none))
def saltuslaw15_TowerFalls.l0 : Nat → ByteArray → List Int → List Int → List Int → Int → Option (Bool)
 | 0, _, _, _, _, _ => none
 | k + 1, x0, x1, x5, x6, x39 => if x39 < 9 then ((tower_Above.f x0 x1 x39).bind fun bt162 => (if bt162.2 = 0 then (if x39 = 8 then (saltuslaw15_TowerFalls.j2 k x0 x1 x5 x6 x39 bt162.1 x39 (decide ((bt162.1.length : Int) > 0))) else (saltuslaw15_TowerFalls.j2 k x0 x1 x5 x6 x39 bt162.1 x39 false)) else (saltuslaw15_TowerFalls.j2 k x0 x1 x5 x6 x39 bt162.1 x39 true))) else (saltuslaw15_TowerFalls.l2 k x0 x1 x6 x5 (x5.length : Int) 0)
def saltuslaw15_TowerFalls.j2 : Nat → ByteArray → List Int → List Int → List Int → Int → List Int → Int → Bool → Option (Bool)
 | 0, _, _, _, _, _, _, _, _ => none
 | k + 1, x0, x1, x5, x6, x7, x8, x39, x59 => if x59 = true then (some false) else (saltuslaw15_TowerFalls.l1 k x0 x1 x5 x6 x7 x8 x39 x8 (x8.length : Int) 0)
def saltuslaw15_TowerFalls.l1 : Nat → ByteArray → List Int → List Int → List Int → Int → List Int → Int → List Int → Int → Int → Option (Bool)
 | 0, _, _, _, _, _, _, _, _, _, _ => none
 | k + 1, x0, x1, x5, x6, x7, x8, x39, x60, x61, x62 => if x62 < x61 then (if 0 ≤ x62 then (if x62 < (x60.length : Int) then (if (rd x60 x62) < 0 then (some false) else (if (rd x60 x62) ≥ (x1.length : Int) then (some false) else (if x62 > 0 then (if 0 ≤ (wrap64 (x62 - 1)) then (if (wrap64 (x62 - 1)) < (x8.length : Int) then (if (rd x8 (wrap64 (x62 - 1))) ≥ (rd x60 x62) then (some false) else (if 0 ≤ (rd x60 x62) then (if (rd x60 x62) < (x6.length : Int) then (if (rd x6 (rd x60 x62)) = x7 then (saltuslaw15_TowerFalls.l1 k x0 x1 x5 (x6.set ((rd x60 x62) : Int).toNat (wrap64 ((rd x6 (rd x60 x62)) + 1))) x7 x8 x39 x60 x61 (wrap64 (x62 + 1))) else (some false)) else (none)) else (none))) else (none)) else (none)) else (if 0 ≤ (rd x60 x62) then (if (rd x60 x62) < (x6.length : Int) then (if (rd x6 (rd x60 x62)) = x7 then (saltuslaw15_TowerFalls.l1 k x0 x1 x5 (x6.set ((rd x60 x62) : Int).toNat (wrap64 ((rd x6 (rd x60 x62)) + 1))) x7 x8 x39 x60 x61 (wrap64 (x62 + 1))) else (some false)) else (none)) else (none))))) else (none)) else (none)) else (saltuslaw15_TowerFalls.l0 k x0 x1 x5 x6 (wrap64 (x39 + 1)))
def saltuslaw15_TowerFalls.l2 : Nat → ByteArray → List Int → List Int → List Int → Int → Int → Option (Bool)
 | 0, _, _, _, _, _, _ => none
 | k + 1, x0, x1, x6, x104, x105, x106 => if x106 < x105 then (if 0 ≤ x106 then (if x106 < (x104.length : Int) then (if (rd x104 x106) < 1 then (some false) else (if (rd x104 x106) > 8 then (some false) else (if x106 < (x6.length : Int) then (if (rd x6 x106) = (rd x104 x106) then (if x106 < (x1.length : Int) then ((tower_Height.f x0 (rd x1 x106)).bind fun t177 => (if t177 = (rd x104 x106) then (saltuslaw15_TowerFalls.l2 k x0 x1 x6 x104 x105 (wrap64 (x106 + 1))) else (some false))) else (none)) else (some false)) else (none)))) else (none)) else (none)) else (some true)
end
def saltuslaw15_TowerFalls.f (k : Nat) (a0 : ByteArray) (l1 : List Int) : Option (Bool) := if 0 ≤ (mn (a0.size : Int) 80) then (if (mn (a0.size : Int) 80) ≤ (a0.size : Int) then (if 0 ≤ (mn (l1.length : Int) 8) then (if (mn (l1.length : Int) 8) ≤ (l1.length : Int) then ((tower_Heights.f (a0.extract 0 ((mn (a0.size : Int) 80) : Int).toNat) (l1.take ((mn (l1.length : Int) 8) : Int).toNat)).bind fun t155 => (if (t155.length : Int) = ((l1.take ((mn (l1.length : Int) 8) : Int).toNat).length : Int) then ((saltuslaw15_alive.f k).bind fun t158 => (saltuslaw15_TowerFalls.j0 k (a0.extract 0 ((mn (a0.size : Int) 80) : Int).toNat) (l1.take ((mn (l1.length : Int) 8) : Int).toNat) t155 (!t158))) else (saltuslaw15_TowerFalls.j0 k (a0.extract 0 ((mn (a0.size : Int) 80) : Int).toNat) (l1.take ((mn (l1.length : Int) 8) : Int).toNat) t155 true))) else (none)) else (none)) else (none)) else (none)
theorem saltuslaw15_TowerFalls.mono_l : ∀ k, (∀ y0 y1 y2 y3, LeO (saltuslaw15_TowerFalls.j0 k y0 y1 y2 y3) (saltuslaw15_TowerFalls.j0 (k + 1) y0 y1 y2 y3)) ∧ (∀ y0 y1 y2 y3 y4, LeO (saltuslaw15_TowerFalls.l0 k y0 y1 y2 y3 y4) (saltuslaw15_TowerFalls.l0 (k + 1) y0 y1 y2 y3 y4)) ∧ (∀ y0 y1 y2 y3 y4 y5 y6 y7, LeO (saltuslaw15_TowerFalls.j2 k y0 y1 y2 y3 y4 y5 y6 y7) (saltuslaw15_TowerFalls.j2 (k + 1) y0 y1 y2 y3 y4 y5 y6 y7)) ∧ (∀ y0 y1 y2 y3 y4 y5 y6 y7 y8 y9, LeO (saltuslaw15_TowerFalls.l1 k y0 y1 y2 y3 y4 y5 y6 y7 y8 y9) (saltuslaw15_TowerFalls.l1 (k + 1) y0 y1 y2 y3 y4 y5 y6 y7 y8 y9)) ∧ (∀ y0 y1 y2 y3 y4 y5, LeO (saltuslaw15_TowerFalls.l2 k y0 y1 y2 y3 y4 y5) (saltuslaw15_TowerFalls.l2 (k + 1) y0 y1 y2 y3 y4 y5))
 | 0 => ⟨fun _ _ _ _ r h => by simp [saltuslaw15_TowerFalls.j0] at h, fun _ _ _ _ _ r h => by simp [saltuslaw15_TowerFalls.l0] at h, fun _ _ _ _ _ _ _ _ r h => by simp [saltuslaw15_TowerFalls.j2] at h, fun _ _ _ _ _ _ _ _ _ _ r h => by simp [saltuslaw15_TowerFalls.l1] at h, fun _ _ _ _ _ _ r h => by simp [saltuslaw15_TowerFalls.l2] at h⟩
 | k + 1 => by
  obtain ⟨ih0, ih1, ih2, ih3, ih4⟩ := saltuslaw15_TowerFalls.mono_l k
  refine ⟨?_, ?_, ?_, ?_, ?_⟩
  ·intro y0 y1 y2 y3
   unfold saltuslaw15_TowerFalls.j0
   repeat' first
   | (with_reducible exact ih0 _ _ _ _)
   | (with_reducible exact ih1 _ _ _ _ _)
   | (with_reducible exact ih2 _ _ _ _ _ _ _ _)
   | (with_reducible exact ih3 _ _ _ _ _ _ _ _ _ _)
   | (with_reducible exact ih4 _ _ _ _ _ _)
   | (with_reducible exact saltuslaw15_alive.mono _)
   | (with_reducible exact LeO.refl _)
   | (with_reducible exact LeO.none _)
   | (with_reducible refine LeO.ite ?_ ?_)
   | (with_reducible refine LeO.bind ?_ (fun _ => ?_))
   | exact ih0 _ _ _ _
   | exact ih1 _ _ _ _ _
   | exact ih2 _ _ _ _ _ _ _ _
   | exact ih3 _ _ _ _ _ _ _ _ _ _
   | exact ih4 _ _ _ _ _ _
   | exact saltuslaw15_alive.mono _
   | exact LeO.none _
   | refine LeO.ite ?_ ?_
   | refine LeO.bind ?_ (fun _ => ?_)
  ·intro y0 y1 y2 y3 y4
   unfold saltuslaw15_TowerFalls.l0
   repeat' first
   | (with_reducible exact ih0 _ _ _ _)
   | (with_reducible exact ih1 _ _ _ _ _)
   | (with_reducible exact ih2 _ _ _ _ _ _ _ _)
   | (with_reducible exact ih3 _ _ _ _ _ _ _ _ _ _)
   | (with_reducible exact ih4 _ _ _ _ _ _)
   | (with_reducible exact saltuslaw15_alive.mono _)
   | (with_reducible exact LeO.refl _)
   | (with_reducible exact LeO.none _)
   | (with_reducible refine LeO.ite ?_ ?_)
   | (with_reducible refine LeO.bind ?_ (fun _ => ?_))
   | exact ih0 _ _ _ _
   | exact ih1 _ _ _ _ _
   | exact ih2 _ _ _ _ _ _ _ _
   | exact ih3 _ _ _ _ _ _ _ _ _ _
   | exact ih4 _ _ _ _ _ _
   | exact saltuslaw15_alive.mono _
   | exact LeO.none _
   | refine LeO.ite ?_ ?_
   | refine LeO.bind ?_ (fun _ => ?_)
  ·intro y0 y1 y2 y3 y4 y5 y6 y7
   unfold saltuslaw15_TowerFalls.j2
   repeat' first
   | (with_reducible exact ih0 _ _ _ _)
   | (with_reducible exact ih1 _ _ _ _ _)
   | (with_reducible exact ih2 _ _ _ _ _ _ _ _)
   | (with_reducible exact ih3 _ _ _ _ _ _ _ _ _ _)
   | (with_reducible exact ih4 _ _ _ _ _ _)
   | (with_reducible exact saltuslaw15_alive.mono _)
   | (with_reducible exact LeO.refl _)
   | (with_reducible exact LeO.none _)
   | (with_reducible refine LeO.ite ?_ ?_)
   | (with_reducible refine LeO.bind ?_ (fun _ => ?_))
   | exact ih0 _ _ _ _
   | exact ih1 _ _ _ _ _
   | exact ih2 _ _ _ _ _ _ _ _
   | exact ih3 _ _ _ _ _ _ _ _ _ _
   | exact ih4 _ _ _ _ _ _
   | exact saltuslaw15_alive.mono _
   | exact LeO.none _
   | refine LeO.ite ?_ ?_
   | refine LeO.bind ?_ (fun _ => ?_)
  ·intro y0 y1 y2 y3 y4 y5 y6 y7 y8 y9
   unfold saltuslaw15_TowerFalls.l1
   repeat' first
   | (with_reducible exact ih0 _ _ _ _)
   | (with_reducible exact ih1 _ _ _ _ _)
   | (with_reducible exact ih2 _ _ _ _ _ _ _ _)
   | (with_reducible exact ih3 _ _ _ _ _ _ _ _ _ _)
   | (with_reducible exact ih4 _ _ _ _ _ _)
   | (with_reducible exact saltuslaw15_alive.mono _)
   | (with_reducible exact LeO.refl _)
   | (with_reducible exact LeO.none _)
   | (with_reducible refine LeO.ite ?_ ?_)
   | (with_reducible refine LeO.bind ?_ (fun _ => ?_))
   | exact ih0 _ _ _ _
   | exact ih1 _ _ _ _ _
   | exact ih2 _ _ _ _ _ _ _ _
   | exact ih3 _ _ _ _ _ _ _ _ _ _
   | exact ih4 _ _ _ _ _ _
   | exact saltuslaw15_alive.mono _
   | exact LeO.none _
   | refine LeO.ite ?_ ?_
   | refine LeO.bind ?_ (fun _ => ?_)
  ·intro y0 y1 y2 y3 y4 y5
   unfold saltuslaw15_TowerFalls.l2
   repeat' first
   | (with_reducible exact ih0 _ _ _ _)
   | (with_reducible exact ih1 _ _ _ _ _)
   | (with_reducible exact ih2 _ _ _ _ _ _ _ _)
   | (with_reducible exact ih3 _ _ _ _ _ _ _ _ _ _)
   | (with_reducible exact ih4 _ _ _ _ _ _)
   | (with_reducible exact saltuslaw15_alive.mono _)
   | (with_reducible exact LeO.refl _)
   | (with_reducible exact LeO.none _)
   | (with_reducible refine LeO.ite ?_ ?_)
   | (with_reducible refine LeO.bind ?_ (fun _ => ?_))
   | exact ih0 _ _ _ _
   | exact ih1 _ _ _ _ _
   | exact ih2 _ _ _ _ _ _ _ _
   | exact ih3 _ _ _ _ _ _ _ _ _ _
   | exact ih4 _ _ _ _ _ _
   | exact saltuslaw15_alive.mono _
   | exact LeO.none _
   | refine LeO.ite ?_ ?_
   | refine LeO.bind ?_ (fun _ => ?_)
theorem saltuslaw15_TowerFalls.mono : ∀ a0 a1 k, LeO (saltuslaw15_TowerFalls.f k a0 a1) (saltuslaw15_TowerFalls.f (k + 1) a0 a1) := by
 intro a0 a1 k
 obtain ⟨ih0, ih1, ih2, ih3, ih4⟩ := saltuslaw15_TowerFalls.mono_l k
 unfold saltuslaw15_TowerFalls.f
 repeat' first
   | (with_reducible exact ih0 _ _ _ _)
   | (with_reducible exact ih1 _ _ _ _ _)
   | (with_reducible exact ih2 _ _ _ _ _ _ _ _)
   | (with_reducible exact ih3 _ _ _ _ _ _ _ _ _ _)
   | (with_reducible exact ih4 _ _ _ _ _ _)
   | (with_reducible exact saltuslaw15_alive.mono _)
   | (with_reducible exact LeO.refl _)
   | (with_reducible exact LeO.none _)
   | (with_reducible refine LeO.ite ?_ ?_)
   | (with_reducible refine LeO.bind ?_ (fun _ => ?_))
   | exact ih0 _ _ _ _
   | exact ih1 _ _ _ _ _
   | exact ih2 _ _ _ _ _ _ _ _
   | exact ih3 _ _ _ _ _ _ _ _ _ _
   | exact ih4 _ _ _ _ _ _
   | exact saltuslaw15_alive.mono _
   | exact LeO.none _
   | refine LeO.ite ?_ ?_
   | refine LeO.bind ?_ (fun _ => ?_)
set_option maxHeartbeats 8000000 in
set_option maxRecDepth 100000 in
theorem saltuslaw15_TowerFalls.calls (k : Nat) (a0 : ByteArray) (A1 : Option Addr) (c1 : Nat) (l1 : List Int) (r : Bool) (w : World) (hr1 : Kd.C (Kd.int .u64) w A1 l1.length l1) (hc1 : l1.length ≤ c1) (hr : Aside0 (r = true)) (h : saltuslaw15_TowerFalls.f k a0 l1 = some r) (hT0 : Tower.TabW w) :
  Calls Tryd.prog 5 #[.string a0, .slice A1 l1.length c1] w fun e w' => e = .returned (.bool r) ∧ Below w.heap.size w w' := by
 have HT := Aside0.mk hT0
 clear hT0
 have HR1 := Aside0.mk hr1
 have HC1 := Aside0.mk hc1
 clear hr1 hc1
 have HB := Aside0.mk (Below.refl w.heap.size w)
 have H : (if 0 ≤ (mn (a0.size : Int) 80) then (if (mn (a0.size : Int) 80) ≤ (a0.size : Int) then (if 0 ≤ (mn (l1.length : Int) 8) then (if (mn (l1.length : Int) 8) ≤ (l1.length : Int) then ((tower_Heights.f (a0.extract 0 ((mn (a0.size : Int) 80) : Int).toNat) (l1.take ((mn (l1.length : Int) 8) : Int).toNat)).bind fun t155 => (if (t155.length : Int) = ((l1.take ((mn (l1.length : Int) 8) : Int).toNat).length : Int) then ((saltuslaw15_alive.f k).bind fun t158 => (saltuslaw15_TowerFalls.j0 k (a0.extract 0 ((mn (a0.size : Int) 80) : Int).toNat) (l1.take ((mn (l1.length : Int) 8) : Int).toNat) t155 (!t158))) else (saltuslaw15_TowerFalls.j0 k (a0.extract 0 ((mn (a0.size : Int) 80) : Int).toNat) (l1.take ((mn (l1.length : Int) 8) : Int).toNat) t155 true))) else (none)) else (none)) else (none)) else (none)) = some r := h
 clear h
 obtain ⟨ji3, hji3⟩ : ∃ j_ : Int, (mn (a0.size : Int) 80) = j_ := ⟨_, rfl⟩
 replace H : (if 0 ≤ (ji3) then (if (ji3) ≤ (a0.size : Int) then (if 0 ≤ (mn (l1.length : Int) 8) then (if (mn (l1.length : Int) 8) ≤ (l1.length : Int) then ((tower_Heights.f (a0.extract 0 ((ji3) : Int).toNat) (l1.take ((mn (l1.length : Int) 8) : Int).toNat)).bind fun t155 => (if (t155.length : Int) = ((l1.take ((mn (l1.length : Int) 8) : Int).toNat).length : Int) then ((saltuslaw15_alive.f k).bind fun t158 => (saltuslaw15_TowerFalls.j0 k (a0.extract 0 ((ji3) : Int).toNat) (l1.take ((mn (l1.length : Int) 8) : Int).toNat) t155 (!t158))) else (saltuslaw15_TowerFalls.j0 k (a0.extract 0 ((ji3) : Int).toNat) (l1.take ((mn (l1.length : Int) 8) : Int).toNat) t155 true))) else (none)) else (none)) else (none)) else (none)) = some r := by first | (rw [hji3] at H; exact H) | (simp only [hji3] at H ⊢; exact H)
 (try (have hji3h : ji3 ≤ 80 := by (rw [← hji3]; unfold mn; (repeat' split) <;> omega)))
 (try (have hji3g : ji3 ≤ 64 := by omega))
 (try (have hji3l : 0 ≤ ji3 := by (rw [← hji3]; unfold mn; (repeat' split) <;> omega)))
 (try (have hji3m : 0 ≤ ji3 := by omega))
 have hji3_ : (if 80 < (a0.size : Int) then 80 else (a0.size : Int)) = ji3 := hji3
 by_cases c4 : 0 ≤ (ji3)
 ·rw [if_pos c4] at H
  have c4b0 := eq_true c4
  have c4b1 : decide (0 ≤ (ji3)) = true := decide_eq_true c4
  clear c4
  by_cases c5 : (ji3) ≤ (a0.size : Int)
  ·rw [if_pos c5] at H
   have c5b0 := eq_true c5
   have c5b1 : decide ((ji3) ≤ (a0.size : Int)) = true := decide_eq_true c5
   clear c5
   obtain ⟨ji6, hji6⟩ : ∃ j_ : Int, (mn (l1.length : Int) 8) = j_ := ⟨_, rfl⟩
   replace H : (if 0 ≤ (ji6) then (if (ji6) ≤ (l1.length : Int) then ((tower_Heights.f (a0.extract 0 ((ji3) : Int).toNat) (l1.take ((ji6) : Int).toNat)).bind fun t155 => (if (t155.length : Int) = ((l1.take ((ji6) : Int).toNat).length : Int) then ((saltuslaw15_alive.f k).bind fun t158 => (saltuslaw15_TowerFalls.j0 k (a0.extract 0 ((ji3) : Int).toNat) (l1.take ((ji6) : Int).toNat) t155 (!t158))) else (saltuslaw15_TowerFalls.j0 k (a0.extract 0 ((ji3) : Int).toNat) (l1.take ((ji6) : Int).toNat) t155 true))) else (none)) else (none)) = some r := by first | (rw [hji6] at H; exact H) | (simp only [hji6] at H ⊢; exact H)
   (try (have hji6h : ji6 ≤ 8 := by (rw [← hji6]; unfold mn; (repeat' split) <;> omega)))
   (try (have hji6g : ji6 ≤ 64 := by omega))
   (try (have hji6l : 0 ≤ ji6 := by (rw [← hji6]; unfold mn; (repeat' split) <;> omega)))
   (try (have hji6m : 0 ≤ ji6 := by omega))
   have hji6_ : (if 8 < (l1.length : Int) then 8 else (l1.length : Int)) = ji6 := hji6
   by_cases c7 : 0 ≤ (ji6)
   ·rw [if_pos c7] at H
    have c7b0 := eq_true c7
    have c7b1 : decide (0 ≤ (ji6)) = true := decide_eq_true c7
    clear c7
    by_cases c8 : (ji6) ≤ (l1.length : Int)
    ·rw [if_pos c8] at H
     have c8b0 := eq_true c8
     have c8b1 : decide ((ji6) ≤ (l1.length : Int)) = true := decide_eq_true c8
     clear c8
     replace H := Option.bind_eq_some_iff.mp H
     obtain ⟨t155, A90, H⟩ := H
     (try dsimp only at H)
     have A9 := Aside0.mk A90
     clear A90
     have HC10 := Aside0.mk H
     clear H
     obtain ⟨i011, hi011, _, hsz11, _⟩ := info_parts info22
     obtain ⟨hcut11, hA11, hC11⟩ := print_take_of (P := Tryd.prog) (Value.int .u64) 0 23 22 .i64 Tryd.underlying23 hi011 hsz11 A1 c1 l1 (ji6) (of_decide_eq_true (by first | (with_reducible assumption) | assumption)) (of_decide_eq_true (by first | (with_reducible assumption) | assumption)) HC1.out
     have HR154 := Aside0.mk (Kd.C_of_reads (h1 := fun _ => rfl) (hA11 _ (Kd.reads_of_C HR1.out)))
     have HC154 := Aside0.mk hC11
     clear hA11 hC11 hi011 hsz11
     obtain ⟨lq11, hlq11⟩ : ∃ l_, l1.take ((ji6) : Int).toNat = l_ := ⟨_, rfl⟩
     simp only [hlq11] at *
     clear hlq11
     go_enter Tryd.func5, Tryd.ntmps5
     go_upto_region 3 with (first | (go_at_call 20; (with_reducible refine (tower_Heights.calls (a0.extract 0 ((ji3) : Int).toNat) _ _ lq11 t155 _ ?side1 ?side2 A9.out (Tower.tab_below HT.out (by repeat (first | (with_reducible first | exact HB.out | apply below_alloc | apply pw_below_drewN | apply below_drew1) | exact HB.out)) (Nat.le_refl _))).mono ?_); (case side1 => repeat (first | exact HR154.out | (with_reducible refine Kd.C_alloc ?_ _) | (with_reducible refine Kd.C_drewN ?_ _) | (with_reducible refine Kd.C_drew ?_))); (case side2 => exact HC154.out); rintro e w12 ⟨v156, rfl, ho0, hb⟩; have n0_ := Aside0.mk (Kd.R_lower ho0 (below_size (by repeat (first | (with_reducible first | exact HB.out | apply below_alloc | apply pw_below_drewN | apply below_drew1) | exact HB.out)))); have n1_ := Aside0.mk (below_step (by repeat (first | (with_reducible first | exact HB.out | apply below_alloc | apply pw_below_drewN | apply below_drew1) | exact HB.out)) hb); clear HB; have HO157 := n0_; have HB := n1_; clear n0_ n1_; (try clear hb); (try clear hb2); (try clear hk); (try clear hi); (try clear ho0)))
     repeat (go_quiet (first | (go_at_call 20; (with_reducible refine (tower_Heights.calls (a0.extract 0 ((ji3) : Int).toNat) _ _ lq11 t155 _ ?side1 ?side2 A9.out (Tower.tab_below HT.out (by repeat (first | (with_reducible first | exact HB.out | apply below_alloc | apply pw_below_drewN | apply below_drew1) | exact HB.out)) (Nat.le_refl _))).mono ?_); (case side1 => repeat (first | exact HR154.out | (with_reducible refine Kd.C_alloc ?_ _) | (with_reducible refine Kd.C_drewN ?_ _) | (with_reducible refine Kd.C_drew ?_))); (case side2 => exact HC154.out); rintro e w12 ⟨v156, rfl, ho0, hb⟩; have n0_ := Aside0.mk (Kd.R_lower ho0 (below_size (by repeat (first | (with_reducible first | exact HB.out | apply below_alloc | apply pw_below_drewN | apply below_drew1) | exact HB.out)))); have n1_ := Aside0.mk (below_step (by repeat (first | (with_reducible first | exact HB.out | apply below_alloc | apply pw_below_drewN | apply below_drew1) | exact HB.out)) hb); clear HB; have HO157 := n0_; have HB := n1_; clear n0_ n1_; (try clear hb); (try clear hb2); (try clear hk); (try clear hi); (try clear ho0))); go_upto_region 3 with (first | (go_at_call 20; (with_reducible refine (tower_Heights.calls (a0.extract 0 ((ji3) : Int).toNat) _ _ lq11 t155 _ ?side1 ?side2 A9.out (Tower.tab_below HT.out (by repeat (first | (with_reducible first | exact HB.out | apply below_alloc | apply pw_below_drewN | apply below_drew1) | exact HB.out)) (Nat.le_refl _))).mono ?_); (case side1 => repeat (first | exact HR154.out | (with_reducible refine Kd.C_alloc ?_ _) | (with_reducible refine Kd.C_drewN ?_ _) | (with_reducible refine Kd.C_drew ?_))); (case side2 => exact HC154.out); rintro e w12 ⟨v156, rfl, ho0, hb⟩; have n0_ := Aside0.mk (Kd.R_lower ho0 (below_size (by repeat (first | (with_reducible first | exact HB.out | apply below_alloc | apply pw_below_drewN | apply below_drew1) | exact HB.out)))); have n1_ := Aside0.mk (below_step (by repeat (first | (with_reducible first | exact HB.out | apply below_alloc | apply pw_below_drewN | apply below_drew1) | exact HB.out)) hb); clear HB; have HO157 := n0_; have HB := n1_; clear n0_ n1_; (try clear hb); (try clear hb2); (try clear hk); (try clear hi); (try clear ho0))))
     (try simp only [Act.put, List.setIfInBounds_toArray, List.set_cons_zero, List.set_cons_succ])
     go_cut [35] (fun v35 wc => ∃ (kq : Nat) (x35_9 : Bool), v35 = .bool x35_9 ∧ Aside0 (saltuslaw15_TowerFalls.j0 kq (a0.extract 0 ((ji3) : Int).toNat) lq11 t155 x35_9 = some r) ∧ Aside0 (kq ≤ k) ∧ Aside0 (Kd.R (Kd.int .i64) 3 wc w.heap.size (fun _ => True) v156 t155) ∧ Aside0 (Below w.heap.size w wc))
     case first =>
      have H := HC10.out
      clear HC10
      by_cases c13 : (t155.length : Int) = (lq11.length : Int)
      ·rw [if_pos c13] at H
       have c13b0 : ((t155.length : Int) == (lq11.length : Int)) = true := beq_iff_eq.mpr c13
       have c13b1 : ((t155.length : Int) != (lq11.length : Int)) = false := bne_eq_false_iff_eq.mpr c13
       have c13b2 : (t155.length == lq11.length) = true := by first | simpa using c13 | (simp at c13 ⊢; omega)
       clear c13
       (first | rw [c13b0] | (simp only [i64_w, i32_w]; rw [c13b0]) | skip)
       replace H := Option.bind_eq_some_iff.mp H
       obtain ⟨t158, A140, H⟩ := H
       (try dsimp only at H)
       have A14 := Aside0.mk A140
       clear A140
       have H' := Aside0.mk H
       clear H
       obtain ⟨Ao15, co15, eo15⟩ := Kd.R_slice HO157.out
       subst eo15
       go_wp2_with (first | (go_at_call 16; (with_reducible refine (saltuslaw15_alive.calls k  t158 _ A14.out (Tower.tab_below HT.out (by repeat (first | (with_reducible first | exact HB.out | apply below_alloc | apply pw_below_drewN | apply below_drew1) | exact HB.out)) (Nat.le_refl _))).mono ?_); rintro e w16 ⟨rfl, hb⟩; have n0_ := Aside0.mk (Kd.R_below (by (with_reducible repeat (first | apply Kd.R_alloc | apply Kd.R_drewN | apply Kd.R_drew)); exact HO157.out) hb); have n1_ := Aside0.mk (below_step (by repeat (first | (with_reducible first | exact HB.out | apply below_alloc | apply pw_below_drewN | apply below_drew1) | exact HB.out)) hb); clear HO157; clear HB; have HO157 := n0_; have HB := n1_; clear n0_ n1_; (try clear hb); (try clear hb2); (try clear hk); (try clear hi)))
       repeat (go_quiet (first | (go_at_call 16; (with_reducible refine (saltuslaw15_alive.calls k  t158 _ A14.out (Tower.tab_below HT.out (by repeat (first | (with_reducible first | exact HB.out | apply below_alloc | apply pw_below_drewN | apply below_drew1) | exact HB.out)) (Nat.le_refl _))).mono ?_); rintro e w16 ⟨rfl, hb⟩; have n0_ := Aside0.mk (Kd.R_below (by (with_reducible repeat (first | apply Kd.R_alloc | apply Kd.R_drewN | apply Kd.R_drew)); exact HO157.out) hb); have n1_ := Aside0.mk (below_step (by repeat (first | (with_reducible first | exact HB.out | apply below_alloc | apply pw_below_drewN | apply below_drew1) | exact HB.out)) hb); clear HO157; clear HB; have HO157 := n0_; have HB := n1_; clear n0_ n1_; (try clear hb); (try clear hb2); (try clear hk); (try clear hi))); try go_wp2_with (first | (go_at_call 16; (with_reducible refine (saltuslaw15_alive.calls k  t158 _ A14.out (Tower.tab_below HT.out (by repeat (first | (with_reducible first | exact HB.out | apply below_alloc | apply pw_below_drewN | apply below_drew1) | exact HB.out)) (Nat.le_refl _))).mono ?_); rintro e w16 ⟨rfl, hb⟩; have n0_ := Aside0.mk (Kd.R_below (by (with_reducible repeat (first | apply Kd.R_alloc | apply Kd.R_drewN | apply Kd.R_drew)); exact HO157.out) hb); have n1_ := Aside0.mk (below_step (by repeat (first | (with_reducible first | exact HB.out | apply below_alloc | apply pw_below_drewN | apply below_drew1) | exact HB.out)) hb); clear HO157; clear HB; have HO157 := n0_; have HB := n1_; clear n0_ n1_; (try clear hb); (try clear hb2); (try clear hk); (try clear hi))))
       go_meet
       case rel => exact ⟨_, (!t158), (by first | rfl | (simp; done) | (simp [*]; done)), H', ⟨by first | omega | exact Nat.le_refl _⟩, ⟨by (with_reducible repeat (first | apply Kd.R_alloc | apply Kd.R_drewN | apply Kd.R_drew)); exact HO157.out⟩, ⟨by repeat (first | (with_reducible first | exact HB.out | apply below_alloc | apply pw_below_drewN | apply below_drew1) | exact HB.out)⟩⟩
      ·rw [if_neg c13] at H
       have c13b0 : ((t155.length : Int) == (lq11.length : Int)) = false := beq_eq_false_iff_ne.mpr c13
       have c13b1 : ((t155.length : Int) != (lq11.length : Int)) = true := bne_iff_ne.mpr c13
       have c13b2 : (t155.length == lq11.length) = false := by first | simpa using c13 | (simp at c13 ⊢; omega)
       (first | rw [c13b0] | (simp only [i64_w, i32_w]; rw [c13b0]) | skip)
       have H' := Aside0.mk H
       clear H
       obtain ⟨Ao17, co17, eo17⟩ := Kd.R_slice HO157.out
       subst eo17
       go_wp2
       repeat (go_quiet (fail); try go_wp2)
       go_meet
       case rel => exact ⟨_, (true), (by first | rfl | (simp; done) | (simp [*]; done)), H', ⟨by first | omega | exact Nat.le_refl _⟩, ⟨by (with_reducible repeat (first | apply Kd.R_alloc | apply Kd.R_drewN | apply Kd.R_drew)); exact HO157.out⟩, ⟨by repeat (first | (with_reducible first | exact HB.out | apply below_alloc | apply pw_below_drewN | apply below_drew1) | exact HB.out)⟩⟩
     case rest =>
      clear HC10
      try clear c1
      try clear p2
      try clear c4
      try clear c4b0
      try clear c4b1
      try clear c5
      try clear c5b0
      try clear c5b1
      try clear c7
      try clear c7b0
      try clear c7b1
      try clear c8
      try clear c8b0
      try clear c8b1
      try clear c13
      try clear c13b0
      try clear c13b1
      try clear c13b2
      obtain ⟨kq, x35_9, rfl, HA, HJ9, HO_5, HB⟩ := hcut
      cases kq with
      | zero => exact absurd HA.out (by simp [saltuslaw15_TowerFalls.j0])
      | succ kj9 =>
       have H := HA.out
       clear HA
       simp only [saltuslaw15_TowerFalls.j0] at H
       by_cases c18 : x35_9 = true
       ·subst c18
        have H1 : (some false) = some r := by rw [if_pos rfl] at H; exact H
        clear H
        have H := H1
        clear H1
        exact absurd ((Option.some.inj H).trans hr.out) (by decide)
       ·replace c18 := Bool.eq_false_iff.mpr c18
        subst c18
        have H1 : (if 0 ≤ (lq11.length : Int) then (if ((lq11.length : Int) : Int).toNat ≤ 35184372088832 then (saltuslaw15_TowerFalls.l0 kj9 (a0.extract 0 ((ji3) : Int).toNat) lq11 t155 (List.replicate ((lq11.length : Int) : Int).toNat 0) 0) else (none)) else (none)) = some r := by rw [if_neg (show ¬ (false = true) by decide)] at H; exact H
        clear H
        have H := H1
        clear H1
        by_cases c19 : 0 ≤ (lq11.length : Int)
        ·rw [if_pos c19] at H
         have c19b0 := eq_true c19
         have c19b1 : decide (0 ≤ (lq11.length : Int)) = true := decide_eq_true c19
         clear c19
         by_cases c20 : ((lq11.length : Int) : Int).toNat ≤ 35184372088832
         ·rw [if_pos c20] at H
          have c20b0 := eq_true c20
          have c20b1 : decide (((lq11.length : Int) : Int).toNat ≤ 35184372088832) = true := decide_eq_true c20
          clear c20
          obtain ⟨y159, hy159⟩ : ∃ y_ : List Int, y_ = (List.replicate ((lq11.length : Int) : Int).toNat 0) := ⟨_, rfl⟩
          replace H : (saltuslaw15_TowerFalls.l0 kj9 (a0.extract 0 ((ji3) : Int).toNat) lq11 t155 y159 0) = some r := by first | (rw [hy159]; with_reducible exact H) | (have H2_ := (Option.bind_some _ _).symm.trans H; rw [hy159]; with_reducible exact H2_) | (have H2_ := (Option.bind_some _ _).symm.trans H; with_reducible exact H2_) | with_reducible exact H | (rw [hy159]; exact H) | exact H
          have Ny159 := Aside0.mk hy159
          clear hy159
          have H' := Aside0.mk H
          clear H
          go_wp2_with (first | ((with_reducible refine gate_dst (N := 38) rfl ?_); (try (refine gate_guard (by rfl) ?_; dsimp only)); refine Kd.R_make (Kd.int .i64) _ 3 rfl (N := 38) rfl 27 _ _ rfl (lq11.length : Int) rfl rfl Tryd.underlying27 (.int .i64 0) 8 info3 rfl (by decide) (by omega) 0 (ok := fun _ => True) (okp := fun _ => True) rfl (fun _ hk => hk) trivial (of_decide_eq_true (by first | (with_reducible assumption) | assumption)) (Nat.le_trans (Nat.mul_le_mul_right _ (of_decide_eq_true (by first | (with_reducible assumption) | assumption) : (lq11.length : Int).toNat ≤ 35184372088832)) (by omega)) (Below.refl _ _) (Nat.le_refl _) ?_; intro v160 w21 ho22 hb hg_ hnew_; clear hg_ hnew_; (first | rw [← Ny159.out] at ho22 | (simp only [Int.reduceToNat] at ho22; rw [← Ny159.out] at ho22)); have n0_ := Aside0.mk (Kd.R_elder' (by (with_reducible repeat (first | apply Kd.R_alloc | apply Kd.R_drewN | apply Kd.R_drew)); exact HO_5.out) (Kd.R_base ho22) hb); have n1_ := Aside0.mk (Kd.R_lower (Kd.R_new' ho22 (Kd.R_lt (by (with_reducible repeat (first | apply Kd.R_alloc | apply Kd.R_drewN | apply Kd.R_drew)); exact HO_5.out))) (below_size (by repeat (first | (with_reducible first | exact HB.out | apply below_alloc | apply pw_below_drewN | apply below_drew1) | exact HB.out)))); have n2_ := Aside0.mk (below_step (by repeat (first | (with_reducible first | exact HB.out | apply below_alloc | apply pw_below_drewN | apply below_drew1) | exact HB.out)) hb); clear HO_5; clear HB; have HO_5 := n0_; have HO161 := n1_; have HB := n2_; clear n0_ n1_ n2_; clear hb ho22))
          repeat (go_quiet (first | ((with_reducible refine gate_dst (N := 38) rfl ?_); (try (refine gate_guard (by rfl) ?_; dsimp only)); refine Kd.R_make (Kd.int .i64) _ 3 rfl (N := 38) rfl 27 _ _ rfl (lq11.length : Int) rfl rfl Tryd.underlying27 (.int .i64 0) 8 info3 rfl (by decide) (by omega) 0 (ok := fun _ => True) (okp := fun _ => True) rfl (fun _ hk => hk) trivial (of_decide_eq_true (by first | (with_reducible assumption) | assumption)) (Nat.le_trans (Nat.mul_le_mul_right _ (of_decide_eq_true (by first | (with_reducible assumption) | assumption) : (lq11.length : Int).toNat ≤ 35184372088832)) (by omega)) (Below.refl _ _) (Nat.le_refl _) ?_; intro v160 w21 ho22 hb hg_ hnew_; clear hg_ hnew_; (first | rw [← Ny159.out] at ho22 | (simp only [Int.reduceToNat] at ho22; rw [← Ny159.out] at ho22)); have n0_ := Aside0.mk (Kd.R_elder' (by (with_reducible repeat (first | apply Kd.R_alloc | apply Kd.R_drewN | apply Kd.R_drew)); exact HO_5.out) (Kd.R_base ho22) hb); have n1_ := Aside0.mk (Kd.R_lower (Kd.R_new' ho22 (Kd.R_lt (by (with_reducible repeat (first | apply Kd.R_alloc | apply Kd.R_drewN | apply Kd.R_drew)); exact HO_5.out))) (below_size (by repeat (first | (with_reducible first | exact HB.out | apply below_alloc | apply pw_below_drewN | apply below_drew1) | exact HB.out)))); have n2_ := Aside0.mk (below_step (by repeat (first | (with_reducible first | exact HB.out | apply below_alloc | apply pw_below_drewN | apply below_drew1) | exact HB.out)) hb); clear HO_5; clear HB; have HO_5 := n0_; have HO161 := n1_; have HB := n2_; clear n0_ n1_ n2_; clear hb ho22)); try go_wp2_with (first | ((with_reducible refine gate_dst (N := 38) rfl ?_); (try (refine gate_guard (by rfl) ?_; dsimp only)); refine Kd.R_make (Kd.int .i64) _ 3 rfl (N := 38) rfl 27 _ _ rfl (lq11.length : Int) rfl rfl Tryd.underlying27 (.int .i64 0) 8 info3 rfl (by decide) (by omega) 0 (ok := fun _ => True) (okp := fun _ => True) rfl (fun _ hk => hk) trivial (of_decide_eq_true (by first | (with_reducible assumption) | assumption)) (Nat.le_trans (Nat.mul_le_mul_right _ (of_decide_eq_true (by first | (with_reducible assumption) | assumption) : (lq11.length : Int).toNat ≤ 35184372088832)) (by omega)) (Below.refl _ _) (Nat.le_refl _) ?_; intro v160 w21 ho22 hb hg_ hnew_; clear hg_ hnew_; (first | rw [← Ny159.out] at ho22 | (simp only [Int.reduceToNat] at ho22; rw [← Ny159.out] at ho22)); have n0_ := Aside0.mk (Kd.R_elder' (by (with_reducible repeat (first | apply Kd.R_alloc | apply Kd.R_drewN | apply Kd.R_drew)); exact HO_5.out) (Kd.R_base ho22) hb); have n1_ := Aside0.mk (Kd.R_lower (Kd.R_new' ho22 (Kd.R_lt (by (with_reducible repeat (first | apply Kd.R_alloc | apply Kd.R_drewN | apply Kd.R_drew)); exact HO_5.out))) (below_size (by repeat (first | (with_reducible first | exact HB.out | apply below_alloc | apply pw_below_drewN | apply below_drew1) | exact HB.out)))); have n2_ := Aside0.mk (below_step (by repeat (first | (with_reducible first | exact HB.out | apply below_alloc | apply pw_below_drewN | apply below_drew1) | exact HB.out)) hb); clear HO_5; clear HB; have HO_5 := n0_; have HO161 := n1_; have HB := n2_; clear n0_ n1_ n2_; clear hb ho22)))
          go_loopg [39] kj9 (fun kq v39 w' => ∃ (x6_2 : List Int) (x39_2 : Int), v39 = .int .i64 x39_2 ∧ Aside0 (saltuslaw15_TowerFalls.l0 kq (a0.extract 0 ((ji3) : Int).toNat) lq11 t155 x6_2 x39_2 = some r) ∧ Aside0 (kq ≤ kj9) ∧ Aside0 (Kd.R (Kd.int .i64) 3 w' w.heap.size (fun k_ => some k_ ≠ (v160 : Value).ownBlock) v156 t155) ∧ Aside0 (Kd.R (Kd.int .i64) 3 w' w.heap.size (fun k_ => some k_ ≠ (v156 : Value).ownBlock) v160 x6_2) ∧ Aside0 (Below w.heap.size w w'))
          case atStart => exact ⟨(y159), (0), (by first | rfl | (simp; done) | (simp [*]; done)), H', ⟨Nat.le_refl _⟩, ⟨by (with_reducible repeat (first | apply Kd.R_alloc | apply Kd.R_drewN | apply Kd.R_drew)); exact Kd.R_mono HO_5.out (fun _ hk => hk.2)⟩, ⟨by (with_reducible repeat (first | apply Kd.R_alloc | apply Kd.R_drewN | apply Kd.R_drew)); exact Kd.R_mono HO161.out (fun _ hk => hk.2)⟩, ⟨by repeat (first | (with_reducible first | exact HB.out | apply below_alloc | apply pw_below_drewN | apply below_drew1) | exact HB.out)⟩⟩
          case round =>
           clear H'
           try clear c1
           try clear c2
           try clear p2
           try clear c4
           try clear c4b0
           try clear c4b1
           try clear c5
           try clear c5b0
           try clear c5b1
           try clear c7
           try clear c7b0
           try clear c7b1
           try clear c8
           try clear c8b0
           try clear c8b1
           try clear c13
           try clear c13b0
           try clear c13b1
           try clear c13b2
           try clear c18
           try clear c19
           try clear c19b0
           try clear c19b1
           try clear c20
           try clear c20b0
           try clear c20b1
           try clear p2
           obtain ⟨x6_2, x39_2, rfl, HA, HK2, HO_5, HO_6, HB⟩ := hrel
           cases gk with
           | zero => exact absurd HA.out (by simp [saltuslaw15_TowerFalls.l0])
           | succ k2 =>
            have H := HA.out
            clear HA
            simp only [saltuslaw15_TowerFalls.l0] at H
            by_cases c23 : x39_2 < 9
            ·rw [if_pos c23] at H
             have c23b0 : decide (x39_2 < 9) = true := decide_eq_true c23
             clear c23
             replace H := Option.bind_eq_some_iff.mp H
             obtain ⟨⟨t162, t163⟩, A240, H⟩ := H
             (try dsimp only at H)
             have A24 := Aside0.mk A240
             clear A240
             have HC25 := Aside0.mk H
             clear H
             go_upto_region 10 with (first | (go_at_call 22; (with_reducible refine (tower_Above.calls (a0.extract 0 ((ji3) : Int).toNat) _ _ lq11 x39_2 t162 t163 _ ?side1 ?side2 A24.out (Tower.tab_below HT.out (by repeat (first | (with_reducible first | exact HB.out | apply below_alloc | apply pw_below_drewN | apply below_drew1) | exact HB.out)) (Nat.le_refl _))).mono ?_); (case side1 => repeat (first | exact (Kd.C_below HR154.out HB.out) | (with_reducible refine Kd.C_alloc ?_ _) | (with_reducible refine Kd.C_drewN ?_ _) | (with_reducible refine Kd.C_drew ?_))); (case side2 => exact HC154.out); rintro e w26 ⟨v164, rfl, ho0, hb⟩; have n0_ := Aside0.mk (Kd.R_elder' (by (with_reducible repeat (first | apply Kd.R_alloc | apply Kd.R_drewN | apply Kd.R_drew)); exact HO_5.out) (Kd.R_base ho0) hb); have n1_ := Aside0.mk (Kd.R_elder' (by (with_reducible repeat (first | apply Kd.R_alloc | apply Kd.R_drewN | apply Kd.R_drew)); exact HO_6.out) (Kd.R_base ho0) hb); have n2_ := Aside0.mk (Kd.R_lower (Kd.R_new' (Kd.R_new' ho0 (Kd.R_lt (by (with_reducible repeat (first | apply Kd.R_alloc | apply Kd.R_drewN | apply Kd.R_drew)); exact HO_5.out))) (Kd.R_lt (by (with_reducible repeat (first | apply Kd.R_alloc | apply Kd.R_drewN | apply Kd.R_drew)); exact HO_6.out))) (below_size (by repeat (first | (with_reducible first | exact HB.out | apply below_alloc | apply pw_below_drewN | apply below_drew1) | exact HB.out)))); have n3_ := Aside0.mk (below_step (by repeat (first | (with_reducible first | exact HB.out | apply below_alloc | apply pw_below_drewN | apply below_drew1) | exact HB.out)) hb); clear HO_5; clear HO_6; clear HB; have HO_5 := n0_; have HO_6 := n1_; have HO165 := n2_; have HB := n3_; clear n0_ n1_ n2_ n3_; (try clear hb); (try clear hb2); (try clear hk); (try clear hi); (try clear ho0)))
             repeat (go_quiet (first | (go_at_call 22; (with_reducible refine (tower_Above.calls (a0.extract 0 ((ji3) : Int).toNat) _ _ lq11 x39_2 t162 t163 _ ?side1 ?side2 A24.out (Tower.tab_below HT.out (by repeat (first | (with_reducible first | exact HB.out | apply below_alloc | apply pw_below_drewN | apply below_drew1) | exact HB.out)) (Nat.le_refl _))).mono ?_); (case side1 => repeat (first | exact (Kd.C_below HR154.out HB.out) | (with_reducible refine Kd.C_alloc ?_ _) | (with_reducible refine Kd.C_drewN ?_ _) | (with_reducible refine Kd.C_drew ?_))); (case side2 => exact HC154.out); rintro e w26 ⟨v164, rfl, ho0, hb⟩; have n0_ := Aside0.mk (Kd.R_elder' (by (with_reducible repeat (first | apply Kd.R_alloc | apply Kd.R_drewN | apply Kd.R_drew)); exact HO_5.out) (Kd.R_base ho0) hb); have n1_ := Aside0.mk (Kd.R_elder' (by (with_reducible repeat (first | apply Kd.R_alloc | apply Kd.R_drewN | apply Kd.R_drew)); exact HO_6.out) (Kd.R_base ho0) hb); have n2_ := Aside0.mk (Kd.R_lower (Kd.R_new' (Kd.R_new' ho0 (Kd.R_lt (by (with_reducible repeat (first | apply Kd.R_alloc | apply Kd.R_drewN | apply Kd.R_drew)); exact HO_5.out))) (Kd.R_lt (by (with_reducible repeat (first | apply Kd.R_alloc | apply Kd.R_drewN | apply Kd.R_drew)); exact HO_6.out))) (below_size (by repeat (first | (with_reducible first | exact HB.out | apply below_alloc | apply pw_below_drewN | apply below_drew1) | exact HB.out)))); have n3_ := Aside0.mk (below_step (by repeat (first | (with_reducible first | exact HB.out | apply below_alloc | apply pw_below_drewN | apply below_drew1) | exact HB.out)) hb); clear HO_5; clear HO_6; clear HB; have HO_5 := n0_; have HO_6 := n1_; have HO165 := n2_; have HB := n3_; clear n0_ n1_ n2_ n3_; (try clear hb); (try clear hb2); (try clear hk); (try clear hi); (try clear ho0))); go_upto_region 10 with (first | (go_at_call 22; (with_reducible refine (tower_Above.calls (a0.extract 0 ((ji3) : Int).toNat) _ _ lq11 x39_2 t162 t163 _ ?side1 ?side2 A24.out (Tower.tab_below HT.out (by repeat (first | (with_reducible first | exact HB.out | apply below_alloc | apply pw_below_drewN | apply below_drew1) | exact HB.out)) (Nat.le_refl _))).mono ?_); (case side1 => repeat (first | exact (Kd.C_below HR154.out HB.out) | (with_reducible refine Kd.C_alloc ?_ _) | (with_reducible refine Kd.C_drewN ?_ _) | (with_reducible refine Kd.C_drew ?_))); (case side2 => exact HC154.out); rintro e w26 ⟨v164, rfl, ho0, hb⟩; have n0_ := Aside0.mk (Kd.R_elder' (by (with_reducible repeat (first | apply Kd.R_alloc | apply Kd.R_drewN | apply Kd.R_drew)); exact HO_5.out) (Kd.R_base ho0) hb); have n1_ := Aside0.mk (Kd.R_elder' (by (with_reducible repeat (first | apply Kd.R_alloc | apply Kd.R_drewN | apply Kd.R_drew)); exact HO_6.out) (Kd.R_base ho0) hb); have n2_ := Aside0.mk (Kd.R_lower (Kd.R_new' (Kd.R_new' ho0 (Kd.R_lt (by (with_reducible repeat (first | apply Kd.R_alloc | apply Kd.R_drewN | apply Kd.R_drew)); exact HO_5.out))) (Kd.R_lt (by (with_reducible repeat (first | apply Kd.R_alloc | apply Kd.R_drewN | apply Kd.R_drew)); exact HO_6.out))) (below_size (by repeat (first | (with_reducible first | exact HB.out | apply below_alloc | apply pw_below_drewN | apply below_drew1) | exact HB.out)))); have n3_ := Aside0.mk (below_step (by repeat (first | (with_reducible first | exact HB.out | apply below_alloc | apply pw_below_drewN | apply below_drew1) | exact HB.out)) hb); clear HO_5; clear HO_6; clear HB; have HO_5 := n0_; have HO_6 := n1_; have HO165 := n2_; have HB := n3_; clear n0_ n1_ n2_ n3_; (try clear hb); (try clear hb2); (try clear hk); (try clear hi); (try clear ho0))))
             (try simp only [Act.put, List.setIfInBounds_toArray, List.set_cons_zero, List.set_cons_succ])
             go_cut [59] (fun v59 wc => ∃ (kq : Nat) (x59_24 : Bool), v59 = .bool x59_24 ∧ Aside0 (saltuslaw15_TowerFalls.j2 kq (a0.extract 0 ((ji3) : Int).toNat) lq11 t155 x6_2 x39_2 t162 x39_2 x59_24 = some r) ∧ Aside0 (kq ≤ k2) ∧ Aside0 (Kd.R (Kd.int .i64) 3 wc w.heap.size (fun k_ => some k_ ≠ (v160 : Value).ownBlock ∧ some k_ ≠ (v164 : Value).ownBlock) v156 t155) ∧ Aside0 (Kd.R (Kd.int .i64) 3 wc w.heap.size (fun k_ => some k_ ≠ (v156 : Value).ownBlock ∧ some k_ ≠ (v164 : Value).ownBlock) v160 x6_2) ∧ Aside0 (Kd.R (Kd.int .i64) 3 wc w.heap.size (fun k_ => some k_ ≠ (v156 : Value).ownBlock ∧ some k_ ≠ (v160 : Value).ownBlock) v164 t162) ∧ Aside0 (Below w.heap.size w wc))
             case first =>
              have H := HC25.out
              clear HC25
              by_cases c27 : t163 = 0
              ·rw [if_pos c27] at H
               have c27b0 : (t163 == 0) = true := beq_iff_eq.mpr c27
               have c27b1 : (t163 != 0) = false := bne_eq_false_iff_eq.mpr c27
               clear c27
               (first | rw [c27b0] | (simp only [i64_w, i32_w]; rw [c27b0]) | skip)
               by_cases c28 : x39_2 = 8
               ·rw [if_pos c28] at H
                have c28b0 : (x39_2 == 8) = true := beq_iff_eq.mpr c28
                have c28b1 : (x39_2 != 8) = false := bne_eq_false_iff_eq.mpr c28
                clear c28
                have H' := Aside0.mk H
                clear H
                obtain ⟨Ao29, co29, eo29⟩ := Kd.R_slice HO165.out
                subst eo29
                go_wp2
                repeat (go_quiet (fail); try go_wp2)
                go_meet
                case rel => exact ⟨_, (decide ((t162.length : Int) > 0)), (by first | rfl | (simp; done) | (simp [*]; done)), H', ⟨by have := HJ9.out; have := HK2.out; first | omega | exact Nat.le_refl _⟩, ⟨by (with_reducible repeat (first | apply Kd.R_alloc | apply Kd.R_drewN | apply Kd.R_drew)); exact HO_5.out⟩, ⟨by (with_reducible repeat (first | apply Kd.R_alloc | apply Kd.R_drewN | apply Kd.R_drew)); exact HO_6.out⟩, ⟨by (with_reducible repeat (first | apply Kd.R_alloc | apply Kd.R_drewN | apply Kd.R_drew)); exact Kd.R_mono HO165.out (fun _ hk => ⟨hk.1.2, hk.2⟩)⟩, ⟨by repeat (first | (with_reducible first | exact HB.out | apply below_alloc | apply pw_below_drewN | apply below_drew1) | exact HB.out)⟩⟩
               ·rw [if_neg c28] at H
                have c28b0 : (x39_2 == 8) = false := beq_eq_false_iff_ne.mpr c28
                have c28b1 : (x39_2 != 8) = true := bne_iff_ne.mpr c28
                have H' := Aside0.mk H
                clear H
                go_wp2
                repeat (go_quiet (fail); try go_wp2)
                go_meet
                case rel => exact ⟨_, (false), (by first | rfl | (simp; done) | (simp [*]; done)), H', ⟨by have := HJ9.out; have := HK2.out; first | omega | exact Nat.le_refl _⟩, ⟨by (with_reducible repeat (first | apply Kd.R_alloc | apply Kd.R_drewN | apply Kd.R_drew)); exact HO_5.out⟩, ⟨by (with_reducible repeat (first | apply Kd.R_alloc | apply Kd.R_drewN | apply Kd.R_drew)); exact HO_6.out⟩, ⟨by (with_reducible repeat (first | apply Kd.R_alloc | apply Kd.R_drewN | apply Kd.R_drew)); exact Kd.R_mono HO165.out (fun _ hk => ⟨hk.1.2, hk.2⟩)⟩, ⟨by repeat (first | (with_reducible first | exact HB.out | apply below_alloc | apply pw_below_drewN | apply below_drew1) | exact HB.out)⟩⟩
              ·rw [if_neg c27] at H
               have c27b0 : (t163 == 0) = false := beq_eq_false_iff_ne.mpr c27
               have c27b1 : (t163 != 0) = true := bne_iff_ne.mpr c27
               (first | rw [c27b0] | (simp only [i64_w, i32_w]; rw [c27b0]) | skip)
               have H' := Aside0.mk H
               clear H
               go_wp2
               repeat (go_quiet (fail); try go_wp2)
               go_meet
               case rel => exact ⟨_, (true), (by first | rfl | (simp; done) | (simp [*]; done)), H', ⟨by have := HJ9.out; have := HK2.out; first | omega | exact Nat.le_refl _⟩, ⟨by (with_reducible repeat (first | apply Kd.R_alloc | apply Kd.R_drewN | apply Kd.R_drew)); exact HO_5.out⟩, ⟨by (with_reducible repeat (first | apply Kd.R_alloc | apply Kd.R_drewN | apply Kd.R_drew)); exact HO_6.out⟩, ⟨by (with_reducible repeat (first | apply Kd.R_alloc | apply Kd.R_drewN | apply Kd.R_drew)); exact Kd.R_mono HO165.out (fun _ hk => ⟨hk.1.2, hk.2⟩)⟩, ⟨by repeat (first | (with_reducible first | exact HB.out | apply below_alloc | apply pw_below_drewN | apply below_drew1) | exact HB.out)⟩⟩
             case rest =>
              clear HC25
              try clear c1
              try clear c2
              try clear p2
              try clear c4
              try clear c4b0
              try clear c4b1
              try clear c5
              try clear c5b0
              try clear c5b1
              try clear c7
              try clear c7b0
              try clear c7b1
              try clear c8
              try clear c8b0
              try clear c8b1
              try clear c13
              try clear c13b0
              try clear c13b1
              try clear c13b2
              try clear c18
              try clear c19
              try clear c19b0
              try clear c19b1
              try clear c20
              try clear c20b0
              try clear c20b1
              try clear c23
              try clear c23b0
              try clear c27
              try clear c27b0
              try clear c27b1
              try clear c28
              try clear c28b0
              try clear c28b1
              try clear p2
              obtain ⟨kq, x59_24, rfl, HA, HJ24, HO_5, HO_6, HO_8, HB⟩ := hcut
              cases kq with
              | zero => exact absurd HA.out (by simp [saltuslaw15_TowerFalls.j2])
              | succ kj24 =>
               have H := HA.out
               clear HA
               simp only [saltuslaw15_TowerFalls.j2] at H
               by_cases c30 : x59_24 = true
               ·subst c30
                have H1 : (some false) = some r := by rw [if_pos rfl] at H; exact H
                clear H
                have H := H1
                clear H1
                exact absurd ((Option.some.inj H).trans hr.out) (by decide)
               ·replace c30 := Bool.eq_false_iff.mpr c30
                subst c30
                have H1 : (saltuslaw15_TowerFalls.l1 kj24 (a0.extract 0 ((ji3) : Int).toNat) lq11 t155 x6_2 x39_2 t162 x39_2 t162 (t162.length : Int) 0) = some r := by rw [if_neg (show ¬ (false = true) by decide)] at H; exact H
                clear H
                have H := H1
                clear H1
                have H' := Aside0.mk H
                clear H
                obtain ⟨Ao31, co31, eo31⟩ := Kd.R_slice HO_8.out
                subst eo31
                go_wp2
                repeat (go_quiet (fail); try go_wp2)
                go_loopg [62] kj24 (fun kq v62 w' => ∃ (x6_4 : List Int) (x62_4 : Int), v62 = .int .i64 x62_4 ∧ Aside0 (saltuslaw15_TowerFalls.l1 kq (a0.extract 0 ((ji3) : Int).toNat) lq11 t155 x6_4 x39_2 t162 x39_2 t162 (t162.length : Int) x62_4 = some r) ∧ Aside0 (kq ≤ kj24) ∧ Aside0 (Kd.R (Kd.int .i64) 3 w' w.heap.size (fun k_ => some k_ ≠ (v160 : Value).ownBlock ∧ some k_ ≠ ((.slice Ao31 t162.length co31) : Value).ownBlock ∧ some k_ ≠ ((.slice Ao31 t162.length co31) : Value).ownBlock) v156 t155) ∧ Aside0 (Kd.R (Kd.int .i64) 3 w' w.heap.size (fun k_ => some k_ ≠ (v156 : Value).ownBlock ∧ some k_ ≠ ((.slice Ao31 t162.length co31) : Value).ownBlock ∧ some k_ ≠ ((.slice Ao31 t162.length co31) : Value).ownBlock) v160 x6_4) ∧ Aside0 (Kd.R (Kd.int .i64) 3 w' w.heap.size (fun k_ => some k_ ≠ (v156 : Value).ownBlock ∧ some k_ ≠ (v160 : Value).ownBlock) (.slice Ao31 t162.length co31) t162) ∧ Aside0 (Kd.R (Kd.int .i64) 3 w' w.heap.size (fun k_ => some k_ ≠ (v156 : Value).ownBlock ∧ some k_ ≠ (v160 : Value).ownBlock) (.slice Ao31 t162.length co31) t162) ∧ Aside0 (Below w.heap.size w w'))
                case atStart => exact ⟨(x6_2), (0), (by first | rfl | (simp; done) | (simp [*]; done)), H', ⟨Nat.le_refl _⟩, ⟨by (with_reducible repeat (first | apply Kd.R_alloc | apply Kd.R_drewN | apply Kd.R_drew)); exact Kd.R_mono HO_5.out (fun _ hk => ⟨hk.1, ⟨hk.2, hk.2⟩⟩)⟩, ⟨by (with_reducible repeat (first | apply Kd.R_alloc | apply Kd.R_drewN | apply Kd.R_drew)); exact Kd.R_mono HO_6.out (fun _ hk => ⟨hk.1, ⟨hk.2, hk.2⟩⟩)⟩, ⟨by (with_reducible repeat (first | apply Kd.R_alloc | apply Kd.R_drewN | apply Kd.R_drew)); exact HO_8.out⟩, ⟨by (with_reducible repeat (first | apply Kd.R_alloc | apply Kd.R_drewN | apply Kd.R_drew)); exact HO_8.out⟩, ⟨by repeat (first | (with_reducible first | exact HB.out | apply below_alloc | apply pw_below_drewN | apply below_drew1) | exact HB.out)⟩⟩
                case round =>
                 clear H'
                 try clear c1
                 try clear c2
                 try clear p2
                 try clear c3
                 try clear c4
                 try clear c4b0
                 try clear c4b1
                 try clear c5
                 try clear c5b0
                 try clear c5b1
                 try clear c7
                 try clear c7b0
                 try clear c7b1
                 try clear c8
                 try clear c8b0
                 try clear c8b1
                 try clear c13
                 try clear c13b0
                 try clear c13b1
                 try clear c13b2
                 try clear c18
                 try clear c19
                 try clear c19b0
                 try clear c19b1
                 try clear c20
                 try clear c20b0
                 try clear c20b1
                 try clear c23
                 try clear c23b0
                 try clear c27
                 try clear c27b0
                 try clear c27b1
                 try clear c28
                 try clear c28b0
                 try clear c28b1
                 try clear c30
                 try clear p2
                 obtain ⟨x6_4, x62_4, rfl, HA, HK4, HO_5, HO_6, HO_8, HO_60, HB⟩ := hrel
                 cases gk with
                 | zero => exact absurd HA.out (by simp [saltuslaw15_TowerFalls.l1])
                 | succ k4 =>
                  have H := HA.out
                  clear HA
                  simp only [saltuslaw15_TowerFalls.l1] at H
                  by_cases c32 : x62_4 < (t162.length : Int)
                  ·rw [if_pos c32] at H
                   have c32b0 : decide (x62_4 < (t162.length : Int)) = true := decide_eq_true c32
                   clear c32
                   by_cases c33 : 0 ≤ x62_4
                   ·rw [if_pos c33] at H
                    have c33b0 : decide (0 ≤ x62_4) = true := decide_eq_true c33
                    clear c33
                    by_cases c34 : x62_4 < (t162.length : Int)
                    ·rw [if_pos c34] at H
                     have c34b0 : decide (x62_4 < (t162.length : Int)) = true := decide_eq_true c34
                     clear c34
                     by_cases c35 : (rd t162 x62_4) < 0
                     ·rw [if_pos c35] at H
                      have c35b0 : decide ((rd t162 x62_4) < 0) = true := decide_eq_true c35
                      clear c35
                      exact absurd ((Option.some.inj H).trans hr.out) (by decide)
                     ·rw [if_neg c35] at H
                      have c35b0 : decide ((rd t162 x62_4) < 0) = false := decide_eq_false c35
                      clear c35
                      by_cases c36 : (rd t162 x62_4) ≥ (lq11.length : Int)
                      ·rw [if_pos c36] at H
                       have c36b0 : decide ((lq11.length : Int) ≤ (rd t162 x62_4)) = true := decide_eq_true c36
                       clear c36
                       exact absurd ((Option.some.inj H).trans hr.out) (by decide)
                      ·rw [if_neg c36] at H
                       have c36b0 : decide ((lq11.length : Int) ≤ (rd t162 x62_4)) = false := decide_eq_false c36
                       clear c36
                       by_cases c37 : x62_4 > 0
                       ·rw [if_pos c37] at H
                        have c37b0 : decide (0 < x62_4) = true := decide_eq_true c37
                        clear c37
                        obtain ⟨ji38, hji38⟩ : ∃ j_ : Int, (wrap64 (x62_4 - 1)) = j_ := ⟨_, rfl⟩
                        replace H : (if 0 ≤ (ji38) then (if (ji38) < (t162.length : Int) then (if (rd t162 (ji38)) ≥ (rd t162 x62_4) then (some false) else (if 0 ≤ (rd t162 x62_4) then (if (rd t162 x62_4) < (x6_4.length : Int) then (if (rd x6_4 (rd t162 x62_4)) = x39_2 then (saltuslaw15_TowerFalls.l1 k4 (a0.extract 0 ((ji3) : Int).toNat) lq11 t155 (x6_4.set ((rd t162 x62_4) : Int).toNat (wrap64 ((rd x6_4 (rd t162 x62_4)) + 1))) x39_2 t162 x39_2 t162 (t162.length : Int) (wrap64 (x62_4 + 1))) else (some false)) else (none)) else (none))) else (none)) else (none)) = some r := by first | (rw [hji38] at H; exact H) | (simp only [hji38] at H ⊢; exact H)
                        have hji38w : (IntKind.i64.wrap (x62_4 - 1)) = ji38 := (i64_w _).trans hji38
                        by_cases c39 : 0 ≤ (ji38)
                        ·rw [if_pos c39] at H
                         have c39b0 : decide (0 ≤ (ji38)) = true := decide_eq_true c39
                         clear c39
                         by_cases c40 : (ji38) < (t162.length : Int)
                         ·rw [if_pos c40] at H
                          have c40b0 : decide ((ji38) < (t162.length : Int)) = true := decide_eq_true c40
                          clear c40
                          by_cases c41 : (rd t162 (ji38)) ≥ (rd t162 x62_4)
                          ·rw [if_pos c41] at H
                           have c41b0 : decide ((rd t162 x62_4) ≤ (rd t162 (ji38))) = true := decide_eq_true c41
                           clear c41
                           exact absurd ((Option.some.inj H).trans hr.out) (by decide)
                          ·rw [if_neg c41] at H
                           have c41b0 : decide ((rd t162 x62_4) ≤ (rd t162 (ji38))) = false := decide_eq_false c41
                           clear c41
                           by_cases c42 : 0 ≤ (rd t162 x62_4)
                           ·rw [if_pos c42] at H
                            have c42b0 : decide (0 ≤ (rd t162 x62_4)) = true := decide_eq_true c42
                            clear c42
                            by_cases c43 : (rd t162 x62_4) < (x6_4.length : Int)
                            ·rw [if_pos c43] at H
                             have c43b0 : decide ((rd t162 x62_4) < (x6_4.length : Int)) = true := decide_eq_true c43
                             clear c43
                             by_cases c44 : (rd x6_4 (rd t162 x62_4)) = x39_2
                             ·rw [if_pos c44] at H
                              have c44b0 : ((rd x6_4 (rd t162 x62_4)) == x39_2) = true := beq_iff_eq.mpr c44
                              have c44b1 : ((rd x6_4 (rd t162 x62_4)) != x39_2) = false := bne_eq_false_iff_eq.mpr c44
                              clear c44
                              obtain ⟨y170, hy170⟩ : ∃ y_ : List Int, y_ = (x6_4.set ((rd t162 x62_4) : Int).toNat (wrap64 ((rd x6_4 (rd t162 x62_4)) + 1))) := ⟨_, rfl⟩
                              replace H : (saltuslaw15_TowerFalls.l1 k4 (a0.extract 0 ((ji3) : Int).toNat) lq11 t155 y170 x39_2 t162 x39_2 t162 (t162.length : Int) (wrap64 (x62_4 + 1))) = some r := by first | (rw [hy170]; with_reducible exact H) | (have H2_ := (Option.bind_some _ _).symm.trans H; rw [hy170]; with_reducible exact H2_) | (have H2_ := (Option.bind_some _ _).symm.trans H; with_reducible exact H2_) | with_reducible exact H | (rw [hy170]; exact H) | exact H
                              have Ny170 := Aside0.mk hy170
                              clear hy170
                              have H' := Aside0.mk H
                              clear H
                              have p166 : 0 ≤ (x62_4 : Int) := of_decide_eq_true (by first | (with_reducible assumption) | assumption)
                              have q166 : x62_4 < (t162.length : Int) := of_decide_eq_true (by first | (with_reducible assumption) | assumption)
                              obtain ⟨ad166, e166, hx166_0⟩ := Kd.at_int (Kd.R_reads' HO_60.out).2.2 x62_4 p166 q166
                              cases e166
                              replace p166 := eq_true p166
                              replace q166 := eq_true q166
                              have p167 : 0 ≤ ((ji38) : Int) := of_decide_eq_true (by first | (with_reducible assumption) | assumption)
                              have q167 : (ji38) < (t162.length : Int) := of_decide_eq_true (by first | (with_reducible assumption) | assumption)
                              obtain ⟨ad167, e167, hx167_0⟩ := Kd.at_int (Kd.R_reads' HO_8.out).2.2 (ji38) p167 q167
                              obtain rfl : ad166 = ad167 := (by injection e167)
                              replace p167 := eq_true p167
                              replace q167 := eq_true q167
                              obtain ⟨Ao46, co46, eo46⟩ := Kd.R_slice HO_6.out
                              subst eo46
                              have p168 : 0 ≤ ((rd t162 x62_4) : Int) := of_decide_eq_true (by first | (with_reducible assumption) | assumption)
                              have q168 : (rd t162 x62_4) < (x6_4.length : Int) := of_decide_eq_true (by first | (with_reducible assumption) | assumption)
                              obtain ⟨ad168, e168, hx168_0⟩ := Kd.at_int (Kd.R_reads' HO_6.out).2.2 (rd t162 x62_4) p168 q168
                              cases e168
                              replace p168 := eq_true p168
                              replace q168 := eq_true q168
                              have p169 : 0 ≤ ((rd t162 x62_4) : Int) := of_decide_eq_true (by first | (with_reducible assumption) | assumption)
                              have q169 : (rd t162 x62_4) < (x6_4.length : Int) := of_decide_eq_true (by first | (with_reducible assumption) | assumption)
                              obtain ⟨ad169, e169, hx169_0⟩ := Kd.at_int (Kd.R_reads' HO_6.out).2.2 (rd t162 x62_4) p169 q169
                              obtain rfl : ad168 = ad169 := (by injection e169)
                              replace p169 := eq_true p169
                              replace q169 := eq_true q169
                              have p45 : 0 ≤ ((rd t162 x62_4) : Int) := of_decide_eq_true (by first | (with_reducible assumption) | assumption)
                              have q45 : ((rd t162 x62_4) : Int) < ((x6_4.length : Int) : Int) := of_decide_eq_true (by first | (with_reducible assumption) | assumption)
                              obtain ⟨go45, co45, eo45, gb45, gl45, cl45, HG45⟩ := Kd.R_form HO_6.out (by omega)
                              (first | cases eo45 | (injection eo45 with ea_ en_ ec_; (first | subst ea_ | (injection ea_ with ea_; subst ea_)); subst ec_; clear en_))
                              have GB45 := Aside0.mk gb45
                              have GG45 := Aside0.mk HG45
                              clear gb45 gl45 HG45
                              (first | simp only [add_plain] at hx168_0 | skip)
                              (first | simp only [add_plain] at hx169_0 | skip)
                              obtain ⟨hx45_0, hf45_0⟩ := Kd.R_celln 0 HO_6.out ((rd t162 x62_4) : Int) p45 q45
                              replace p45 := eq_true p45
                              replace q45 := eq_true q45
                              have HP47 := Kd.R_putg HO_6.out ((rd t162 x62_4) : Int) (wrap64 ((rd x6_4 (rd t162 x62_4)) + 1))
                              go_wp2_with (first | ((with_reducible refine gate_store (t := 3) (p := 101) rfl ?_); (try (rw [drewN_self wr]; generalize hq_ : World.drewN wr _ = wr; have n0_ := Aside0.mk (Kd.R_at hq_ HO_5.out); have n1_ := Aside0.mk (Kd.R_at hq_ HO_6.out); have n2_ := Aside0.mk (Kd.R_at hq_ HO_8.out); have n3_ := Aside0.mk (Kd.R_at hq_ HO_60.out); have n4_ := Aside0.mk (below_at hq_ HB.out); clear hq_ HO_5 HO_6 HO_8 HO_60 HB; have HO_5 := n0_; have HO_6 := n1_; have HO_8 := n2_; have HO_60 := n3_; have HB := n4_; clear n0_ n1_ n2_ n3_ n4_; (try (have HP47 := Kd.R_putg HO_6.out ((rd t162 x62_4) : Int) (wrap64 ((rd x6_4 (rd t162 x62_4)) + 1)))))); refine store_event (t := 3) (p := 101) (v := ?vo_w48) (w1 := (wr.setCell ⟨go45, ((rd t162 x62_4) : Int).toNat, none⟩ (.int .i64 (wrap64 ((rd x6_4 (rd t162 x62_4)) + 1))))) ?hg ?ho ?hn ?hr ?_; (case ho => rfl); (case hg => rfl); (case hn => rfl); (case hr => first | (go_simp; done) | (go_simp; rfl)); intro w48 hw; have hg : wr.grownBy w48 (some go45) := (by rw [hw]; exact HP47.2); have hp_ : Kd.R (Kd.int .i64) 3 w48 w.heap.size (fun k_ => some k_ ≠ (v156 : Value).ownBlock ∧ some k_ ≠ (.slice (some ad166) t162.length co31 : Value).ownBlock ∧ some k_ ≠ (.slice (some ad166) t162.length co31 : Value).ownBlock) (.slice (some ⟨go45, 0, none⟩) x6_4.length co46) y170 := (by rw [hw, Ny170.out]; exact HP47.1); clear HP47; have n0_ := Aside0.mk (Kd.R_after (v := (.slice (some ⟨go45, 0, none⟩) x6_4.length co46)) (v1 := (.slice (some ⟨go45, 0, none⟩) x6_4.length co46)) (ok := (fun k_ => some k_ ≠ (.slice (some ad166) t162.length co31 : Value).ownBlock ∧ some k_ ≠ (.slice (some ad166) t162.length co31 : Value).ownBlock)) (by (with_reducible repeat (first | apply Kd.R_alloc | apply Kd.R_drewN | apply Kd.R_drew)); exact Kd.R_mono HO_5.out (fun _ hk => ⟨⟨hk.2.1, hk.2.2⟩, hk.1⟩)) hg (.inl rfl)); have n1_ := Aside0.mk (hp_); have n2_ := Aside0.mk (Kd.R_after (v := (.slice (some ⟨go45, 0, none⟩) x6_4.length co46)) (v1 := (.slice (some ⟨go45, 0, none⟩) x6_4.length co46)) (ok := (fun k_ => some k_ ≠ (v156 : Value).ownBlock)) (by (with_reducible repeat (first | apply Kd.R_alloc | apply Kd.R_drewN | apply Kd.R_drew)); exact HO_8.out) hg (.inl rfl)); have n3_ := Aside0.mk (Kd.R_after (v := (.slice (some ⟨go45, 0, none⟩) x6_4.length co46)) (v1 := (.slice (some ⟨go45, 0, none⟩) x6_4.length co46)) (ok := (fun k_ => some k_ ≠ (v156 : Value).ownBlock)) (by (with_reducible repeat (first | apply Kd.R_alloc | apply Kd.R_drewN | apply Kd.R_drew)); exact HO_60.out) hg (.inl rfl)); have n4_ := Aside0.mk ((by rw [hw]; exact below_set (HB.out) GB45.out : Below w.heap.size w w48)); clear HO_5; clear HO_6; clear HO_8; clear HO_60; clear HB; have HO_5 := n0_; have HO_6 := n1_; have HO_8 := n2_; have HO_60 := n3_; have HB := n4_; clear n0_ n1_ n2_ n3_ n4_; clear hg hw hp_))
                              repeat (go_quiet (first | ((with_reducible refine gate_store (t := 3) (p := 101) rfl ?_); (try (rw [drewN_self wr]; generalize hq_ : World.drewN wr _ = wr; have n0_ := Aside0.mk (Kd.R_at hq_ HO_5.out); have n1_ := Aside0.mk (Kd.R_at hq_ HO_6.out); have n2_ := Aside0.mk (Kd.R_at hq_ HO_8.out); have n3_ := Aside0.mk (Kd.R_at hq_ HO_60.out); have n4_ := Aside0.mk (below_at hq_ HB.out); clear hq_ HO_5 HO_6 HO_8 HO_60 HB; have HO_5 := n0_; have HO_6 := n1_; have HO_8 := n2_; have HO_60 := n3_; have HB := n4_; clear n0_ n1_ n2_ n3_ n4_; (try (have HP47 := Kd.R_putg HO_6.out ((rd t162 x62_4) : Int) (wrap64 ((rd x6_4 (rd t162 x62_4)) + 1)))))); refine store_event (t := 3) (p := 101) (v := ?vo_w48) (w1 := (wr.setCell ⟨go45, ((rd t162 x62_4) : Int).toNat, none⟩ (.int .i64 (wrap64 ((rd x6_4 (rd t162 x62_4)) + 1))))) ?hg ?ho ?hn ?hr ?_; (case ho => rfl); (case hg => rfl); (case hn => rfl); (case hr => first | (go_simp; done) | (go_simp; rfl)); intro w48 hw; have hg : wr.grownBy w48 (some go45) := (by rw [hw]; exact HP47.2); have hp_ : Kd.R (Kd.int .i64) 3 w48 w.heap.size (fun k_ => some k_ ≠ (v156 : Value).ownBlock ∧ some k_ ≠ (.slice (some ad166) t162.length co31 : Value).ownBlock ∧ some k_ ≠ (.slice (some ad166) t162.length co31 : Value).ownBlock) (.slice (some ⟨go45, 0, none⟩) x6_4.length co46) y170 := (by rw [hw, Ny170.out]; exact HP47.1); clear HP47; have n0_ := Aside0.mk (Kd.R_after (v := (.slice (some ⟨go45, 0, none⟩) x6_4.length co46)) (v1 := (.slice (some ⟨go45, 0, none⟩) x6_4.length co46)) (ok := (fun k_ => some k_ ≠ (.slice (some ad166) t162.length co31 : Value).ownBlock ∧ some k_ ≠ (.slice (some ad166) t162.length co31 : Value).ownBlock)) (by (with_reducible repeat (first | apply Kd.R_alloc | apply Kd.R_drewN | apply Kd.R_drew)); exact Kd.R_mono HO_5.out (fun _ hk => ⟨⟨hk.2.1, hk.2.2⟩, hk.1⟩)) hg (.inl rfl)); have n1_ := Aside0.mk (hp_); have n2_ := Aside0.mk (Kd.R_after (v := (.slice (some ⟨go45, 0, none⟩) x6_4.length co46)) (v1 := (.slice (some ⟨go45, 0, none⟩) x6_4.length co46)) (ok := (fun k_ => some k_ ≠ (v156 : Value).ownBlock)) (by (with_reducible repeat (first | apply Kd.R_alloc | apply Kd.R_drewN | apply Kd.R_drew)); exact HO_8.out) hg (.inl rfl)); have n3_ := Aside0.mk (Kd.R_after (v := (.slice (some ⟨go45, 0, none⟩) x6_4.length co46)) (v1 := (.slice (some ⟨go45, 0, none⟩) x6_4.length co46)) (ok := (fun k_ => some k_ ≠ (v156 : Value).ownBlock)) (by (with_reducible repeat (first | apply Kd.R_alloc | apply Kd.R_drewN | apply Kd.R_drew)); exact HO_60.out) hg (.inl rfl)); have n4_ := Aside0.mk ((by rw [hw]; exact below_set (HB.out) GB45.out : Below w.heap.size w w48)); clear HO_5; clear HO_6; clear HO_8; clear HO_60; clear HB; have HO_5 := n0_; have HO_6 := n1_; have HO_8 := n2_; have HO_60 := n3_; have HB := n4_; clear n0_ n1_ n2_ n3_ n4_; clear hg hw hp_)); try go_wp2_with (first | ((with_reducible refine gate_store (t := 3) (p := 101) rfl ?_); (try (rw [drewN_self wr]; generalize hq_ : World.drewN wr _ = wr; have n0_ := Aside0.mk (Kd.R_at hq_ HO_5.out); have n1_ := Aside0.mk (Kd.R_at hq_ HO_6.out); have n2_ := Aside0.mk (Kd.R_at hq_ HO_8.out); have n3_ := Aside0.mk (Kd.R_at hq_ HO_60.out); have n4_ := Aside0.mk (below_at hq_ HB.out); clear hq_ HO_5 HO_6 HO_8 HO_60 HB; have HO_5 := n0_; have HO_6 := n1_; have HO_8 := n2_; have HO_60 := n3_; have HB := n4_; clear n0_ n1_ n2_ n3_ n4_; (try (have HP47 := Kd.R_putg HO_6.out ((rd t162 x62_4) : Int) (wrap64 ((rd x6_4 (rd t162 x62_4)) + 1)))))); refine store_event (t := 3) (p := 101) (v := ?vo_w48) (w1 := (wr.setCell ⟨go45, ((rd t162 x62_4) : Int).toNat, none⟩ (.int .i64 (wrap64 ((rd x6_4 (rd t162 x62_4)) + 1))))) ?hg ?ho ?hn ?hr ?_; (case ho => rfl); (case hg => rfl); (case hn => rfl); (case hr => first | (go_simp; done) | (go_simp; rfl)); intro w48 hw; have hg : wr.grownBy w48 (some go45) := (by rw [hw]; exact HP47.2); have hp_ : Kd.R (Kd.int .i64) 3 w48 w.heap.size (fun k_ => some k_ ≠ (v156 : Value).ownBlock ∧ some k_ ≠ (.slice (some ad166) t162.length co31 : Value).ownBlock ∧ some k_ ≠ (.slice (some ad166) t162.length co31 : Value).ownBlock) (.slice (some ⟨go45, 0, none⟩) x6_4.length co46) y170 := (by rw [hw, Ny170.out]; exact HP47.1); clear HP47; have n0_ := Aside0.mk (Kd.R_after (v := (.slice (some ⟨go45, 0, none⟩) x6_4.length co46)) (v1 := (.slice (some ⟨go45, 0, none⟩) x6_4.length co46)) (ok := (fun k_ => some k_ ≠ (.slice (some ad166) t162.length co31 : Value).ownBlock ∧ some k_ ≠ (.slice (some ad166) t162.length co31 : Value).ownBlock)) (by (with_reducible repeat (first | apply Kd.R_alloc | apply Kd.R_drewN | apply Kd.R_drew)); exact Kd.R_mono HO_5.out (fun _ hk => ⟨⟨hk.2.1, hk.2.2⟩, hk.1⟩)) hg (.inl rfl)); have n1_ := Aside0.mk (hp_); have n2_ := Aside0.mk (Kd.R_after (v := (.slice (some ⟨go45, 0, none⟩) x6_4.length co46)) (v1 := (.slice (some ⟨go45, 0, none⟩) x6_4.length co46)) (ok := (fun k_ => some k_ ≠ (v156 : Value).ownBlock)) (by (with_reducible repeat (first | apply Kd.R_alloc | apply Kd.R_drewN | apply Kd.R_drew)); exact HO_8.out) hg (.inl rfl)); have n3_ := Aside0.mk (Kd.R_after (v := (.slice (some ⟨go45, 0, none⟩) x6_4.length co46)) (v1 := (.slice (some ⟨go45, 0, none⟩) x6_4.length co46)) (ok := (fun k_ => some k_ ≠ (v156 : Value).ownBlock)) (by (with_reducible repeat (first | apply Kd.R_alloc | apply Kd.R_drewN | apply Kd.R_drew)); exact HO_60.out) hg (.inl rfl)); have n4_ := Aside0.mk ((by rw [hw]; exact below_set (HB.out) GB45.out : Below w.heap.size w w48)); clear HO_5; clear HO_6; clear HO_8; clear HO_60; clear HB; have HO_5 := n0_; have HO_6 := n1_; have HO_8 := n2_; have HO_60 := n3_; have HB := n4_; clear n0_ n1_ n2_ n3_ n4_; clear hg hw hp_)))
                              go_roundg k4
                              case measure => have := HJ9.out; have := HK2.out; have := HJ24.out; have := HK4.out; omega
                              case rel => exact ⟨(y170), (wrap64 (x62_4 + 1)), (by first | rfl | (simp; done) | (simp [*]; done)), H', ⟨by have := HJ9.out; have := HK2.out; have := HJ24.out; have := HK4.out; omega⟩, ⟨by (with_reducible repeat (first | apply Kd.R_alloc | apply Kd.R_drewN | apply Kd.R_drew)); exact Kd.R_mono HO_5.out (fun _ hk => ⟨hk.2, ⟨hk.1.1, hk.1.2⟩⟩)⟩, ⟨by (with_reducible repeat (first | apply Kd.R_alloc | apply Kd.R_drewN | apply Kd.R_drew)); exact HO_6.out⟩, ⟨by (with_reducible repeat (first | apply Kd.R_alloc | apply Kd.R_drewN | apply Kd.R_drew)); exact HO_8.out⟩, ⟨by (with_reducible repeat (first | apply Kd.R_alloc | apply Kd.R_drewN | apply Kd.R_drew)); exact HO_60.out⟩, ⟨by repeat (first | (with_reducible first | exact HB.out | apply below_alloc | apply pw_below_drewN | apply below_drew1) | exact HB.out)⟩⟩
                             ·rw [if_neg c44] at H
                              have c44b0 : ((rd x6_4 (rd t162 x62_4)) == x39_2) = false := beq_eq_false_iff_ne.mpr c44
                              have c44b1 : ((rd x6_4 (rd t162 x62_4)) != x39_2) = true := bne_iff_ne.mpr c44
                              exact absurd ((Option.some.inj H).trans hr.out) (by decide)
                            ·rw [if_neg c43] at H
                             exact absurd H (by simp)
                           ·rw [if_neg c42] at H
                            exact absurd H (by simp)
                         ·rw [if_neg c40] at H
                          exact absurd H (by simp)
                        ·rw [if_neg c39] at H
                         exact absurd H (by simp)
                       ·rw [if_neg c37] at H
                        have c37b0 : decide (0 < x62_4) = false := decide_eq_false c37
                        clear c37
                        by_cases c49 : 0 ≤ (rd t162 x62_4)
                        ·rw [if_pos c49] at H
                         have c49b0 : decide (0 ≤ (rd t162 x62_4)) = true := decide_eq_true c49
                         clear c49
                         by_cases c50 : (rd t162 x62_4) < (x6_4.length : Int)
                         ·rw [if_pos c50] at H
                          have c50b0 : decide ((rd t162 x62_4) < (x6_4.length : Int)) = true := decide_eq_true c50
                          clear c50
                          by_cases c51 : (rd x6_4 (rd t162 x62_4)) = x39_2
                          ·rw [if_pos c51] at H
                           have c51b0 : ((rd x6_4 (rd t162 x62_4)) == x39_2) = true := beq_iff_eq.mpr c51
                           have c51b1 : ((rd x6_4 (rd t162 x62_4)) != x39_2) = false := bne_eq_false_iff_eq.mpr c51
                           clear c51
                           obtain ⟨y173, hy173⟩ : ∃ y_ : List Int, y_ = (x6_4.set ((rd t162 x62_4) : Int).toNat (wrap64 ((rd x6_4 (rd t162 x62_4)) + 1))) := ⟨_, rfl⟩
                           replace H : (saltuslaw15_TowerFalls.l1 k4 (a0.extract 0 ((ji3) : Int).toNat) lq11 t155 y173 x39_2 t162 x39_2 t162 (t162.length : Int) (wrap64 (x62_4 + 1))) = some r := by first | (rw [hy173]; with_reducible exact H) | (have H2_ := (Option.bind_some _ _).symm.trans H; rw [hy173]; with_reducible exact H2_) | (have H2_ := (Option.bind_some _ _).symm.trans H; with_reducible exact H2_) | with_reducible exact H | (rw [hy173]; exact H) | exact H
                           have Ny173 := Aside0.mk hy173
                           clear hy173
                           have H' := Aside0.mk H
                           clear H
                           have p166 : 0 ≤ (x62_4 : Int) := of_decide_eq_true (by first | (with_reducible assumption) | assumption)
                           have q166 : x62_4 < (t162.length : Int) := of_decide_eq_true (by first | (with_reducible assumption) | assumption)
                           obtain ⟨ad166, e166, hx166_0⟩ := Kd.at_int (Kd.R_reads' HO_60.out).2.2 x62_4 p166 q166
                           cases e166
                           replace p166 := eq_true p166
                           replace q166 := eq_true q166
                           obtain ⟨Ao53, co53, eo53⟩ := Kd.R_slice HO_6.out
                           subst eo53
                           have p171 : 0 ≤ ((rd t162 x62_4) : Int) := of_decide_eq_true (by first | (with_reducible assumption) | assumption)
                           have q171 : (rd t162 x62_4) < (x6_4.length : Int) := of_decide_eq_true (by first | (with_reducible assumption) | assumption)
                           obtain ⟨ad171, e171, hx171_0⟩ := Kd.at_int (Kd.R_reads' HO_6.out).2.2 (rd t162 x62_4) p171 q171
                           cases e171
                           replace p171 := eq_true p171
                           replace q171 := eq_true q171
                           have p172 : 0 ≤ ((rd t162 x62_4) : Int) := of_decide_eq_true (by first | (with_reducible assumption) | assumption)
                           have q172 : (rd t162 x62_4) < (x6_4.length : Int) := of_decide_eq_true (by first | (with_reducible assumption) | assumption)
                           obtain ⟨ad172, e172, hx172_0⟩ := Kd.at_int (Kd.R_reads' HO_6.out).2.2 (rd t162 x62_4) p172 q172
                           obtain rfl : ad171 = ad172 := (by injection e172)
                           replace p172 := eq_true p172
                           replace q172 := eq_true q172
                           have p52 : 0 ≤ ((rd t162 x62_4) : Int) := of_decide_eq_true (by first | (with_reducible assumption) | assumption)
                           have q52 : ((rd t162 x62_4) : Int) < ((x6_4.length : Int) : Int) := of_decide_eq_true (by first | (with_reducible assumption) | assumption)
                           obtain ⟨go52, co52, eo52, gb52, gl52, cl52, HG52⟩ := Kd.R_form HO_6.out (by omega)
                           (first | cases eo52 | (injection eo52 with ea_ en_ ec_; (first | subst ea_ | (injection ea_ with ea_; subst ea_)); subst ec_; clear en_))
                           have GB52 := Aside0.mk gb52
                           have GG52 := Aside0.mk HG52
                           clear gb52 gl52 HG52
                           (first | simp only [add_plain] at hx171_0 | skip)
                           (first | simp only [add_plain] at hx172_0 | skip)
                           obtain ⟨hx52_0, hf52_0⟩ := Kd.R_celln 0 HO_6.out ((rd t162 x62_4) : Int) p52 q52
                           replace p52 := eq_true p52
                           replace q52 := eq_true q52
                           have HP54 := Kd.R_putg HO_6.out ((rd t162 x62_4) : Int) (wrap64 ((rd x6_4 (rd t162 x62_4)) + 1))
                           go_wp2_with (first | ((with_reducible refine gate_store (t := 3) (p := 101) rfl ?_); (try (rw [drewN_self wr]; generalize hq_ : World.drewN wr _ = wr; have n0_ := Aside0.mk (Kd.R_at hq_ HO_5.out); have n1_ := Aside0.mk (Kd.R_at hq_ HO_6.out); have n2_ := Aside0.mk (Kd.R_at hq_ HO_8.out); have n3_ := Aside0.mk (Kd.R_at hq_ HO_60.out); have n4_ := Aside0.mk (below_at hq_ HB.out); clear hq_ HO_5 HO_6 HO_8 HO_60 HB; have HO_5 := n0_; have HO_6 := n1_; have HO_8 := n2_; have HO_60 := n3_; have HB := n4_; clear n0_ n1_ n2_ n3_ n4_; (try (have HP54 := Kd.R_putg HO_6.out ((rd t162 x62_4) : Int) (wrap64 ((rd x6_4 (rd t162 x62_4)) + 1)))))); refine store_event (t := 3) (p := 101) (v := ?vo_w55) (w1 := (wr.setCell ⟨go52, ((rd t162 x62_4) : Int).toNat, none⟩ (.int .i64 (wrap64 ((rd x6_4 (rd t162 x62_4)) + 1))))) ?hg ?ho ?hn ?hr ?_; (case ho => rfl); (case hg => rfl); (case hn => rfl); (case hr => first | (go_simp; done) | (go_simp; rfl)); intro w55 hw; have hg : wr.grownBy w55 (some go52) := (by rw [hw]; exact HP54.2); have hp_ : Kd.R (Kd.int .i64) 3 w55 w.heap.size (fun k_ => some k_ ≠ (v156 : Value).ownBlock ∧ some k_ ≠ (.slice (some ad166) t162.length co31 : Value).ownBlock ∧ some k_ ≠ (.slice (some ad166) t162.length co31 : Value).ownBlock) (.slice (some ⟨go52, 0, none⟩) x6_4.length co53) y173 := (by rw [hw, Ny173.out]; exact HP54.1); clear HP54; have n0_ := Aside0.mk (Kd.R_after (v := (.slice (some ⟨go52, 0, none⟩) x6_4.length co53)) (v1 := (.slice (some ⟨go52, 0, none⟩) x6_4.length co53)) (ok := (fun k_ => some k_ ≠ (.slice (some ad166) t162.length co31 : Value).ownBlock ∧ some k_ ≠ (.slice (some ad166) t162.length co31 : Value).ownBlock)) (by (with_reducible repeat (first | apply Kd.R_alloc | apply Kd.R_drewN | apply Kd.R_drew)); exact Kd.R_mono HO_5.out (fun _ hk => ⟨⟨hk.2.1, hk.2.2⟩, hk.1⟩)) hg (.inl rfl)); have n1_ := Aside0.mk (hp_); have n2_ := Aside0.mk (Kd.R_after (v := (.slice (some ⟨go52, 0, none⟩) x6_4.length co53)) (v1 := (.slice (some ⟨go52, 0, none⟩) x6_4.length co53)) (ok := (fun k_ => some k_ ≠ (v156 : Value).ownBlock)) (by (with_reducible repeat (first | apply Kd.R_alloc | apply Kd.R_drewN | apply Kd.R_drew)); exact HO_8.out) hg (.inl rfl)); have n3_ := Aside0.mk (Kd.R_after (v := (.slice (some ⟨go52, 0, none⟩) x6_4.length co53)) (v1 := (.slice (some ⟨go52, 0, none⟩) x6_4.length co53)) (ok := (fun k_ => some k_ ≠ (v156 : Value).ownBlock)) (by (with_reducible repeat (first | apply Kd.R_alloc | apply Kd.R_drewN | apply Kd.R_drew)); exact HO_60.out) hg (.inl rfl)); have n4_ := Aside0.mk ((by rw [hw]; exact below_set (HB.out) GB52.out : Below w.heap.size w w55)); clear HO_5; clear HO_6; clear HO_8; clear HO_60; clear HB; have HO_5 := n0_; have HO_6 := n1_; have HO_8 := n2_; have HO_60 := n3_; have HB := n4_; clear n0_ n1_ n2_ n3_ n4_; clear hg hw hp_))
                           repeat (go_quiet (first | ((with_reducible refine gate_store (t := 3) (p := 101) rfl ?_); (try (rw [drewN_self wr]; generalize hq_ : World.drewN wr _ = wr; have n0_ := Aside0.mk (Kd.R_at hq_ HO_5.out); have n1_ := Aside0.mk (Kd.R_at hq_ HO_6.out); have n2_ := Aside0.mk (Kd.R_at hq_ HO_8.out); have n3_ := Aside0.mk (Kd.R_at hq_ HO_60.out); have n4_ := Aside0.mk (below_at hq_ HB.out); clear hq_ HO_5 HO_6 HO_8 HO_60 HB; have HO_5 := n0_; have HO_6 := n1_; have HO_8 := n2_; have HO_60 := n3_; have HB := n4_; clear n0_ n1_ n2_ n3_ n4_; (try (have HP54 := Kd.R_putg HO_6.out ((rd t162 x62_4) : Int) (wrap64 ((rd x6_4 (rd t162 x62_4)) + 1)))))); refine store_event (t := 3) (p := 101) (v := ?vo_w55) (w1 := (wr.setCell ⟨go52, ((rd t162 x62_4) : Int).toNat, none⟩ (.int .i64 (wrap64 ((rd x6_4 (rd t162 x62_4)) + 1))))) ?hg ?ho ?hn ?hr ?_; (case ho => rfl); (case hg => rfl); (case hn => rfl); (case hr => first | (go_simp; done) | (go_simp; rfl)); intro w55 hw; have hg : wr.grownBy w55 (some go52) := (by rw [hw]; exact HP54.2); have hp_ : Kd.R (Kd.int .i64) 3 w55 w.heap.size (fun k_ => some k_ ≠ (v156 : Value).ownBlock ∧ some k_ ≠ (.slice (some ad166) t162.length co31 : Value).ownBlock ∧ some k_ ≠ (.slice (some ad166) t162.length co31 : Value).ownBlock) (.slice (some ⟨go52, 0, none⟩) x6_4.length co53) y173 := (by rw [hw, Ny173.out]; exact HP54.1); clear HP54; have n0_ := Aside0.mk (Kd.R_after (v := (.slice (some ⟨go52, 0, none⟩) x6_4.length co53)) (v1 := (.slice (some ⟨go52, 0, none⟩) x6_4.length co53)) (ok := (fun k_ => some k_ ≠ (.slice (some ad166) t162.length co31 : Value).ownBlock ∧ some k_ ≠ (.slice (some ad166) t162.length co31 : Value).ownBlock)) (by (with_reducible repeat (first | apply Kd.R_alloc | apply Kd.R_drewN | apply Kd.R_drew)); exact Kd.R_mono HO_5.out (fun _ hk => ⟨⟨hk.2.1, hk.2.2⟩, hk.1⟩)) hg (.inl rfl)); have n1_ := Aside0.mk (hp_); have n2_ := Aside0.mk (Kd.R_after (v := (.slice (some ⟨go52, 0, none⟩) x6_4.length co53)) (v1 := (.slice (some ⟨go52, 0, none⟩) x6_4.length co53)) (ok := (fun k_ => some k_ ≠ (v156 : Value).ownBlock)) (by (with_reducible repeat (first | apply Kd.R_alloc | apply Kd.R_drewN | apply Kd.R_drew)); exact HO_8.out) hg (.inl rfl)); have n3_ := Aside0.mk (Kd.R_after (v := (.slice (some ⟨go52, 0, none⟩) x6_4.length co53)) (v1 := (.slice (some ⟨go52, 0, none⟩) x6_4.length co53)) (ok := (fun k_ => some k_ ≠ (v156 : Value).ownBlock)) (by (with_reducible repeat (first | apply Kd.R_alloc | apply Kd.R_drewN | apply Kd.R_drew)); exact HO_60.out) hg (.inl rfl)); have n4_ := Aside0.mk ((by rw [hw]; exact below_set (HB.out) GB52.out : Below w.heap.size w w55)); clear HO_5; clear HO_6; clear HO_8; clear HO_60; clear HB; have HO_5 := n0_; have HO_6 := n1_; have HO_8 := n2_; have HO_60 := n3_; have HB := n4_; clear n0_ n1_ n2_ n3_ n4_; clear hg hw hp_)); try go_wp2_with (first | ((with_reducible refine gate_store (t := 3) (p := 101) rfl ?_); (try (rw [drewN_self wr]; generalize hq_ : World.drewN wr _ = wr; have n0_ := Aside0.mk (Kd.R_at hq_ HO_5.out); have n1_ := Aside0.mk (Kd.R_at hq_ HO_6.out); have n2_ := Aside0.mk (Kd.R_at hq_ HO_8.out); have n3_ := Aside0.mk (Kd.R_at hq_ HO_60.out); have n4_ := Aside0.mk (below_at hq_ HB.out); clear hq_ HO_5 HO_6 HO_8 HO_60 HB; have HO_5 := n0_; have HO_6 := n1_; have HO_8 := n2_; have HO_60 := n3_; have HB := n4_; clear n0_ n1_ n2_ n3_ n4_; (try (have HP54 := Kd.R_putg HO_6.out ((rd t162 x62_4) : Int) (wrap64 ((rd x6_4 (rd t162 x62_4)) + 1)))))); refine store_event (t := 3) (p := 101) (v := ?vo_w55) (w1 := (wr.setCell ⟨go52, ((rd t162 x62_4) : Int).toNat, none⟩ (.int .i64 (wrap64 ((rd x6_4 (rd t162 x62_4)) + 1))))) ?hg ?ho ?hn ?hr ?_; (case ho => rfl); (case hg => rfl); (case hn => rfl); (case hr => first | (go_simp; done) | (go_simp; rfl)); intro w55 hw; have hg : wr.grownBy w55 (some go52) := (by rw [hw]; exact HP54.2); have hp_ : Kd.R (Kd.int .i64) 3 w55 w.heap.size (fun k_ => some k_ ≠ (v156 : Value).ownBlock ∧ some k_ ≠ (.slice (some ad166) t162.length co31 : Value).ownBlock ∧ some k_ ≠ (.slice (some ad166) t162.length co31 : Value).ownBlock) (.slice (some ⟨go52, 0, none⟩) x6_4.length co53) y173 := (by rw [hw, Ny173.out]; exact HP54.1); clear HP54; have n0_ := Aside0.mk (Kd.R_after (v := (.slice (some ⟨go52, 0, none⟩) x6_4.length co53)) (v1 := (.slice (some ⟨go52, 0, none⟩) x6_4.length co53)) (ok := (fun k_ => some k_ ≠ (.slice (some ad166) t162.length co31 : Value).ownBlock ∧ some k_ ≠ (.slice (some ad166) t162.length co31 : Value).ownBlock)) (by (with_reducible repeat (first | apply Kd.R_alloc | apply Kd.R_drewN | apply Kd.R_drew)); exact Kd.R_mono HO_5.out (fun _ hk => ⟨⟨hk.2.1, hk.2.2⟩, hk.1⟩)) hg (.inl rfl)); have n1_ := Aside0.mk (hp_); have n2_ := Aside0.mk (Kd.R_after (v := (.slice (some ⟨go52, 0, none⟩) x6_4.length co53)) (v1 := (.slice (some ⟨go52, 0, none⟩) x6_4.length co53)) (ok := (fun k_ => some k_ ≠ (v156 : Value).ownBlock)) (by (with_reducible repeat (first | apply Kd.R_alloc | apply Kd.R_drewN | apply Kd.R_drew)); exact HO_8.out) hg (.inl rfl)); have n3_ := Aside0.mk (Kd.R_after (v := (.slice (some ⟨go52, 0, none⟩) x6_4.length co53)) (v1 := (.slice (some ⟨go52, 0, none⟩) x6_4.length co53)) (ok := (fun k_ => some k_ ≠ (v156 : Value).ownBlock)) (by (with_reducible repeat (first | apply Kd.R_alloc | apply Kd.R_drewN | apply Kd.R_drew)); exact HO_60.out) hg (.inl rfl)); have n4_ := Aside0.mk ((by rw [hw]; exact below_set (HB.out) GB52.out : Below w.heap.size w w55)); clear HO_5; clear HO_6; clear HO_8; clear HO_60; clear HB; have HO_5 := n0_; have HO_6 := n1_; have HO_8 := n2_; have HO_60 := n3_; have HB := n4_; clear n0_ n1_ n2_ n3_ n4_; clear hg hw hp_)))
                           go_roundg k4
                           case measure => have := HJ9.out; have := HK2.out; have := HJ24.out; have := HK4.out; omega
                           case rel => exact ⟨(y173), (wrap64 (x62_4 + 1)), (by first | rfl | (simp; done) | (simp [*]; done)), H', ⟨by have := HJ9.out; have := HK2.out; have := HJ24.out; have := HK4.out; omega⟩, ⟨by (with_reducible repeat (first | apply Kd.R_alloc | apply Kd.R_drewN | apply Kd.R_drew)); exact Kd.R_mono HO_5.out (fun _ hk => ⟨hk.2, ⟨hk.1.1, hk.1.2⟩⟩)⟩, ⟨by (with_reducible repeat (first | apply Kd.R_alloc | apply Kd.R_drewN | apply Kd.R_drew)); exact HO_6.out⟩, ⟨by (with_reducible repeat (first | apply Kd.R_alloc | apply Kd.R_drewN | apply Kd.R_drew)); exact HO_8.out⟩, ⟨by (with_reducible repeat (first | apply Kd.R_alloc | apply Kd.R_drewN | apply Kd.R_drew)); exact HO_60.out⟩, ⟨by repeat (first | (with_reducible first | exact HB.out | apply below_alloc | apply pw_below_drewN | apply below_drew1) | exact HB.out)⟩⟩
                          ·rw [if_neg c51] at H
                           have c51b0 : ((rd x6_4 (rd t162 x62_4)) == x39_2) = false := beq_eq_false_iff_ne.mpr c51
                           have c51b1 : ((rd x6_4 (rd t162 x62_4)) != x39_2) = true := bne_iff_ne.mpr c51
                           exact absurd ((Option.some.inj H).trans hr.out) (by decide)
                         ·rw [if_neg c50] at H
                          exact absurd H (by simp)
                        ·rw [if_neg c49] at H
                         exact absurd H (by simp)
                    ·rw [if_neg c34] at H
                     exact absurd H (by simp)
                   ·rw [if_neg c33] at H
                    exact absurd H (by simp)
                  ·rw [if_neg c32] at H
                   have c32b0 : decide (x62_4 < (t162.length : Int)) = false := decide_eq_false c32
                   clear c32
                   have H' := Aside0.mk H
                   clear H
                   go_wp2
                   repeat (go_quiet (fail); try go_wp2)
                   go_roundg k4
                   case measure => have := HJ9.out; have := HK2.out; have := HJ24.out; have := HK4.out; omega
                   case rel => exact ⟨(x6_4), (wrap64 (x39_2 + 1)), (by first | rfl | (simp; done) | (simp [*]; done)), H', ⟨by have := HJ9.out; have := HK2.out; have := HJ24.out; have := HK4.out; omega⟩, ⟨by (with_reducible repeat (first | apply Kd.R_alloc | apply Kd.R_drewN | apply Kd.R_drew)); exact Kd.R_mono HO_5.out (fun _ hk => hk.1)⟩, ⟨by (with_reducible repeat (first | apply Kd.R_alloc | apply Kd.R_drewN | apply Kd.R_drew)); exact Kd.R_mono HO_6.out (fun _ hk => hk.1)⟩, ⟨by repeat (first | (with_reducible first | exact HB.out | apply below_alloc | apply pw_below_drewN | apply below_drew1) | exact HB.out)⟩⟩
            ·rw [if_neg c23] at H
             have c23b0 : decide (x39_2 < 9) = false := decide_eq_false c23
             clear c23
             have H' := Aside0.mk H
             clear H
             obtain ⟨Ao56, co56, eo56⟩ := Kd.R_slice HO_5.out
             subst eo56
             go_wp2
             repeat (go_quiet (fail); try go_wp2)
             go_loopg [106] k2 (fun kq v106 w' => ∃ (x106_3 : Int), v106 = .int .i64 x106_3 ∧ Aside0 (saltuslaw15_TowerFalls.l2 kq (a0.extract 0 ((ji3) : Int).toNat) lq11 x6_2 t155 (t155.length : Int) x106_3 = some r) ∧ Aside0 (kq ≤ k2) ∧ Aside0 (Kd.R (Kd.int .i64) 3 w' w.heap.size (fun k_ => some k_ ≠ ((.slice Ao56 t155.length co56) : Value).ownBlock) v160 x6_2) ∧ Aside0 (Kd.R (Kd.int .i64) 3 w' w.heap.size (fun k_ => some k_ ≠ (v160 : Value).ownBlock) (.slice Ao56 t155.length co56) t155) ∧ Aside0 (Below w.heap.size w w'))
             case atStart => exact ⟨(0), (by first | rfl | (simp; done) | (simp [*]; done)), H', ⟨Nat.le_refl _⟩, ⟨by (with_reducible repeat (first | apply Kd.R_alloc | apply Kd.R_drewN | apply Kd.R_drew)); exact HO_6.out⟩, ⟨by (with_reducible repeat (first | apply Kd.R_alloc | apply Kd.R_drewN | apply Kd.R_drew)); exact HO_5.out⟩, ⟨by repeat (first | (with_reducible first | exact HB.out | apply below_alloc | apply pw_below_drewN | apply below_drew1) | exact HB.out)⟩⟩
             case round =>
              clear H'
              try clear c1
              try clear p1
              try clear q1
              try clear hx1
              try clear c2
              try clear p2
              try clear c3
              try clear c4
              try clear c4b0
              try clear c4b1
              try clear p4
              try clear q4
              try clear hx4
              try clear hf4
              try clear c5
              try clear c5b0
              try clear c5b1
              try clear p5
              try clear q5
              try clear hx5
              try clear hf5
              try clear p6
              try clear c7
              try clear c7b0
              try clear c7b1
              try clear c8
              try clear c8b0
              try clear c8b1
              try clear c13
              try clear c13b0
              try clear c13b1
              try clear c13b2
              try clear p16
              try clear q16
              try clear hx16
              try clear p17
              try clear q17
              try clear hx17
              try clear c18
              try clear c19
              try clear c19b0
              try clear c19b1
              try clear c20
              try clear c20b0
              try clear c20b1
              try clear c23
              try clear c23b0
              try clear c27
              try clear c27b0
              try clear c27b1
              try clear c28
              try clear c28b0
              try clear c28b1
              try clear c30
              try clear c32
              try clear c32b0
              try clear c33
              try clear c33b0
              try clear c34
              try clear c34b0
              try clear c35
              try clear c35b0
              try clear c36
              try clear c36b0
              try clear c37
              try clear c37b0
              try clear c39
              try clear c39b0
              try clear c40
              try clear c40b0
              try clear c41
              try clear c41b0
              try clear c42
              try clear c42b0
              try clear c43
              try clear c43b0
              try clear c44
              try clear c44b0
              try clear c44b1
              try clear p45
              try clear q45
              try clear hx45
              try clear hf45
              try clear c49
              try clear c49b0
              try clear c50
              try clear c50b0
              try clear c51
              try clear c51b0
              try clear c51b1
              try clear p52
              try clear q52
              try clear hx52
              try clear hf52
              try clear hx166_0
              try clear hx167_0
              try clear hx168_0
              try clear hx169_0
              try clear hx171_0
              try clear hx172_0
              try clear hx45_0
              try clear hx52_0
              try clear p166
              try clear p167
              try clear p168
              try clear p169
              try clear p171
              try clear p172
              try clear p2
              try clear p45
              try clear p52
              try clear q166
              try clear q167
              try clear q168
              try clear q169
              try clear q171
              try clear q172
              try clear q45
              try clear q52
              obtain ⟨x106_3, rfl, HA, HK3, HO_6, HO_104, HB⟩ := hrel
              cases gk with
              | zero => exact absurd HA.out (by simp [saltuslaw15_TowerFalls.l2])
              | succ k3 =>
               have H := HA.out
               clear HA
               simp only [saltuslaw15_TowerFalls.l2] at H
               by_cases c57 : x106_3 < (t155.length : Int)
               ·rw [if_pos c57] at H
                have c57b0 : decide (x106_3 < (t155.length : Int)) = true := decide_eq_true c57
                clear c57
                by_cases c58 : 0 ≤ x106_3
                ·rw [if_pos c58] at H
                 have c58b0 : decide (0 ≤ x106_3) = true := decide_eq_true c58
                 clear c58
                 by_cases c59 : x106_3 < (t155.length : Int)
                 ·rw [if_pos c59] at H
                  have c59b0 : decide (x106_3 < (t155.length : Int)) = true := decide_eq_true c59
                  clear c59
                  by_cases c60 : (rd t155 x106_3) < 1
                  ·rw [if_pos c60] at H
                   have c60b0 : decide ((rd t155 x106_3) < 1) = true := decide_eq_true c60
                   clear c60
                   exact absurd ((Option.some.inj H).trans hr.out) (by decide)
                  ·rw [if_neg c60] at H
                   have c60b0 : decide ((rd t155 x106_3) < 1) = false := decide_eq_false c60
                   clear c60
                   by_cases c61 : (rd t155 x106_3) > 8
                   ·rw [if_pos c61] at H
                    have c61b0 : decide (8 < (rd t155 x106_3)) = true := decide_eq_true c61
                    clear c61
                    exact absurd ((Option.some.inj H).trans hr.out) (by decide)
                   ·rw [if_neg c61] at H
                    have c61b0 : decide (8 < (rd t155 x106_3)) = false := decide_eq_false c61
                    clear c61
                    by_cases c62 : x106_3 < (x6_2.length : Int)
                    ·rw [if_pos c62] at H
                     have c62b0 : decide (x106_3 < (x6_2.length : Int)) = true := decide_eq_true c62
                     clear c62
                     by_cases c63 : (rd x6_2 x106_3) = (rd t155 x106_3)
                     ·rw [if_pos c63] at H
                      have c63b0 : ((rd x6_2 x106_3) == (rd t155 x106_3)) = true := beq_iff_eq.mpr c63
                      have c63b1 : ((rd x6_2 x106_3) != (rd t155 x106_3)) = false := bne_eq_false_iff_eq.mpr c63
                      clear c63
                      by_cases c64 : x106_3 < (lq11.length : Int)
                      ·rw [if_pos c64] at H
                       have c64b0 : decide (x106_3 < (lq11.length : Int)) = true := decide_eq_true c64
                       clear c64
                       replace H := Option.bind_eq_some_iff.mp H
                       obtain ⟨t177, A650, H⟩ := H
                       (try dsimp only at H)
                       have A65 := Aside0.mk A650
                       clear A650
                       by_cases c66 : t177 = (rd t155 x106_3)
                       ·rw [if_pos c66] at H
                        have c66b0 : (t177 == (rd t155 x106_3)) = true := beq_iff_eq.mpr c66
                        have c66b1 : (t177 != (rd t155 x106_3)) = false := bne_eq_false_iff_eq.mpr c66
                        clear c66
                        have H' := Aside0.mk H
                        clear H
                        have p174 : 0 ≤ (x106_3 : Int) := of_decide_eq_true (by first | (with_reducible assumption) | assumption)
                        have q174 : x106_3 < (t155.length : Int) := of_decide_eq_true (by first | (with_reducible assumption) | assumption)
                        obtain ⟨ad174, e174, hx174_0⟩ := Kd.at_int (Kd.R_reads' HO_104.out).2.2 x106_3 p174 q174
                        cases e174
                        replace p174 := eq_true p174
                        replace q174 := eq_true q174
                        obtain ⟨Ao67, co67, eo67⟩ := Kd.R_slice HO_6.out
                        subst eo67
                        have p175 : 0 ≤ (x106_3 : Int) := of_decide_eq_true (by first | (with_reducible assumption) | assumption)
                        have q175 : x106_3 < (x6_2.length : Int) := of_decide_eq_true (by first | (with_reducible assumption) | assumption)
                        obtain ⟨ad175, e175, hx175_0⟩ := Kd.at_int (Kd.R_reads' HO_6.out).2.2 x106_3 p175 q175
                        cases e175
                        replace p175 := eq_true p175
                        replace q175 := eq_true q175
                        have p176 : 0 ≤ (x106_3 : Int) := of_decide_eq_true (by first | (with_reducible assumption) | assumption)
                        have q176 : x106_3 < (lq11.length : Int) := of_decide_eq_true (by first | (with_reducible assumption) | assumption)
                        obtain ⟨ad176, e176, hx176_0⟩ := Kd.at_int HR154.out x106_3 p176 q176
                        cases e176
                        replace hx176_0 := (HB.out.cell (World.block_lt_of_cell? w _ hx176_0)).trans hx176_0
                        replace p176 := eq_true p176
                        replace q176 := eq_true q176
                        go_wp2_with (first | (go_at_call 17; (with_reducible refine (tower_Height.calls (a0.extract 0 ((ji3) : Int).toNat) (rd lq11 x106_3) t177 _ A65.out (Tower.tab_below HT.out (by repeat (first | (with_reducible first | exact HB.out | apply below_alloc | apply pw_below_drewN | apply below_drew1) | exact HB.out)) (Nat.le_refl _))).mono ?_); rintro e w68 ⟨rfl, hb⟩; have n0_ := Aside0.mk (Kd.R_below (by (with_reducible repeat (first | apply Kd.R_alloc | apply Kd.R_drewN | apply Kd.R_drew)); exact HO_6.out) hb); have n1_ := Aside0.mk (Kd.R_below (by (with_reducible repeat (first | apply Kd.R_alloc | apply Kd.R_drewN | apply Kd.R_drew)); exact HO_104.out) hb); have n2_ := Aside0.mk (below_step (by repeat (first | (with_reducible first | exact HB.out | apply below_alloc | apply pw_below_drewN | apply below_drew1) | exact HB.out)) hb); clear HO_6; clear HO_104; clear HB; have HO_6 := n0_; have HO_104 := n1_; have HB := n2_; clear n0_ n1_ n2_; (try clear hb); (try clear hb2); (try clear hk); (try clear hi)))
                        repeat (go_quiet (first | (go_at_call 17; (with_reducible refine (tower_Height.calls (a0.extract 0 ((ji3) : Int).toNat) (rd lq11 x106_3) t177 _ A65.out (Tower.tab_below HT.out (by repeat (first | (with_reducible first | exact HB.out | apply below_alloc | apply pw_below_drewN | apply below_drew1) | exact HB.out)) (Nat.le_refl _))).mono ?_); rintro e w68 ⟨rfl, hb⟩; have n0_ := Aside0.mk (Kd.R_below (by (with_reducible repeat (first | apply Kd.R_alloc | apply Kd.R_drewN | apply Kd.R_drew)); exact HO_6.out) hb); have n1_ := Aside0.mk (Kd.R_below (by (with_reducible repeat (first | apply Kd.R_alloc | apply Kd.R_drewN | apply Kd.R_drew)); exact HO_104.out) hb); have n2_ := Aside0.mk (below_step (by repeat (first | (with_reducible first | exact HB.out | apply below_alloc | apply pw_below_drewN | apply below_drew1) | exact HB.out)) hb); clear HO_6; clear HO_104; clear HB; have HO_6 := n0_; have HO_104 := n1_; have HB := n2_; clear n0_ n1_ n2_; (try clear hb); (try clear hb2); (try clear hk); (try clear hi))); try go_wp2_with (first | (go_at_call 17; (with_reducible refine (tower_Height.calls (a0.extract 0 ((ji3) : Int).toNat) (rd lq11 x106_3) t177 _ A65.out (Tower.tab_below HT.out (by repeat (first | (with_reducible first | exact HB.out | apply below_alloc | apply pw_below_drewN | apply below_drew1) | exact HB.out)) (Nat.le_refl _))).mono ?_); rintro e w68 ⟨rfl, hb⟩; have n0_ := Aside0.mk (Kd.R_below (by (with_reducible repeat (first | apply Kd.R_alloc | apply Kd.R_drewN | apply Kd.R_drew)); exact HO_6.out) hb); have n1_ := Aside0.mk (Kd.R_below (by (with_reducible repeat (first | apply Kd.R_alloc | apply Kd.R_drewN | apply Kd.R_drew)); exact HO_104.out) hb); have n2_ := Aside0.mk (below_step (by repeat (first | (with_reducible first | exact HB.out | apply below_alloc | apply pw_below_drewN | apply below_drew1) | exact HB.out)) hb); clear HO_6; clear HO_104; clear HB; have HO_6 := n0_; have HO_104 := n1_; have HB := n2_; clear n0_ n1_ n2_; (try clear hb); (try clear hb2); (try clear hk); (try clear hi))))
                        go_roundg k3
                        case measure => have := HJ9.out; have := HK2.out; have := HK3.out; omega
                        case rel => exact ⟨(wrap64 (x106_3 + 1)), (by first | rfl | (simp; done) | (simp [*]; done)), H', ⟨by have := HJ9.out; have := HK2.out; have := HK3.out; omega⟩, ⟨by (with_reducible repeat (first | apply Kd.R_alloc | apply Kd.R_drewN | apply Kd.R_drew)); exact HO_6.out⟩, ⟨by (with_reducible repeat (first | apply Kd.R_alloc | apply Kd.R_drewN | apply Kd.R_drew)); exact HO_104.out⟩, ⟨by repeat (first | (with_reducible first | exact HB.out | apply below_alloc | apply pw_below_drewN | apply below_drew1) | exact HB.out)⟩⟩
                       ·rw [if_neg c66] at H
                        have c66b0 : (t177 == (rd t155 x106_3)) = false := beq_eq_false_iff_ne.mpr c66
                        have c66b1 : (t177 != (rd t155 x106_3)) = true := bne_iff_ne.mpr c66
                        exact absurd ((Option.some.inj H).trans hr.out) (by decide)
                      ·rw [if_neg c64] at H
                       exact absurd H (by simp)
                     ·rw [if_neg c63] at H
                      have c63b0 : ((rd x6_2 x106_3) == (rd t155 x106_3)) = false := beq_eq_false_iff_ne.mpr c63
                      have c63b1 : ((rd x6_2 x106_3) != (rd t155 x106_3)) = true := bne_iff_ne.mpr c63
                      exact absurd ((Option.some.inj H).trans hr.out) (by decide)
                    ·rw [if_neg c62] at H
                     exact absurd H (by simp)
                 ·rw [if_neg c59] at H
                  exact absurd H (by simp)
                ·rw [if_neg c58] at H
                 exact absurd H (by simp)
               ·rw [if_neg c57] at H
                have c57b0 : decide (x106_3 < (t155.length : Int)) = false := decide_eq_false c57
                clear c57
                obtain rfl := Option.some.inj H
                go_wp2
                repeat (go_quiet (fail); try go_wp2)
                go_ret
                exact ⟨by first | rfl | (simp [errW_none, errW_some] <;> rfl) | (simp only [← hji3, ← hji6]; first | rfl | (simp [errW_none, errW_some] <;> rfl)) | (simp [*, errW_none, errW_some] <;> rfl), by repeat (first | (with_reducible first | exact HB.out | apply below_alloc | apply pw_below_drewN | apply below_drew1) | exact HB.out)⟩
         ·rw [if_neg c20] at H
          exact absurd H (by simp)
        ·rw [if_neg c19] at H
         exact absurd H (by simp)
    ·rw [if_neg c8] at H
     exact absurd H (by simp)
   ·rw [if_neg c7] at H
    exact absurd H (by simp)
  ·rw [if_neg c5] at H
   exact absurd H (by simp)
 ·rw [if_neg c4] at H
  exact absurd H (by simp)
end Go.Proofs.YtolbhliepkcihaaDoor.QTW
end
section
namespace Go.Proofs.YtolbhliepkcihaaDoor.QTW
open Go.RowKit Go.Proofs.YtolbhliepkcihaaDoor.Kinds Go.Proofs.YtolbhliepkcihaaDoorW.PrintWords Go.Proofs.YtolbhliepkcihaaDoorW.PrintLast Go.Proofs.YtolbhliepkcihaaDoorW.PrintMore
attribute [local go_sem] max2_int min2_int max_two min_two max_three min_three max_four min_four   -- for this text's walks alone
set_option linter.unusedVariables false
set_option linter.unusedSimpArgs false
/-! ### saltuslaw15_TowerAbove: function 4 -/
def saltuslaw15_TowerAbove.j0 : Nat → ByteArray → List Int → Int → List Int → Int → Bool → Option (Bool)
 | 0, _, _, _, _, _, _ => none
 | k + 1, x0, x1, x2, x7, x8, x31 => if x31 = true then ((saltuslaw15_alive.f k).bind fun t148 => (if t148 = true then (if x8 = 2 then (some ((x7.length : Int) == 0)) else (some false)) else (some false))) else ((saltuslaw15_alive.f k).bind fun t149 => (if t149 = true then (if x8 = 0 then ((saltusref15_Above.f k x0 x1 x2).bind fun t150 => ((saltusref15_Same.f k x7 t150).bind fun t153 => (some t153))) else (some false)) else (some false)))
def saltuslaw15_TowerAbove.f (k : Nat) (a0 : ByteArray) (l1 : List Int) (a2 : Int) : Option (Bool) := if 0 ≤ (mn (a0.size : Int) 80) then (if (mn (a0.size : Int) 80) ≤ (a0.size : Int) then (if 0 ≤ (mn (l1.length : Int) 12) then (if (mn (l1.length : Int) 12) ≤ (l1.length : Int) then ((tower_Above.f (a0.extract 0 ((mn (a0.size : Int) 80) : Int).toNat) (l1.take ((mn (l1.length : Int) 12) : Int).toNat) a2).bind fun bt144 => (if a2 < 0 then (saltuslaw15_TowerAbove.j0 k (a0.extract 0 ((mn (a0.size : Int) 80) : Int).toNat) (l1.take ((mn (l1.length : Int) 12) : Int).toNat) a2 bt144.1 bt144.2 true) else (saltuslaw15_TowerAbove.j0 k (a0.extract 0 ((mn (a0.size : Int) 80) : Int).toNat) (l1.take ((mn (l1.length : Int) 12) : Int).toNat) a2 bt144.1 bt144.2 (decide (a2 > 8))))) else (none)) else (none)) else (none)) else (none)
theorem saltuslaw15_TowerAbove.mono_l : ∀ k, (∀ y0 y1 y2 y3 y4 y5, LeO (saltuslaw15_TowerAbove.j0 k y0 y1 y2 y3 y4 y5) (saltuslaw15_TowerAbove.j0 (k + 1) y0 y1 y2 y3 y4 y5))
 | 0 => fun _ _ _ _ _ _ r h => by simp [saltuslaw15_TowerAbove.j0] at h
 | k + 1 => by
  have ih0 := saltuslaw15_TowerAbove.mono_l k
  ·intro y0 y1 y2 y3 y4 y5
   unfold saltuslaw15_TowerAbove.j0
   repeat' first
   | (with_reducible exact ih0 _ _ _ _ _ _)
   | (with_reducible exact saltuslaw15_alive.mono _)
   | (with_reducible exact saltusref15_Above.mono _ _ _ _)
   | (with_reducible exact saltusref15_Same.mono _ _ _)
   | (with_reducible exact LeO.refl _)
   | (with_reducible exact LeO.none _)
   | (with_reducible refine LeO.ite ?_ ?_)
   | (with_reducible refine LeO.bind ?_ (fun _ => ?_))
   | exact ih0 _ _ _ _ _ _
   | exact saltuslaw15_alive.mono _
   | exact saltusref15_Above.mono _ _ _ _
   | exact saltusref15_Same.mono _ _ _
   | exact LeO.none _
   | refine LeO.ite ?_ ?_
   | refine LeO.bind ?_ (fun _ => ?_)
theorem saltuslaw15_TowerAbove.mono : ∀ a0 a1 a2 k, LeO (saltuslaw15_TowerAbove.f k a0 a1 a2) (saltuslaw15_TowerAbove.f (k + 1) a0 a1 a2) := by
 intro a0 a1 a2 k
 have ih0 := saltuslaw15_TowerAbove.mono_l k
 unfold saltuslaw15_TowerAbove.f
 repeat' first
   | (with_reducible exact ih0 _ _ _ _ _ _)
   | (with_reducible exact saltuslaw15_alive.mono _)
   | (with_reducible exact saltusref15_Above.mono _ _ _ _)
   | (with_reducible exact saltusref15_Same.mono _ _ _)
   | (with_reducible exact LeO.refl _)
   | (with_reducible exact LeO.none _)
   | (with_reducible refine LeO.ite ?_ ?_)
   | (with_reducible refine LeO.bind ?_ (fun _ => ?_))
   | exact ih0 _ _ _ _ _ _
   | exact saltuslaw15_alive.mono _
   | exact saltusref15_Above.mono _ _ _ _
   | exact saltusref15_Same.mono _ _ _
   | exact LeO.none _
   | refine LeO.ite ?_ ?_
   | refine LeO.bind ?_ (fun _ => ?_)
set_option maxHeartbeats 8000000 in
set_option maxRecDepth 100000 in
theorem saltuslaw15_TowerAbove.calls (k : Nat) (a0 : ByteArray) (A1 : Option Addr) (c1 : Nat) (l1 : List Int) (a2 : Int) (r : Bool) (w : World) (hr1 : Kd.C (Kd.int .u64) w A1 l1.length l1) (hc1 : l1.length ≤ c1) (hr : Aside0 (r = true)) (h : saltuslaw15_TowerAbove.f k a0 l1 a2 = some r) (hT0 : Tower.TabW w) :
  Calls Tryd.prog 4 #[.string a0, .slice A1 l1.length c1, .int .i64 a2] w fun e w' => e = .returned (.bool r) ∧ Below w.heap.size w w' := by
 have HT := Aside0.mk hT0
 clear hT0
 have HR1 := Aside0.mk hr1
 have HC1 := Aside0.mk hc1
 clear hr1 hc1
 have HB := Aside0.mk (Below.refl w.heap.size w)
 have H : (if 0 ≤ (mn (a0.size : Int) 80) then (if (mn (a0.size : Int) 80) ≤ (a0.size : Int) then (if 0 ≤ (mn (l1.length : Int) 12) then (if (mn (l1.length : Int) 12) ≤ (l1.length : Int) then ((tower_Above.f (a0.extract 0 ((mn (a0.size : Int) 80) : Int).toNat) (l1.take ((mn (l1.length : Int) 12) : Int).toNat) a2).bind fun bt144 => (if a2 < 0 then (saltuslaw15_TowerAbove.j0 k (a0.extract 0 ((mn (a0.size : Int) 80) : Int).toNat) (l1.take ((mn (l1.length : Int) 12) : Int).toNat) a2 bt144.1 bt144.2 true) else (saltuslaw15_TowerAbove.j0 k (a0.extract 0 ((mn (a0.size : Int) 80) : Int).toNat) (l1.take ((mn (l1.length : Int) 12) : Int).toNat) a2 bt144.1 bt144.2 (decide (a2 > 8))))) else (none)) else (none)) else (none)) else (none)) = some r := h
 clear h
 obtain ⟨ji4, hji4⟩ : ∃ j_ : Int, (mn (a0.size : Int) 80) = j_ := ⟨_, rfl⟩
 replace H : (if 0 ≤ (ji4) then (if (ji4) ≤ (a0.size : Int) then (if 0 ≤ (mn (l1.length : Int) 12) then (if (mn (l1.length : Int) 12) ≤ (l1.length : Int) then ((tower_Above.f (a0.extract 0 ((ji4) : Int).toNat) (l1.take ((mn (l1.length : Int) 12) : Int).toNat) a2).bind fun bt144 => (if a2 < 0 then (saltuslaw15_TowerAbove.j0 k (a0.extract 0 ((ji4) : Int).toNat) (l1.take ((mn (l1.length : Int) 12) : Int).toNat) a2 bt144.1 bt144.2 true) else (saltuslaw15_TowerAbove.j0 k (a0.extract 0 ((ji4) : Int).toNat) (l1.take ((mn (l1.length : Int) 12) : Int).toNat) a2 bt144.1 bt144.2 (decide (a2 > 8))))) else (none)) else (none)) else (none)) else (none)) = some r := by first | (rw [hji4] at H; exact H) | (simp only [hji4] at H ⊢; exact H)
 (try (have hji4h : ji4 ≤ 80 := by (rw [← hji4]; unfold mn; (repeat' split) <;> omega)))
 (try (have hji4g : ji4 ≤ 64 := by omega))
 (try (have hji4l : 0 ≤ ji4 := by (rw [← hji4]; unfold mn; (repeat' split) <;> omega)))
 (try (have hji4m : 0 ≤ ji4 := by omega))
 have hji4_ : (if 80 < (a0.size : Int) then 80 else (a0.size : Int)) = ji4 := hji4
 by_cases c5 : 0 ≤ (ji4)
 ·rw [if_pos c5] at H
  have c5b0 := eq_true c5
  have c5b1 : decide (0 ≤ (ji4)) = true := decide_eq_true c5
  clear c5
  by_cases c6 : (ji4) ≤ (a0.size : Int)
  ·rw [if_pos c6] at H
   have c6b0 := eq_true c6
   have c6b1 : decide ((ji4) ≤ (a0.size : Int)) = true := decide_eq_true c6
   clear c6
   obtain ⟨ji7, hji7⟩ : ∃ j_ : Int, (mn (l1.length : Int) 12) = j_ := ⟨_, rfl⟩
   replace H : (if 0 ≤ (ji7) then (if (ji7) ≤ (l1.length : Int) then ((tower_Above.f (a0.extract 0 ((ji4) : Int).toNat) (l1.take ((ji7) : Int).toNat) a2).bind fun bt144 => (if a2 < 0 then (saltuslaw15_TowerAbove.j0 k (a0.extract 0 ((ji4) : Int).toNat) (l1.take ((ji7) : Int).toNat) a2 bt144.1 bt144.2 true) else (saltuslaw15_TowerAbove.j0 k (a0.extract 0 ((ji4) : Int).toNat) (l1.take ((ji7) : Int).toNat) a2 bt144.1 bt144.2 (decide (a2 > 8))))) else (none)) else (none)) = some r := by first | (rw [hji7] at H; exact H) | (simp only [hji7] at H ⊢; exact H)
   (try (have hji7h : ji7 ≤ 12 := by (rw [← hji7]; unfold mn; (repeat' split) <;> omega)))
   (try (have hji7g : ji7 ≤ 64 := by omega))
   (try (have hji7l : 0 ≤ ji7 := by (rw [← hji7]; unfold mn; (repeat' split) <;> omega)))
   (try (have hji7m : 0 ≤ ji7 := by omega))
   have hji7_ : (if 12 < (l1.length : Int) then 12 else (l1.length : Int)) = ji7 := hji7
   by_cases c8 : 0 ≤ (ji7)
   ·rw [if_pos c8] at H
    have c8b0 := eq_true c8
    have c8b1 : decide (0 ≤ (ji7)) = true := decide_eq_true c8
    clear c8
    by_cases c9 : (ji7) ≤ (l1.length : Int)
    ·rw [if_pos c9] at H
     have c9b0 := eq_true c9
     have c9b1 : decide ((ji7) ≤ (l1.length : Int)) = true := decide_eq_true c9
     clear c9
     replace H := Option.bind_eq_some_iff.mp H
     obtain ⟨⟨t144, t145⟩, A100, H⟩ := H
     (try dsimp only at H)
     have A10 := Aside0.mk A100
     clear A100
     have HC11 := Aside0.mk H
     clear H
     obtain ⟨i012, hi012, _, hsz12, _⟩ := info_parts info22
     obtain ⟨hcut12, hA12, hC12⟩ := print_take_of (P := Tryd.prog) (Value.int .u64) 0 23 22 .i64 Tryd.underlying23 hi012 hsz12 A1 c1 l1 (ji7) (of_decide_eq_true (by first | (with_reducible assumption) | assumption)) (of_decide_eq_true (by first | (with_reducible assumption) | assumption)) HC1.out
     have HR143 := Aside0.mk (Kd.C_of_reads (h1 := fun _ => rfl) (hA12 _ (Kd.reads_of_C HR1.out)))
     have HC143 := Aside0.mk hC12
     clear hA12 hC12 hi012 hsz12
     obtain ⟨lq12, hlq12⟩ : ∃ l_, l1.take ((ji7) : Int).toNat = l_ := ⟨_, rfl⟩
     simp only [hlq12] at *
     clear hlq12
     go_enter Tryd.func4, Tryd.ntmps4
     go_upto_region 3 with (first | (go_at_call 22; (with_reducible refine (tower_Above.calls (a0.extract 0 ((ji4) : Int).toNat) _ _ lq12 a2 t144 t145 _ ?side1 ?side2 A10.out (Tower.tab_below HT.out (by repeat (first | (with_reducible first | exact HB.out | apply below_alloc | apply pw_below_drewN | apply below_drew1) | exact HB.out)) (Nat.le_refl _))).mono ?_); (case side1 => repeat (first | exact HR143.out | (with_reducible refine Kd.C_alloc ?_ _) | (with_reducible refine Kd.C_drewN ?_ _) | (with_reducible refine Kd.C_drew ?_))); (case side2 => exact HC143.out); rintro e w13 ⟨v146, rfl, ho0, hb⟩; have n0_ := Aside0.mk (Kd.R_lower ho0 (below_size (by repeat (first | (with_reducible first | exact HB.out | apply below_alloc | apply pw_below_drewN | apply below_drew1) | exact HB.out)))); have n1_ := Aside0.mk (below_step (by repeat (first | (with_reducible first | exact HB.out | apply below_alloc | apply pw_below_drewN | apply below_drew1) | exact HB.out)) hb); clear HB; have HO147 := n0_; have HB := n1_; clear n0_ n1_; (try clear hb); (try clear hb2); (try clear hk); (try clear hi); (try clear ho0)))
     repeat (go_quiet (first | (go_at_call 22; (with_reducible refine (tower_Above.calls (a0.extract 0 ((ji4) : Int).toNat) _ _ lq12 a2 t144 t145 _ ?side1 ?side2 A10.out (Tower.tab_below HT.out (by repeat (first | (with_reducible first | exact HB.out | apply below_alloc | apply pw_below_drewN | apply below_drew1) | exact HB.out)) (Nat.le_refl _))).mono ?_); (case side1 => repeat (first | exact HR143.out | (with_reducible refine Kd.C_alloc ?_ _) | (with_reducible refine Kd.C_drewN ?_ _) | (with_reducible refine Kd.C_drew ?_))); (case side2 => exact HC143.out); rintro e w13 ⟨v146, rfl, ho0, hb⟩; have n0_ := Aside0.mk (Kd.R_lower ho0 (below_size (by repeat (first | (with_reducible first | exact HB.out | apply below_alloc | apply pw_below_drewN | apply below_drew1) | exact HB.out)))); have n1_ := Aside0.mk (below_step (by repeat (first | (with_reducible first | exact HB.out | apply below_alloc | apply pw_below_drewN | apply below_drew1) | exact HB.out)) hb); clear HB; have HO147 := n0_; have HB := n1_; clear n0_ n1_; (try clear hb); (try clear hb2); (try clear hk); (try clear hi); (try clear ho0))); go_upto_region 3 with (first | (go_at_call 22; (with_reducible refine (tower_Above.calls (a0.extract 0 ((ji4) : Int).toNat) _ _ lq12 a2 t144 t145 _ ?side1 ?side2 A10.out (Tower.tab_below HT.out (by repeat (first | (with_reducible first | exact HB.out | apply below_alloc | apply pw_below_drewN | apply below_drew1) | exact HB.out)) (Nat.le_refl _))).mono ?_); (case side1 => repeat (first | exact HR143.out | (with_reducible refine Kd.C_alloc ?_ _) | (with_reducible refine Kd.C_drewN ?_ _) | (with_reducible refine Kd.C_drew ?_))); (case side2 => exact HC143.out); rintro e w13 ⟨v146, rfl, ho0, hb⟩; have n0_ := Aside0.mk (Kd.R_lower ho0 (below_size (by repeat (first | (with_reducible first | exact HB.out | apply below_alloc | apply pw_below_drewN | apply below_drew1) | exact HB.out)))); have n1_ := Aside0.mk (below_step (by repeat (first | (with_reducible first | exact HB.out | apply below_alloc | apply pw_below_drewN | apply below_drew1) | exact HB.out)) hb); clear HB; have HO147 := n0_; have HB := n1_; clear n0_ n1_; (try clear hb); (try clear hb2); (try clear hk); (try clear hi); (try clear ho0))))
     (try simp only [Act.put, List.setIfInBounds_toArray, List.set_cons_zero, List.set_cons_succ])
     go_cut [31] (fun v31 wc => ∃ (kq : Nat) (x31_10 : Bool), v31 = .bool x31_10 ∧ Aside0 (saltuslaw15_TowerAbove.j0 kq (a0.extract 0 ((ji4) : Int).toNat) lq12 a2 t144 t145 x31_10 = some r) ∧ Aside0 (kq ≤ k) ∧ Aside0 (Kd.R (Kd.int .i64) 3 wc w.heap.size (fun _ => True) v146 t144) ∧ Aside0 (Below w.heap.size w wc))
     case first =>
      have H := HC11.out
      clear HC11
      by_cases c14 : a2 < 0
      ·rw [if_pos c14] at H
       have c14b0 : decide (a2 < 0) = true := decide_eq_true c14
       clear c14
       (first | rw [c14b0] | (simp only [i64_w, i32_w]; rw [c14b0]) | skip)
       have H' := Aside0.mk H
       clear H
       go_wp2
       repeat (go_quiet (fail); try go_wp2)
       go_meet
       case rel => exact ⟨_, (true), (by first | rfl | (simp; done) | (simp [*]; done)), H', ⟨by first | omega | exact Nat.le_refl _⟩, ⟨by (with_reducible repeat (first | apply Kd.R_alloc | apply Kd.R_drewN | apply Kd.R_drew)); exact HO147.out⟩, ⟨by repeat (first | (with_reducible first | exact HB.out | apply below_alloc | apply pw_below_drewN | apply below_drew1) | exact HB.out)⟩⟩
      ·rw [if_neg c14] at H
       have c14b0 : decide (a2 < 0) = false := decide_eq_false c14
       clear c14
       (first | rw [c14b0] | (simp only [i64_w, i32_w]; rw [c14b0]) | skip)
       have H' := Aside0.mk H
       clear H
       go_wp2
       repeat (go_quiet (fail); try go_wp2)
       go_meet
       case rel => exact ⟨_, (decide (a2 > 8)), (by first | rfl | (simp; done) | (simp [*]; done)), H', ⟨by first | omega | exact Nat.le_refl _⟩, ⟨by (with_reducible repeat (first | apply Kd.R_alloc | apply Kd.R_drewN | apply Kd.R_drew)); exact HO147.out⟩, ⟨by repeat (first | (with_reducible first | exact HB.out | apply below_alloc | apply pw_below_drewN | apply below_drew1) | exact HB.out)⟩⟩
     case rest =>
      clear HC11
      try clear c1
      try clear p2
      try clear c4
      try clear c5
      try clear c5b0
      try clear c5b1
      try clear c6
      try clear c6b0
      try clear c6b1
      try clear c8
      try clear c8b0
      try clear c8b1
      try clear c9
      try clear c9b0
      try clear c9b1
      try clear c14
      try clear c14b0
      obtain ⟨kq, x31_10, rfl, HA, HJ10, HO_7, HB⟩ := hcut
      cases kq with
      | zero => exact absurd HA.out (by simp [saltuslaw15_TowerAbove.j0])
      | succ kj10 =>
       have H := HA.out
       clear HA
       simp only [saltuslaw15_TowerAbove.j0] at H
       by_cases c15 : x31_10 = true
       ·subst c15
        have H1 : ((saltuslaw15_alive.f kj10).bind fun t148 => (if t148 = true then (if t145 = 2 then (some ((t144.length : Int) == 0)) else (some false)) else (some false))) = some r := by rw [if_pos rfl] at H; exact H
        clear H
        have H := H1
        clear H1
        replace H := Option.bind_eq_some_iff.mp H
        obtain ⟨t148, A160, H⟩ := H
        (try dsimp only at H)
        have A16 := Aside0.mk A160
        clear A160
        by_cases c17 : t148 = true
        ·subst c17
         have H1 : (if t145 = 2 then (some ((t144.length : Int) == 0)) else (some false)) = some r := by rw [if_pos rfl] at H; exact H
         clear H
         have H := H1
         clear H1
         by_cases c18 : t145 = 2
         ·rw [if_pos c18] at H
          have c18b0 : (t145 == 2) = true := beq_iff_eq.mpr c18
          have c18b1 : (t145 != 2) = false := bne_eq_false_iff_eq.mpr c18
          clear c18
          obtain rfl := Option.some.inj H
          go_wp2_with (first | (go_at_call 16; (with_reducible refine (saltuslaw15_alive.calls kj10  true _ A16.out (Tower.tab_below HT.out (by repeat (first | (with_reducible first | exact HB.out | apply below_alloc | apply pw_below_drewN | apply below_drew1) | exact HB.out)) (Nat.le_refl _))).mono ?_); rintro e w19 ⟨rfl, hb⟩; have n0_ := Aside0.mk (Kd.R_below (by (with_reducible repeat (first | apply Kd.R_alloc | apply Kd.R_drewN | apply Kd.R_drew)); exact HO_7.out) hb); have n1_ := Aside0.mk (below_step (by repeat (first | (with_reducible first | exact HB.out | apply below_alloc | apply pw_below_drewN | apply below_drew1) | exact HB.out)) hb); clear HO_7; clear HB; have HO_7 := n0_; have HB := n1_; clear n0_ n1_; (try clear hb); (try clear hb2); (try clear hk); (try clear hi); obtain ⟨Ao20, co20, eo20⟩ := Kd.R_slice HO_7.out; subst eo20))
          repeat (go_quiet (first | (go_at_call 16; (with_reducible refine (saltuslaw15_alive.calls kj10  true _ A16.out (Tower.tab_below HT.out (by repeat (first | (with_reducible first | exact HB.out | apply below_alloc | apply pw_below_drewN | apply below_drew1) | exact HB.out)) (Nat.le_refl _))).mono ?_); rintro e w19 ⟨rfl, hb⟩; have n0_ := Aside0.mk (Kd.R_below (by (with_reducible repeat (first | apply Kd.R_alloc | apply Kd.R_drewN | apply Kd.R_drew)); exact HO_7.out) hb); have n1_ := Aside0.mk (below_step (by repeat (first | (with_reducible first | exact HB.out | apply below_alloc | apply pw_below_drewN | apply below_drew1) | exact HB.out)) hb); clear HO_7; clear HB; have HO_7 := n0_; have HB := n1_; clear n0_ n1_; (try clear hb); (try clear hb2); (try clear hk); (try clear hi); obtain ⟨Ao20, co20, eo20⟩ := Kd.R_slice HO_7.out; subst eo20)); try go_wp2_with (first | (go_at_call 16; (with_reducible refine (saltuslaw15_alive.calls kj10  true _ A16.out (Tower.tab_below HT.out (by repeat (first | (with_reducible first | exact HB.out | apply below_alloc | apply pw_below_drewN | apply below_drew1) | exact HB.out)) (Nat.le_refl _))).mono ?_); rintro e w19 ⟨rfl, hb⟩; have n0_ := Aside0.mk (Kd.R_below (by (with_reducible repeat (first | apply Kd.R_alloc | apply Kd.R_drewN | apply Kd.R_drew)); exact HO_7.out) hb); have n1_ := Aside0.mk (below_step (by repeat (first | (with_reducible first | exact HB.out | apply below_alloc | apply pw_below_drewN | apply below_drew1) | exact HB.out)) hb); clear HO_7; clear HB; have HO_7 := n0_; have HB := n1_; clear n0_ n1_; (try clear hb); (try clear hb2); (try clear hk); (try clear hi); obtain ⟨Ao20, co20, eo20⟩ := Kd.R_slice HO_7.out; subst eo20)))
          go_ret
          exact ⟨by first | rfl | (simp [errW_none, errW_some] <;> rfl) | (simp only [← hji4, ← hji7]; first | rfl | (simp [errW_none, errW_some] <;> rfl)) | (simp [*, errW_none, errW_some] <;> rfl), by repeat (first | (with_reducible first | exact HB.out | apply below_alloc | apply pw_below_drewN | apply below_drew1) | exact HB.out)⟩
         ·rw [if_neg c18] at H
          have c18b0 : (t145 == 2) = false := beq_eq_false_iff_ne.mpr c18
          have c18b1 : (t145 != 2) = true := bne_iff_ne.mpr c18
          exact absurd ((Option.some.inj H).trans hr.out) (by decide)
        ·replace c17 := Bool.eq_false_iff.mpr c17
         subst c17
         have H1 : (some false) = some r := by rw [if_neg (show ¬ (false = true) by decide)] at H; exact H
         clear H
         have H := H1
         clear H1
         exact absurd ((Option.some.inj H).trans hr.out) (by decide)
       ·replace c15 := Bool.eq_false_iff.mpr c15
        subst c15
        have H1 : ((saltuslaw15_alive.f kj10).bind fun t149 => (if t149 = true then (if t145 = 0 then ((saltusref15_Above.f kj10 (a0.extract 0 ((ji4) : Int).toNat) lq12 a2).bind fun t150 => ((saltusref15_Same.f kj10 t144 t150).bind fun t153 => (some t153))) else (some false)) else (some false))) = some r := by rw [if_neg (show ¬ (false = true) by decide)] at H; exact H
        clear H
        have H := H1
        clear H1
        replace H := Option.bind_eq_some_iff.mp H
        obtain ⟨t149, A210, H⟩ := H
        (try dsimp only at H)
        have A21 := Aside0.mk A210
        clear A210
        by_cases c22 : t149 = true
        ·subst c22
         have H1 : (if t145 = 0 then ((saltusref15_Above.f kj10 (a0.extract 0 ((ji4) : Int).toNat) lq12 a2).bind fun t150 => ((saltusref15_Same.f kj10 t144 t150).bind fun t153 => (some t153))) else (some false)) = some r := by rw [if_pos rfl] at H; exact H
         clear H
         have H := H1
         clear H1
         by_cases c23 : t145 = 0
         ·rw [if_pos c23] at H
          have c23b0 : (t145 == 0) = true := beq_iff_eq.mpr c23
          have c23b1 : (t145 != 0) = false := bne_eq_false_iff_eq.mpr c23
          clear c23
          replace H := Option.bind_eq_some_iff.mp H
          obtain ⟨t150, A240, H⟩ := H
          (try dsimp only at H)
          have A24 := Aside0.mk A240
          clear A240
          replace H := Option.bind_eq_some_iff.mp H
          obtain ⟨t153, A250, H⟩ := H
          (try dsimp only at H)
          have A25 := Aside0.mk A250
          clear A250
          obtain rfl := Option.some.inj H
          go_wp2_with (first | (go_at_call 16; (with_reducible refine (saltuslaw15_alive.calls kj10  true _ A21.out (Tower.tab_below HT.out (by repeat (first | (with_reducible first | exact HB.out | apply below_alloc | apply pw_below_drewN | apply below_drew1) | exact HB.out)) (Nat.le_refl _))).mono ?_); rintro e w26 ⟨rfl, hb⟩; have n0_ := Aside0.mk (Kd.R_below (by (with_reducible repeat (first | apply Kd.R_alloc | apply Kd.R_drewN | apply Kd.R_drew)); exact HO_7.out) hb); have n1_ := Aside0.mk (below_step (by repeat (first | (with_reducible first | exact HB.out | apply below_alloc | apply pw_below_drewN | apply below_drew1) | exact HB.out)) hb); clear HO_7; clear HB; have HO_7 := n0_; have HB := n1_; clear n0_ n1_; (try clear hb); (try clear hb2); (try clear hk); (try clear hi)) | (go_at_call 23; (with_reducible refine (saltusref15_Above.calls kj10 (a0.extract 0 ((ji4) : Int).toNat) _ _ lq12 a2 t150 _ ?side1 ?side2 A24.out).mono ?_); (case side1 => repeat (first | exact (Kd.C_below HR143.out HB.out) | (with_reducible refine Kd.C_alloc ?_ _) | (with_reducible refine Kd.C_drewN ?_ _) | (with_reducible refine Kd.C_drew ?_))); (case side2 => exact HC143.out); rintro e w27 ⟨v151, rfl, ho0, hb⟩; have n0_ := Aside0.mk (Kd.R_elder' (by (with_reducible repeat (first | apply Kd.R_alloc | apply Kd.R_drewN | apply Kd.R_drew)); exact HO_7.out) (Kd.R_base ho0) hb); have n1_ := Aside0.mk (Kd.R_lower (Kd.R_new' ho0 (Kd.R_lt (by (with_reducible repeat (first | apply Kd.R_alloc | apply Kd.R_drewN | apply Kd.R_drew)); exact HO_7.out))) (below_size (by repeat (first | (with_reducible first | exact HB.out | apply below_alloc | apply pw_below_drewN | apply below_drew1) | exact HB.out)))); have n2_ := Aside0.mk (below_step (by repeat (first | (with_reducible first | exact HB.out | apply below_alloc | apply pw_below_drewN | apply below_drew1) | exact HB.out)) hb); clear HO_7; clear HB; have HO_7 := n0_; have HO152 := n1_; have HB := n2_; clear n0_ n1_ n2_; (try clear hb); (try clear hb2); (try clear hk); (try clear hi); (try clear ho0); obtain ⟨Ao28, co28, eo28⟩ := Kd.R_slice HO_7.out; subst eo28; obtain ⟨Ao29, co29, eo29⟩ := Kd.R_slice HO152.out; subst eo29) | (go_at_call 19; (with_reducible refine (saltusref15_Same.calls kj10 _ _ t144 _ _ t150 t153 _ ?side1 ?side2 ?side3 ?side4 A25.out).mono ?_); (case side1 => repeat (first | exact (Kd.R_reads' HO_7.out).2.2 | (with_reducible refine Kd.C_alloc ?_ _) | (with_reducible refine Kd.C_drewN ?_ _) | (with_reducible refine Kd.C_drew ?_))); (case side2 => exact (Kd.R_reads' HO_7.out).2.1); (case side3 => repeat (first | exact (Kd.R_reads' HO152.out).2.2 | (with_reducible refine Kd.C_alloc ?_ _) | (with_reducible refine Kd.C_drewN ?_ _) | (with_reducible refine Kd.C_drew ?_))); (case side4 => exact (Kd.R_reads' HO152.out).2.1); rintro e w' ⟨rfl, ⟨nd, rfl⟩⟩; (try first | exact ⟨rfl, _, World.drewN_drewN _ _ _⟩ | exact ⟨rfl, _, Eq.trans (World.drewN_drewN _ _ _) (congrArg (World.drewN _) (Nat.add_assoc _ _ _))⟩)))
          repeat (go_quiet (first | (go_at_call 16; (with_reducible refine (saltuslaw15_alive.calls kj10  true _ A21.out (Tower.tab_below HT.out (by repeat (first | (with_reducible first | exact HB.out | apply below_alloc | apply pw_below_drewN | apply below_drew1) | exact HB.out)) (Nat.le_refl _))).mono ?_); rintro e w26 ⟨rfl, hb⟩; have n0_ := Aside0.mk (Kd.R_below (by (with_reducible repeat (first | apply Kd.R_alloc | apply Kd.R_drewN | apply Kd.R_drew)); exact HO_7.out) hb); have n1_ := Aside0.mk (below_step (by repeat (first | (with_reducible first | exact HB.out | apply below_alloc | apply pw_below_drewN | apply below_drew1) | exact HB.out)) hb); clear HO_7; clear HB; have HO_7 := n0_; have HB := n1_; clear n0_ n1_; (try clear hb); (try clear hb2); (try clear hk); (try clear hi)) | (go_at_call 23; (with_reducible refine (saltusref15_Above.calls kj10 (a0.extract 0 ((ji4) : Int).toNat) _ _ lq12 a2 t150 _ ?side1 ?side2 A24.out).mono ?_); (case side1 => repeat (first | exact (Kd.C_below HR143.out HB.out) | (with_reducible refine Kd.C_alloc ?_ _) | (with_reducible refine Kd.C_drewN ?_ _) | (with_reducible refine Kd.C_drew ?_))); (case side2 => exact HC143.out); rintro e w27 ⟨v151, rfl, ho0, hb⟩; have n0_ := Aside0.mk (Kd.R_elder' (by (with_reducible repeat (first | apply Kd.R_alloc | apply Kd.R_drewN | apply Kd.R_drew)); exact HO_7.out) (Kd.R_base ho0) hb); have n1_ := Aside0.mk (Kd.R_lower (Kd.R_new' ho0 (Kd.R_lt (by (with_reducible repeat (first | apply Kd.R_alloc | apply Kd.R_drewN | apply Kd.R_drew)); exact HO_7.out))) (below_size (by repeat (first | (with_reducible first | exact HB.out | apply below_alloc | apply pw_below_drewN | apply below_drew1) | exact HB.out)))); have n2_ := Aside0.mk (below_step (by repeat (first | (with_reducible first | exact HB.out | apply below_alloc | apply pw_below_drewN | apply below_drew1) | exact HB.out)) hb); clear HO_7; clear HB; have HO_7 := n0_; have HO152 := n1_; have HB := n2_; clear n0_ n1_ n2_; (try clear hb); (try clear hb2); (try clear hk); (try clear hi); (try clear ho0); obtain ⟨Ao28, co28, eo28⟩ := Kd.R_slice HO_7.out; subst eo28; obtain ⟨Ao29, co29, eo29⟩ := Kd.R_slice HO152.out; subst eo29) | (go_at_call 19; (with_reducible refine (saltusref15_Same.calls kj10 _ _ t144 _ _ t150 t153 _ ?side1 ?side2 ?side3 ?side4 A25.out).mono ?_); (case side1 => repeat (first | exact (Kd.R_reads' HO_7.out).2.2 | (with_reducible refine Kd.C_alloc ?_ _) | (with_reducible refine Kd.C_drewN ?_ _) | (with_reducible refine Kd.C_drew ?_))); (case side2 => exact (Kd.R_reads' HO_7.out).2.1); (case side3 => repeat (first | exact (Kd.R_reads' HO152.out).2.2 | (with_reducible refine Kd.C_alloc ?_ _) | (with_reducible refine Kd.C_drewN ?_ _) | (with_reducible refine Kd.C_drew ?_))); (case side4 => exact (Kd.R_reads' HO152.out).2.1); rintro e w' ⟨rfl, ⟨nd, rfl⟩⟩; (try first | exact ⟨rfl, _, World.drewN_drewN _ _ _⟩ | exact ⟨rfl, _, Eq.trans (World.drewN_drewN _ _ _) (congrArg (World.drewN _) (Nat.add_assoc _ _ _))⟩))); try go_wp2_with (first | (go_at_call 16; (with_reducible refine (saltuslaw15_alive.calls kj10  true _ A21.out (Tower.tab_below HT.out (by repeat (first | (with_reducible first | exact HB.out | apply below_alloc | apply pw_below_drewN | apply below_drew1) | exact HB.out)) (Nat.le_refl _))).mono ?_); rintro e w26 ⟨rfl, hb⟩; have n0_ := Aside0.mk (Kd.R_below (by (with_reducible repeat (first | apply Kd.R_alloc | apply Kd.R_drewN | apply Kd.R_drew)); exact HO_7.out) hb); have n1_ := Aside0.mk (below_step (by repeat (first | (with_reducible first | exact HB.out | apply below_alloc | apply pw_below_drewN | apply below_drew1) | exact HB.out)) hb); clear HO_7; clear HB; have HO_7 := n0_; have HB := n1_; clear n0_ n1_; (try clear hb); (try clear hb2); (try clear hk); (try clear hi)) | (go_at_call 23; (with_reducible refine (saltusref15_Above.calls kj10 (a0.extract 0 ((ji4) : Int).toNat) _ _ lq12 a2 t150 _ ?side1 ?side2 A24.out).mono ?_); (case side1 => repeat (first | exact (Kd.C_below HR143.out HB.out) | (with_reducible refine Kd.C_alloc ?_ _) | (with_reducible refine Kd.C_drewN ?_ _) | (with_reducible refine Kd.C_drew ?_))); (case side2 => exact HC143.out); rintro e w27 ⟨v151, rfl, ho0, hb⟩; have n0_ := Aside0.mk (Kd.R_elder' (by (with_reducible repeat (first | apply Kd.R_alloc | apply Kd.R_drewN | apply Kd.R_drew)); exact HO_7.out) (Kd.R_base ho0) hb); have n1_ := Aside0.mk (Kd.R_lower (Kd.R_new' ho0 (Kd.R_lt (by (with_reducible repeat (first | apply Kd.R_alloc | apply Kd.R_drewN | apply Kd.R_drew)); exact HO_7.out))) (below_size (by repeat (first | (with_reducible first | exact HB.out | apply below_alloc | apply pw_below_drewN | apply below_drew1) | exact HB.out)))); have n2_ := Aside0.mk (below_step (by repeat (first | (with_reducible first | exact HB.out | apply below_alloc | apply pw_below_drewN | apply below_drew1) | exact HB.out)) hb); clear HO_7; clear HB; have HO_7 := n0_; have HO152 := n1_; have HB := n2_; clear n0_ n1_ n2_; (try clear hb); (try clear hb2); (try clear hk); (try clear hi); (try clear ho0); obtain ⟨Ao28, co28, eo28⟩ := Kd.R_slice HO_7.out; subst eo28; obtain ⟨Ao29, co29, eo29⟩ := Kd.R_slice HO152.out; subst eo29) | (go_at_call 19; (with_reducible refine (saltusref15_Same.calls kj10 _ _ t144 _ _ t150 t153 _ ?side1 ?side2 ?side3 ?side4 A25.out).mono ?_); (case side1 => repeat (first | exact (Kd.R_reads' HO_7.out).2.2 | (with_reducible refine Kd.C_alloc ?_ _) | (with_reducible refine Kd.C_drewN ?_ _) | (with_reducible refine Kd.C_drew ?_))); (case side2 => exact (Kd.R_reads' HO_7.out).2.1); (case side3 => repeat (first | exact (Kd.R_reads' HO152.out).2.2 | (with_reducible refine Kd.C_alloc ?_ _) | (with_reducible refine Kd.C_drewN ?_ _) | (with_reducible refine Kd.C_drew ?_))); (case side4 => exact (Kd.R_reads' HO152.out).2.1); rintro e w' ⟨rfl, ⟨nd, rfl⟩⟩; (try first | exact ⟨rfl, _, World.drewN_drewN _ _ _⟩ | exact ⟨rfl, _, Eq.trans (World.drewN_drewN _ _ _) (congrArg (World.drewN _) (Nat.add_assoc _ _ _))⟩))))
          go_ret
          exact ⟨by first | rfl | (simp [errW_none, errW_some] <;> rfl) | (simp only [← hji4, ← hji7]; first | rfl | (simp [errW_none, errW_some] <;> rfl)) | (simp [*, errW_none, errW_some] <;> rfl), by repeat (first | (with_reducible first | exact HB.out | apply below_alloc | apply pw_below_drewN | apply below_drew1) | exact HB.out)⟩
         ·rw [if_neg c23] at H
          have c23b0 : (t145 == 0) = false := beq_eq_false_iff_ne.mpr c23
          have c23b1 : (t145 != 0) = true := bne_iff_ne.mpr c23
          exact absurd ((Option.some.inj H).trans hr.out) (by decide)
        ·replace c22 := Bool.eq_false_iff.mpr c22
         subst c22
         have H1 : (some false) = some r := by rw [if_neg (show ¬ (false = true) by decide)] at H; exact H
         clear H
         have H := H1
         clear H1
         exact absurd ((Option.some.inj H).trans hr.out) (by decide)
    ·rw [if_neg c9] at H
     exact absurd H (by simp)
   ·rw [if_neg c8] at H
    exact absurd H (by simp)
  ·rw [if_neg c6] at H
   exact absurd H (by simp)
 ·rw [if_neg c5] at H
  exact absurd H (by simp)
end Go.Proofs.YtolbhliepkcihaaDoor.QTW
end
section
namespace Go.Proofs.YtolbhliepkcihaaDoor.TowerPure
open Go.RowKit Go.Proofs.YtolbhliepkcihaaDoor.QTW Go.Proofs.YtolbhliepkcihaaDoorW.PrintWords Go.Proofs.YtolbhliepkcihaaDoorW.PrintLast Go.Proofs.YtolbhliepkcihaaDoorW.PrintMore Go.Proofs.YtolbhliepkcihaaDoor.Sha Go.Proofs.YtolbhliepkcihaaDoor.Mac Go.Proofs.YtolbhliepkcihaaDoor.Codec Go.Proofs.YtolbhliepkcihaaDoor.Tower
theorem mn_nat (a b : Nat) : mn (a : Int) (b : Int) = ((min a b : Nat) : Int) := by unfold mn; split <;> omega
/-! ### a tower's height, by halving -/
/-! ### rows -/
theorem same_l0 (a : List Int) (hn : a.length ≤ 100000) (d : Nat) : ∀ i, i + d = a.length → Ev (fun k => saltusref15_Same.l0 k a a (a.length : Int) (i : Int)) true := by
 induction d with
 | zero =>
  intro i hi
  refine Ev.step (fun k => ?_) (Ev.now _)
  rw [saltusref15_Same.l0, if_neg (by omega)]
 | succ d ih =>
  intro i hi
  refine Ev.step (fun k => ?_) (ih (i + 1) (by omega))
  rw [saltusref15_Same.l0, if_pos (by omega), if_pos (by omega), if_pos (by omega), if_pos (by omega), if_pos rfl, tw_succ i a.length (by omega) (by omega)]
theorem same_ev (a : List Int) (hn : a.length ≤ 100000) : Ev (fun k => saltusref15_Same.f k a a) true := by
 refine Ev.congr (fun k => ?_) (same_l0 a hn a.length 0 (by omega))
 unfold saltusref15_Same.f
 rw [if_pos rfl]
 rfl
def ht (key : ByteArray) (l : List Int) (i : Nat) : Int := (htsI key l)[i]?.getD 0
theorem ht_at (key : ByteArray) (l : List Int) (i : Nat) (h : i < l.length) : ht key l i = ((heightN key (l[i]).toNat : Nat) : Int) := by
 unfold ht htsI
 rw [List.getElem?_map, List.getElem?_eq_getElem h]
 rfl
theorem ht_lo (key : ByteArray) (l : List Int) (i : Nat) (h : i < l.length) : 1 ≤ ht key l i ∧ ht key l i ≤ 8 := by
 rw [ht_at key l i h]
 have := height_lo key (l[i]).toNat
 have := height_hi key (l[i]).toNat
 omega
theorem rd_at (l : List Int) (i : Nat) (h : i < l.length) : rd l (i : Int) = l[i] := by
 unfold rd
 rw [Int.toNat_natCast, List.getD_eq_getElem?_getD, List.getElem?_eq_getElem h]
 rfl
theorem rd_hts (key : ByteArray) (l : List Int) (i : Nat) : rd (htsI key l) (i : Int) = ht key l i := by
 unfold rd ht
 rw [Int.toNat_natCast, List.getD_eq_getElem?_getD]
theorem above_f (key : ByteArray) (hkey : key.size ≤ 1000000000) (l : List Int) (hn : l.length ≤ 100000) (hk : okNs l) (lv : Int) (h0 : ¬ lv < 0) (h8 : ¬ 8 < lv) : tower_Above.f key l lv = some (upIx (htsI key l) lv l.length, 0) := by
 unfold tower_Above.f
 rw [if_pos ⟨hkey, hn, hk⟩, if_neg (by omega)]
def two : List Int := [5, 7]
theorem alive15 : Ev (fun k => saltuslaw15_alive.f k) true := by
 have hu : upIx (htsI ⟨#[107]⟩ two) 0 two.length = [0, 1] := by
  have h0 := ht_lo ⟨#[107]⟩ two 0 (by decide)
  have h1 := ht_lo ⟨#[107]⟩ two 1 (by decide)
  show upIx (htsI ⟨#[107]⟩ two) 0 (1 + 1) = _
  rw [upIx_hit (show (0 : Int) < ht ⟨#[107]⟩ two 1 by omega), show (1 : Nat) = 0 + 1 from rfl, upIx_hit (show (0 : Int) < ht ⟨#[107]⟩ two 0 by omega)]
  rfl
 have ha := above_f ⟨#[107]⟩ (by decide) two (by decide) (by decide) 0 (by decide) (by decide)
 rw [hu] at ha
 obtain ⟨K, hS⟩ := same_ev [0, 1] (by decide)
 refine ⟨K, fun k hk => ?_⟩
 have h2 : saltusref15_Same.f k [0, 1] [0, 1] = some true := hS k hk
 show saltuslaw15_alive.f k = some true
 unfold saltuslaw15_alive.f
 rw [show ([5, 7] : List Int) = two from rfl, ha, Option.bind_some, if_pos rfl, h2]
 rfl
theorem take_ok {l : List Int} (h : okNs l) (n : Nat) : okNs (l.take n) := fun y hy => h y (List.mem_of_mem_take hy)
/-! ### the laws -/
end Go.Proofs.YtolbhliepkcihaaDoor.TowerPure
end
section
namespace Go.Proofs.YtolbhliepkcihaaDoor.TowerPure
open Go.RowKit Go.Proofs.YtolbhliepkcihaaDoor.QTW Go.Proofs.YtolbhliepkcihaaDoorW.PrintWords Go.Proofs.YtolbhliepkcihaaDoorW.PrintLast Go.Proofs.YtolbhliepkcihaaDoorW.PrintMore Go.Proofs.YtolbhliepkcihaaDoor.Sha Go.Proofs.YtolbhliepkcihaaDoor.Mac Go.Proofs.YtolbhliepkcihaaDoor.Codec Go.Proofs.YtolbhliepkcihaaDoor.Tower
def cnt (h : Nat → Int) (n : Nat) (L : Int) (m : Nat) : List Int := (List.range n).map fun p => if p < m ∧ L < h p then L + 1 else min (h p) L
theorem cnt_len (h : Nat → Int) (n : Nat) (L : Int) (m : Nat) : (cnt h n L m).length = n := by simp [cnt]
theorem cnt_rd (h : Nat → Int) (n : Nat) (L : Int) (m p : Nat) (hp : p < n) : rd (cnt h n L m) (p : Int) = if p < m ∧ L < h p then L + 1 else min (h p) L := by
 rw [rd_at _ _ (by rw [cnt_len]; exact hp)]
 simp [cnt]
theorem cnt_miss (h : Nat → Int) (n : Nat) (L : Int) (m : Nat) (hm : ¬ L < h m) : cnt h n L (m + 1) = cnt h n L m := by
 unfold cnt
 refine List.map_congr_left fun p _ => ?_
 by_cases e : p = m
 ·subst e
  rw [if_neg (fun x => hm x.2), if_neg (fun x => hm x.2)]
 ·by_cases hc : p < m ∧ L < h p
  ·rw [if_pos hc, if_pos ⟨by omega, hc.2⟩]
  ·rw [if_neg hc, if_neg (fun x => hc ⟨by omega, x.2⟩)]
theorem cnt_hit (h : Nat → Int) (n : Nat) (L : Int) (m : Nat) (hm : L < h m) : (cnt h n L m).set m (L + 1) = cnt h n L (m + 1) := by
 refine List.ext_getElem (by rw [List.length_set, cnt_len, cnt_len]) fun p h1 h2 => ?_
 rw [List.getElem_set]
 simp only [cnt, List.getElem_map, List.getElem_range]
 by_cases e : m = p
 ·subst e
  rw [if_pos rfl, if_pos ⟨by omega, hm⟩]
 ·rw [if_neg e]
  by_cases hc : p < m ∧ L < h p
  ·rw [if_pos hc, if_pos ⟨by omega, hc.2⟩]
  ·rw [if_neg hc, if_neg (fun x => hc ⟨by omega, x.2⟩)]
theorem cnt_next (h : Nat → Int) (n : Nat) (L : Int) : cnt h n L n = cnt h n (L + 1) 0 := by
 unfold cnt
 refine List.map_congr_left fun p hp => ?_
 have hp := List.mem_range.1 hp
 rw [if_neg (fun x : p < 0 ∧ _ => absurd x.1 (by omega))]
 by_cases hc : L < h p
 ·rw [if_pos ⟨hp, hc⟩]
  omega
 ·rw [if_neg (fun x => hc x.2)]
  omega
theorem cnt_zero (h : Nat → Int) (n : Nat) (hh : ∀ p, p < n → 1 ≤ h p) : List.replicate n 0 = cnt h n 0 0 := by
 refine List.ext_getElem (by rw [List.length_replicate, cnt_len]) fun p h1 h2 => ?_
 rw [List.length_replicate] at h1
 simp only [cnt, List.getElem_map, List.getElem_range, List.getElem_replicate]
 have := hh p h1
 rw [if_neg (fun x => absurd x.1 (by omega))]
 omega
theorem up_split (zs : List Int) (lv : Int) (m d : Nat) : ∃ t, upIx zs lv (m + d) = upIx zs lv m ++ t := by
 induction d with
 | zero => exact ⟨[], by simp⟩
 | succ d ih =>
  obtain ⟨t, ht⟩ := ih
  by_cases hc : lv < zs[m + d]?.getD 0
  ·exact ⟨t ++ [((m + d : Nat) : Int)], by rw [← Nat.add_assoc, upIx_hit hc, ht, List.append_assoc]⟩
  ·exact ⟨t, by rw [← Nat.add_assoc, upIx_miss hc, ht]⟩
theorem up_lt (zs : List Int) (lv : Int) (m : Nat) : ∀ x, x ∈ upIx zs lv m → 0 ≤ x ∧ x < (m : Int) := by
 intro x hx
 unfold upIx at hx
 obtain ⟨p, hp, rfl⟩ := List.mem_map.1 hx
 have := List.mem_range.1 (List.mem_filter.1 hp).1
 omega
theorem up_none (key : ByteArray) (l : List Int) (m : Nat) (hm : m ≤ l.length) : upIx (htsI key l) 8 m = [] := by
 induction m with
 | zero => rfl
 | succ m ih =>
  have := (ht_lo key l m (by omega)).2
  rw [upIx_miss (show ¬ (8 : Int) < (htsI key l)[m]?.getD 0 by unfold ht at this; omega)]
  exact ih (by omega)
theorem l1_step (k : Nat) (key : ByteArray) (l hts cs : List Int) (L : Int) (a t : List Int) (m : Nat) (b : List Int) (hb : b = a ++ [(m : Int)] ++ t) (hbl : b.length = a.length + 1 + t.length) (hm : m < l.length) (_ : l.length ≤ 100000) (hcl : cs.length = l.length) (hcr : rd cs (m : Int) = L)
  (hL : 0 ≤ L) (hL8 : L ≤ 8) (hlt : ∀ x, x ∈ a → 0 ≤ x ∧ x < (m : Int)) (hal : b.length ≤ 100000) :
  saltuslaw15_TowerFalls.l1 (k + 1) key l hts cs L b L b (b.length : Int) (a.length : Int) = saltuslaw15_TowerFalls.l1 k key l hts (cs.set m (L + 1)) L b L b (b.length : Int) ((a.length + 1 : Nat) : Int) := by
 have e1 : rd b (a.length : Int) = (m : Int) := by
  subst hb
  rw [rd_at _ _ (by rw [hbl]; omega), List.getElem_append_left (by simp), List.getElem_append_right (by omega)]
  simp
 have hw := tw_succ a.length b.length (by omega) (by omega)
 have hwL : wrap64 (L + 1) = L + 1 := by unfold wrap64; omega
 have e3 : ¬ a.length = 0 → ¬ rd b ((a.length - 1 : Nat) : Int) ≥ (m : Int) := fun h0 => by
  subst hb
  rw [rd_at _ _ (by rw [hbl]; omega), List.getElem_append_left (by simp; omega), List.getElem_append_left (by omega)]
  have := (hlt _ (List.getElem_mem (show a.length - 1 < a.length by omega))).2
  omega
 have e2 : ¬ a.length = 0 → wrap64 ((a.length : Int) - 1) = ((a.length - 1 : Nat) : Int) := fun h0 => by unfold wrap64; omega
 have g1 : (a.length : Int) < (b.length : Int) := by omega
 have g2 : (0 : Int) ≤ (a.length : Int) := by omega
 have g3 : ¬ (m : Int) < 0 := by omega
 have g4 : ¬ (m : Int) ≥ (l.length : Int) := by omega
 have g5 : (m : Int) < (cs.length : Int) := by omega
 have g6 : (0 : Int) ≤ (m : Int) := by omega
 have g7 : ¬ a.length = 0 → ((a.length - 1 : Nat) : Int) < (b.length : Int) := fun h => by omega
 have g8 : (0 : Int) ≤ ((a.length - 1 : Nat) : Int) := by omega
 rw [saltuslaw15_TowerFalls.l1, if_pos g1, if_pos g2, if_pos g1, e1, if_neg g3, if_neg g4]
 by_cases h0 : a.length = 0
 ·have g9 : ¬ (a.length : Int) > 0 := by omega
  rw [if_neg g9, if_pos g6, if_pos g5, if_pos hcr, hcr, hwL, hw, Int.toNat_natCast]
 ·have g9 : (a.length : Int) > 0 := by omega
  rw [if_pos g9, e2 h0, if_pos g8, if_pos (g7 h0), if_neg (e3 h0), if_pos g6, if_pos g5, if_pos hcr, hcr, hwL, hw, Int.toNat_natCast]
theorem falls_l1 (key : ByteArray) (l : List Int) (hn : l.length ≤ 100000) (L : Int) (hL : 0 ≤ L) (hL8 : L ≤ 8) (r : Bool)
  (hr : Ev (fun k => saltuslaw15_TowerFalls.l0 k key l (htsI key l) (cnt (ht key l) l.length (L + 1) 0) (wrap64 (L + 1))) r) (d : Nat) : ∀ m, m + d = l.length →
  Ev (fun k => saltuslaw15_TowerFalls.l1 k key l (htsI key l) (cnt (ht key l) l.length L m) L (upIx (htsI key l) L l.length) L (upIx (htsI key l) L l.length) ((upIx (htsI key l) L l.length).length : Int) ((upIx (htsI key l) L m).length : Int)) r := by
 induction d with
 | zero =>
  intro m hm
  obtain rfl : m = l.length := by omega
  rw [cnt_next]
  refine Ev.step (fun k => ?_) hr
  rw [saltuslaw15_TowerFalls.l1, if_neg (by omega)]
 | succ d ih =>
  intro m hm
  have h := ih (m + 1) (by omega)
  by_cases hc : L < ht key l m
  ·have hu := upIx_hit hc
   rw [← cnt_hit _ _ _ _ hc, hu, List.length_append, List.length_singleton] at h
   refine Ev.step (fun k => ?_) h
   obtain ⟨t, ht2⟩ := up_split (htsI key l) L (m + 1) d
   rw [show m + 1 + d = l.length by omega, hu] at ht2
   have hlt := up_lt (htsI key l) L m
   have hz := upIx_len (htsI key l) L l.length
   have hcr := cnt_rd (ht key l) l.length L m m (by omega)
   rw [if_neg (fun x => absurd x.1 (by omega)), show min (ht key l m) L = L by omega] at hcr
   have hcl := cnt_len (ht key l) l.length L m
   exact l1_step k key l _ _ L _ t m _ ht2 (by rw [ht2]; simp; omega) (by omega) hn hcl hcr hL hL8 hlt (by omega)
  ·rw [cnt_miss _ _ _ _ hc, upIx_miss hc] at h
   exact h
theorem falls_l2 (key : ByteArray) (hkey : key.size ≤ 1000000000) (l : List Int) (hn : l.length ≤ 100000) (hk : okNs l) (d : Nat) : ∀ i, i + d = l.length →
  Ev (fun k => saltuslaw15_TowerFalls.l2 k key l (cnt (ht key l) l.length 9 0) (htsI key l) ((htsI key l).length : Int) (i : Int)) true := by
 have hz := htsI_len key l
 induction d with
 | zero =>
  intro i hi
  refine Ev.step (fun k => ?_) (Ev.now _)
  rw [saltuslaw15_TowerFalls.l2, if_neg (by omega)]
 | succ d ih =>
  intro i hi
  refine Ev.step (fun k => ?_) (ih (i + 1) (by omega))
  have hlt : i < l.length := by omega
  have hb := hk l[i] (List.getElem_mem hlt)
  have hh := ht_lo key l i hlt
  have hcr := cnt_rd (ht key l) l.length 9 0 i hlt
  rw [if_neg (fun x => absurd x.1 (by omega)), show min (ht key l i) 9 = ht key l i by omega] at hcr
  have hcl := cnt_len (ht key l) l.length 9 0
  have e : tower_Height.f key l[i] = some ((heightN key (l[i]).toNat : Nat) : Int) := if_pos ⟨hkey, by omega, by omega⟩
  rw [← ht_at key l i hlt] at e
  rw [saltuslaw15_TowerFalls.l2, if_pos (by omega), if_pos (by omega), if_pos (by omega), rd_hts, if_neg (by omega), if_neg (by omega), if_pos (by omega), if_pos hcr, if_pos (by omega), rd_at l i hlt, e, Option.bind_some, if_pos rfl, tw_succ i l.length (by omega) (by omega)]
theorem falls_l0 (key : ByteArray) (hkey : key.size ≤ 1000000000) (l : List Int) (hn : l.length ≤ 100000) (hk : okNs l) (d : Nat) : ∀ L : Nat, L + d = 9 →
  Ev (fun k => saltuslaw15_TowerFalls.l0 k key l (htsI key l) (cnt (ht key l) l.length (L : Int) 0) (L : Int)) true := by
 induction d with
 | zero =>
  intro L hL
  obtain rfl : L = 9 := by omega
  refine Ev.step (fun k => ?_) (falls_l2 key hkey l hn hk l.length 0 (by omega))
  show saltuslaw15_TowerFalls.l0 (k + 1) key l (htsI key l) (cnt (ht key l) l.length 9 0) 9 = _
  rw [saltuslaw15_TowerFalls.l0, if_neg (by decide)]
  rfl
 | succ d ih =>
  intro L hL
  have h := ih (L + 1) (by omega)
  have hw : wrap64 ((L : Int) + 1) = ((L + 1 : Nat) : Int) := by unfold wrap64; omega
  have h1 := falls_l1 key l hn (L : Int) (by omega) (by omega) true (by rw [hw]; exact h) l.length 0 (by omega)
  have h2 : Ev (fun k => saltuslaw15_TowerFalls.j2 k key l (htsI key l) (cnt (ht key l) l.length (L : Int) 0) (L : Int) (upIx (htsI key l) (L : Int) l.length) (L : Int) false) true := by
   refine Ev.step (fun k => ?_) h1
   show saltuslaw15_TowerFalls.j2 (k + 1) key l (htsI key l) _ _ _ _ false = _
   rw [saltuslaw15_TowerFalls.j2, if_neg (by decide)]
   rfl
  refine Ev.step (fun k => ?_) h2
  rw [saltuslaw15_TowerFalls.l0, if_pos (by omega), above_f key hkey l hn hk (L : Int) (by omega) (by omega), Option.bind_some, if_pos rfl]
  by_cases h8 : L = 8
  ·subst h8
   rw [if_pos (show ((8 : Nat) : Int) = 8 from rfl)]
   have hu := up_none key l l.length (Nat.le_refl _)
   rw [decide_eq_false (show ¬ ((((upIx (htsI key l) ((8 : Nat) : Int) l.length, (0 : Int)).1).length : Int) > 0) by show ¬ (((upIx (htsI key l) 8 l.length).length : Int) > 0); rw [hu]; decide)]
  ·rw [if_neg (by omega)]
theorem towerFalls_ev (a0 : ByteArray) (l : List Int) (hk : okNs l) : Ev (fun k => saltuslaw15_TowerFalls.f k a0 l) true := by
 have e80 := mn_nat a0.size 80
 have e8 := mn_nat l.length 8
 rw [show ((80 : Nat) : Int) = 80 from rfl] at e80
 rw [show ((8 : Nat) : Int) = 8 from rfl] at e8
 have hkey : (a0.extract 0 (min a0.size 80)).size ≤ 1000000000 := by rw [ByteArray.size_extract]; omega
 have hl : (l.take (min l.length 8)).length ≤ 100000 := by rw [List.length_take]; omega
 have hk2 := take_ok hk (min l.length 8)
 have hs1 : min a0.size 80 ≤ a0.size := by omega
 have hs2 : min l.length 8 ≤ l.length := by omega
 obtain ⟨KA, hA⟩ := alive15
 have e2 : tower_Heights.f (a0.extract 0 (min a0.size 80)) (l.take (min l.length 8)) = some (htsI (a0.extract 0 (min a0.size 80)) (l.take (min l.length 8))) := if_pos ⟨hkey, hl, hk2⟩
 have hF := falls_l0 _ hkey _ hl hk2 9 0 (by omega)
 rw [show ((0 : Nat) : Int) = 0 from rfl, ← cnt_zero _ _ (fun p hp => (ht_lo _ _ p hp).1)] at hF
 obtain ⟨KF, hF⟩ := hF
 refine ⟨max KA KF + 1, fun k hkk => ?_⟩
 obtain ⟨k, rfl⟩ : ∃ m, k = m + 1 := ⟨k - 1, by omega⟩
 have h1 : saltuslaw15_alive.f (k + 1) = some true := hA (k + 1) (by omega)
 have h2 : saltuslaw15_TowerFalls.l0 k _ _ _ _ 0 = some true := hF k (by omega)
 show saltuslaw15_TowerFalls.f (k + 1) a0 l = some true
 unfold saltuslaw15_TowerFalls.f
 have hz := htsI_len (a0.extract 0 (min a0.size 80)) (l.take (min l.length 8))
 rw [e80, e8, if_pos (by omega), if_pos (by omega), if_pos (by omega), if_pos (by omega), Int.toNat_natCast, Int.toNat_natCast, e2, Option.bind_some, if_pos (by omega), h1, Option.bind_some, show (!true) = false from rfl, saltuslaw15_TowerFalls.j0, if_neg (by decide), if_pos (by omega), if_pos (by omega), Int.toNat_natCast]
 exact h2
theorem towerFalls_row (a0 : ByteArray) (A1 : Option Addr) (c1 : Nat) (l1 : List Int) (w : World) (_ : a0.size ≤ 140737488351232) (hr1 : Kd.C (Kd.int .u64) w A1 l1.length l1) (hc1 : l1.length ≤ c1)
  (hw : ∀ y, y ∈ l1 → 0 ≤ y ∧ y ≤ 18446744073709551615) (hT0 : TabW w) :
  Calls Tryd.prog 5 #[.string a0, .slice A1 l1.length c1] w fun e w' => e = .returned (.bool true) ∧ Below w.heap.size w w' := by
 obtain ⟨K, h⟩ := towerFalls_ev a0 l1 hw
 exact saltuslaw15_TowerFalls.calls K a0 A1 c1 l1 true w hr1 hc1 ⟨rfl⟩ (h K (Nat.le_refl _)) hT0
end Go.Proofs.YtolbhliepkcihaaDoor.TowerPure
end
