/- Joined by a program of this session (wip/pack.py) for this claim: QSFx2, SkipPlace, SkipDrop, SkipPut, SkipPut2, SkipPut3, QSFx1, QSFx3, QSFx4, QSFx5, SkipPure, SkipPure2, SkipPure3, QSQx0, QSQx3, QSQx1, QSQx2, SkipOps, SkipCon, LabTop, LabTop2, LabStub2, QLRx0, QLRx1, PureLabRows, SkipPuts, SkipOrder, LabMade. -/
import Derived.Test.YtolbhliepkcihaaDoorKLabelMadea
import Derived.Deep.RegionLawGrows
import Derived.Deep.Upon
import Derived.DataElems
import Derived.Test.YtolbhliepkcihaaDoorProg
import Derived.Below
import Derived.Deep.Draws
import Derived.Deep.AppendLies
import Derived.Maps.AppendAt
import Derived.OwnWalk
import Derived.Laws.BytesArg
import Derived.Laws.MakeOwn
import Derived.Laws.OwnMore
import Derived.Deep.OwnRows
import Derived.Tactics
import Derived.Lib.ConvBytes
import Derived.Laws.Slices
import Derived.WalkKit
import Derived.KernelRfl
import Derived.RowKit3
import Derived.Deep.LoopGhost
import Derived.Deep.QuietTactic
import Derived.BigQuiet
import Derived.WideLaws
import Derived.Deep.DeepCutAuto
import Derived.Deep.CutBlock
import Derived.Deep.RegionHeld3
import Derived.Laws.Rows
import Derived.Lib.AppendStr
import Derived.ArgAppend
import Derived.Laws.IdiomCopy
import Derived.OrdersHeld
import Derived.Laws.BitsLemmas
import Derived.RowKit
import Derived.Test.YtolbhliepkcihaaDoorBaseH
import Derived.Test.YtolbhliepkcihaaDoorPWa
section
namespace Go.Proofs.YtolbhliepkcihaaDoor.QSF
open Go.RowKit Go.Proofs.YtolbhliepkcihaaDoor.Kinds Go.Proofs.YtolbhliepkcihaaDoorW.PrintWords Go.Proofs.YtolbhliepkcihaaDoorW.PrintLast Go.Proofs.YtolbhliepkcihaaDoorW.PrintMore
attribute [local go_sem] max2_int min2_int max_two min_two max_three min_three max_four min_four   -- for this text's walks alone
set_option linter.unusedVariables false
set_option linter.unusedSimpArgs false
/-! ### skip_Right: function 38 -/
def skip_Right.l0 : Nat → List (S46) → List (S46) → Int → Int → Option (Bool)
 | 0, _, _, _, _ => none
 | k + 1, x0, x5, x6, x7 => if x7 < x6 then (if 0 ≤ x7 then (if x7 < (x5.length : Int) then (if (((rd_T46 x5 x7).f1).size : Int) > 64 then (some false) else (if x7 > 0 then (if 0 ≤ (wrap64 (x7 - 1)) then (if (wrap64 (x7 - 1)) < (x0.length : Int) then (if ((rd_T46 x0 (wrap64 (x7 - 1))).f0) ≥ ((rd_T46 x5 x7).f0) then (some false) else (skip_Right.l0 k x0 x5 x6 (wrap64 (x7 + 1)))) else (none)) else (none)) else (skip_Right.l0 k x0 x5 x6 (wrap64 (x7 + 1))))) else (none)) else (none)) else (some (decide ((x0.length : Int) ≤ 64)))
def skip_Right.f (k : Nat) (l0 : List (S46)) : Option (Bool) := skip_Right.l0 k l0 l0 (l0.length : Int) 0
theorem skip_Right.mono_l : ∀ k, (∀ y0 y1 y2 y3, LeO (skip_Right.l0 k y0 y1 y2 y3) (skip_Right.l0 (k + 1) y0 y1 y2 y3))
 | 0 => fun _ _ _ _ r h => by simp [skip_Right.l0] at h
 | k + 1 => by
  have ih0 := skip_Right.mono_l k
  ·intro y0 y1 y2 y3
   unfold skip_Right.l0
   repeat' first
   | (with_reducible exact ih0 _ _ _ _)
   | (with_reducible exact LeO.refl _)
   | (with_reducible exact LeO.none _)
   | (with_reducible refine LeO.ite ?_ ?_)
   | (with_reducible refine LeO.bind ?_ (fun _ => ?_))
   | exact ih0 _ _ _ _
   | exact LeO.none _
   | refine LeO.ite ?_ ?_
   | refine LeO.bind ?_ (fun _ => ?_)
theorem skip_Right.mono : ∀ a0 k, LeO (skip_Right.f k a0) (skip_Right.f (k + 1) a0) := by
 intro a0 k
 have ih0 := skip_Right.mono_l k
 unfold skip_Right.f
 repeat' first
   | (with_reducible exact ih0 _ _ _ _)
   | (with_reducible exact LeO.refl _)
   | (with_reducible exact LeO.none _)
   | (with_reducible refine LeO.ite ?_ ?_)
   | (with_reducible refine LeO.bind ?_ (fun _ => ?_))
   | exact ih0 _ _ _ _
   | exact LeO.none _
   | refine LeO.ite ?_ ?_
   | refine LeO.bind ?_ (fun _ => ?_)
set_option maxHeartbeats 8000000 in
set_option maxRecDepth 100000 in
theorem skip_Right.calls (k : Nat) (A0 : Option Addr) (c0 : Nat) (l0 : List (S46)) (r : Bool) (w : World) (hr0 : Kd.C k46 w A0 l0.length l0) (hc0 : l0.length ≤ c0) (h : skip_Right.f k l0 = some r) :
  Calls Tryd.prog 38 #[.slice A0 l0.length c0] w fun e w' => e = .returned (.bool r) ∧ Below w.heap.size w w' := by
 have hu46 := Tryd.underlying46
 have HR0 := Aside0.mk hr0
 have HC0 := Aside0.mk hc0
 clear hr0 hc0
 have HB := Aside0.mk (Below.refl w.heap.size w)
 have H : (skip_Right.l0 k l0 l0 (l0.length : Int) 0) = some r := h
 clear h
 have H' := Aside0.mk H
 clear H
 go_enter Tryd.func38, Tryd.ntmps38
 go_wp2
 repeat (go_quiet (fail); try go_wp2)
 go_loopg [7] k (fun kq v7 w' => ∃ (x7_1 : Int), v7 = .int .i64 x7_1 ∧ Aside0 (skip_Right.l0 kq l0 l0 (l0.length : Int) x7_1 = some r) ∧ Aside0 (kq ≤ k) ∧ Aside0 (Below w.heap.size w w'))
 case atStart => exact ⟨(0), (by first | rfl | (simp; done) | (simp [*]; done)), H', ⟨Nat.le_refl _⟩, ⟨by repeat (first | (with_reducible first | exact HB.out | apply below_alloc | apply pw_below_drewN | apply below_drew1) | exact HB.out)⟩⟩
 case round =>
  clear H'
  obtain ⟨x7_1, rfl, HA, HK1, HB⟩ := hrel
  cases gk with
  | zero => exact absurd HA.out (by simp [skip_Right.l0])
  | succ k1 =>
   have H := HA.out
   clear HA
   simp only [skip_Right.l0] at H
   by_cases c2 : x7_1 < (l0.length : Int)
   ·rw [if_pos c2] at H
    have c2b0 : decide (x7_1 < (l0.length : Int)) = true := decide_eq_true c2
    clear c2
    by_cases c3 : 0 ≤ x7_1
    ·rw [if_pos c3] at H
     have c3b0 : decide (0 ≤ x7_1) = true := decide_eq_true c3
     clear c3
     by_cases c4 : x7_1 < (l0.length : Int)
     ·rw [if_pos c4] at H
      have c4b0 : decide (x7_1 < (l0.length : Int)) = true := decide_eq_true c4
      clear c4
      by_cases c5 : (((rd_T46 l0 x7_1).f1).size : Int) > 64
      ·rw [if_pos c5] at H
       have c5b0 : decide (64 < (((rd_T46 l0 x7_1).f1).size : Int)) = true := decide_eq_true c5
       have c5b1 : decide (64 < ((rd_T46 l0 x7_1).f1).size) = true := decide_eq_true (by omega)
       clear c5
       obtain rfl := Option.some.inj H
       have p101 : 0 ≤ (x7_1 : Int) := of_decide_eq_true (by first | (with_reducible assumption) | assumption)
       have q101 : x7_1 < (l0.length : Int) := of_decide_eq_true (by first | (with_reducible assumption) | assumption)
       obtain ⟨ad101, e101, hx101_0, hx101_1⟩ := at_T46 HR0.out x7_1 p101 q101
       cases e101
       replace hx101_0 := (HB.out.cell (World.block_lt_of_cell? w _ hx101_0)).trans hx101_0
       replace hx101_1 := (HB.out.cell (World.block_lt_of_cell? w _ hx101_1)).trans hx101_1
       replace p101 := eq_true p101
       replace q101 := eq_true q101
       go_wp2_with (first | ((with_reducible refine gate_dst (N := 4) rfl ?_); refine box_event ?hg (N := 4) ?hd (cs := #[.int .u64 0, .string (⟨#[]⟩ : ByteArray)]) (t := 46) ?hr ?_; (case hd => rfl); (case hg => rfl); (case hr => first | (go_simp; done) | (go_simp; rfl)); intro gb102 hg w6 hbox hb; have n0_ := Aside0.mk (below_step (by repeat (first | (with_reducible first | exact HB.out | apply below_alloc | apply pw_below_drewN | apply below_drew1) | exact HB.out)) hb); have n1_ := Aside0.mk (hbox); have n2_ := Aside0.mk ((by rw [hg]; exact (below_size (by repeat (first | (with_reducible first | exact HB.out | apply below_alloc | apply pw_below_drewN | apply below_drew1) | exact HB.out))) : w.heap.size ≤ gb102)); have n3_ := Aside0.mk ((by rw [hg]; exact (below_size (by repeat (first | (with_reducible first | exact HB.out | apply below_alloc | apply pw_below_drewN | apply below_drew1) | exact HB.out))) : w.heap.size ≤ gb102)); clear HB; have HB := n0_; have BK102 := n1_; have GW102 := n2_; have GE102 := n3_; clear n0_ n1_ n2_ n3_; clear hb hbox hg; have hcz7_0 : w6.cell? ⟨gb102, 0, none⟩ = some (.int .u64 0) := (blk_cell BK102.out 0).trans rfl; have hcz7_1 : w6.cell? ⟨gb102, 1, none⟩ = some (.string (⟨#[]⟩ : ByteArray)) := (blk_cell BK102.out 1).trans rfl; have hfz7_0 := blk_frozen BK102.out 0; have hfz7_1 := blk_frozen BK102.out 1))
       repeat (go_quiet (first | ((with_reducible refine gate_dst (N := 4) rfl ?_); refine box_event ?hg (N := 4) ?hd (cs := #[.int .u64 0, .string (⟨#[]⟩ : ByteArray)]) (t := 46) ?hr ?_; (case hd => rfl); (case hg => rfl); (case hr => first | (go_simp; done) | (go_simp; rfl)); intro gb102 hg w6 hbox hb; have n0_ := Aside0.mk (below_step (by repeat (first | (with_reducible first | exact HB.out | apply below_alloc | apply pw_below_drewN | apply below_drew1) | exact HB.out)) hb); have n1_ := Aside0.mk (hbox); have n2_ := Aside0.mk ((by rw [hg]; exact (below_size (by repeat (first | (with_reducible first | exact HB.out | apply below_alloc | apply pw_below_drewN | apply below_drew1) | exact HB.out))) : w.heap.size ≤ gb102)); have n3_ := Aside0.mk ((by rw [hg]; exact (below_size (by repeat (first | (with_reducible first | exact HB.out | apply below_alloc | apply pw_below_drewN | apply below_drew1) | exact HB.out))) : w.heap.size ≤ gb102)); clear HB; have HB := n0_; have BK102 := n1_; have GW102 := n2_; have GE102 := n3_; clear n0_ n1_ n2_ n3_; clear hb hbox hg; have hcz7_0 : w6.cell? ⟨gb102, 0, none⟩ = some (.int .u64 0) := (blk_cell BK102.out 0).trans rfl; have hcz7_1 : w6.cell? ⟨gb102, 1, none⟩ = some (.string (⟨#[]⟩ : ByteArray)) := (blk_cell BK102.out 1).trans rfl; have hfz7_0 := blk_frozen BK102.out 0; have hfz7_1 := blk_frozen BK102.out 1)); try go_wp2_with (first | ((with_reducible refine gate_dst (N := 4) rfl ?_); refine box_event ?hg (N := 4) ?hd (cs := #[.int .u64 0, .string (⟨#[]⟩ : ByteArray)]) (t := 46) ?hr ?_; (case hd => rfl); (case hg => rfl); (case hr => first | (go_simp; done) | (go_simp; rfl)); intro gb102 hg w6 hbox hb; have n0_ := Aside0.mk (below_step (by repeat (first | (with_reducible first | exact HB.out | apply below_alloc | apply pw_below_drewN | apply below_drew1) | exact HB.out)) hb); have n1_ := Aside0.mk (hbox); have n2_ := Aside0.mk ((by rw [hg]; exact (below_size (by repeat (first | (with_reducible first | exact HB.out | apply below_alloc | apply pw_below_drewN | apply below_drew1) | exact HB.out))) : w.heap.size ≤ gb102)); have n3_ := Aside0.mk ((by rw [hg]; exact (below_size (by repeat (first | (with_reducible first | exact HB.out | apply below_alloc | apply pw_below_drewN | apply below_drew1) | exact HB.out))) : w.heap.size ≤ gb102)); clear HB; have HB := n0_; have BK102 := n1_; have GW102 := n2_; have GE102 := n3_; clear n0_ n1_ n2_ n3_; clear hb hbox hg; have hcz7_0 : w6.cell? ⟨gb102, 0, none⟩ = some (.int .u64 0) := (blk_cell BK102.out 0).trans rfl; have hcz7_1 : w6.cell? ⟨gb102, 1, none⟩ = some (.string (⟨#[]⟩ : ByteArray)) := (blk_cell BK102.out 1).trans rfl; have hfz7_0 := blk_frozen BK102.out 0; have hfz7_1 := blk_frozen BK102.out 1)))
       go_ret
       exact ⟨by first | rfl | (simp [errW_none, errW_some] <;> rfl) | (simp [*, errW_none, errW_some] <;> rfl), by repeat (first | (with_reducible first | exact HB.out | apply below_alloc | apply pw_below_drewN | apply below_drew1 | refine below_set ?_ GE102.out) | exact HB.out)⟩
      ·rw [if_neg c5] at H
       have c5b0 : decide (64 < (((rd_T46 l0 x7_1).f1).size : Int)) = false := decide_eq_false c5
       have c5b1 : decide (64 < ((rd_T46 l0 x7_1).f1).size) = false := decide_eq_false (by omega)
       clear c5
       by_cases c8 : x7_1 > 0
       ·rw [if_pos c8] at H
        have c8b0 : decide (0 < x7_1) = true := decide_eq_true c8
        clear c8
        obtain ⟨ji9, hji9⟩ : ∃ j_ : Int, (wrap64 (x7_1 - 1)) = j_ := ⟨_, rfl⟩
        replace H : (if 0 ≤ (ji9) then (if (ji9) < (l0.length : Int) then (if ((rd_T46 l0 (ji9)).f0) ≥ ((rd_T46 l0 x7_1).f0) then (some false) else (skip_Right.l0 k1 l0 l0 (l0.length : Int) (wrap64 (x7_1 + 1)))) else (none)) else (none)) = some r := by first | (rw [hji9] at H; exact H) | (simp only [hji9] at H ⊢; exact H)
        have hji9w : (IntKind.i64.wrap (x7_1 - 1)) = ji9 := (i64_w _).trans hji9
        by_cases c10 : 0 ≤ (ji9)
        ·rw [if_pos c10] at H
         have c10b0 : decide (0 ≤ (ji9)) = true := decide_eq_true c10
         clear c10
         by_cases c11 : (ji9) < (l0.length : Int)
         ·rw [if_pos c11] at H
          have c11b0 : decide ((ji9) < (l0.length : Int)) = true := decide_eq_true c11
          clear c11
          by_cases c12 : ((rd_T46 l0 (ji9)).f0) ≥ ((rd_T46 l0 x7_1).f0)
          ·rw [if_pos c12] at H
           have c12b0 : decide (((rd_T46 l0 x7_1).f0) ≤ ((rd_T46 l0 (ji9)).f0)) = true := decide_eq_true c12
           clear c12
           obtain rfl := Option.some.inj H
           have p101 : 0 ≤ (x7_1 : Int) := of_decide_eq_true (by first | (with_reducible assumption) | assumption)
           have q101 : x7_1 < (l0.length : Int) := of_decide_eq_true (by first | (with_reducible assumption) | assumption)
           obtain ⟨ad101, e101, hx101_0, hx101_1⟩ := at_T46 HR0.out x7_1 p101 q101
           cases e101
           replace hx101_0 := (HB.out.cell (World.block_lt_of_cell? w _ hx101_0)).trans hx101_0
           replace hx101_1 := (HB.out.cell (World.block_lt_of_cell? w _ hx101_1)).trans hx101_1
           replace p101 := eq_true p101
           replace q101 := eq_true q101
           go_wp2_with (first | ((with_reducible refine gate_dst (N := 4) rfl ?_); refine box_event ?hg (N := 4) ?hd (cs := #[.int .u64 0, .string (⟨#[]⟩ : ByteArray)]) (t := 46) ?hr ?_; (case hd => rfl); (case hg => rfl); (case hr => first | (go_simp; done) | (go_simp; rfl)); intro gb102 hg w13 hbox hb; have n0_ := Aside0.mk (below_step (by repeat (first | (with_reducible first | exact HB.out | apply below_alloc | apply pw_below_drewN | apply below_drew1) | exact HB.out)) hb); have n1_ := Aside0.mk (hbox); have n2_ := Aside0.mk ((by rw [hg]; exact (below_size (by repeat (first | (with_reducible first | exact HB.out | apply below_alloc | apply pw_below_drewN | apply below_drew1) | exact HB.out))) : w.heap.size ≤ gb102)); have n3_ := Aside0.mk ((by rw [hg]; exact (below_size (by repeat (first | (with_reducible first | exact HB.out | apply below_alloc | apply pw_below_drewN | apply below_drew1) | exact HB.out))) : w.heap.size ≤ gb102)); clear HB; have HB := n0_; have BK102 := n1_; have GW102 := n2_; have GE102 := n3_; clear n0_ n1_ n2_ n3_; clear hb hbox hg; have hcz14_0 : w13.cell? ⟨gb102, 0, none⟩ = some (.int .u64 0) := (blk_cell BK102.out 0).trans rfl; have hcz14_1 : w13.cell? ⟨gb102, 1, none⟩ = some (.string (⟨#[]⟩ : ByteArray)) := (blk_cell BK102.out 1).trans rfl; have hfz14_0 := blk_frozen BK102.out 0; have hfz14_1 := blk_frozen BK102.out 1; have p103 : 0 ≤ ((ji9) : Int) := of_decide_eq_true (by first | (with_reducible assumption) | assumption); have q103 : (ji9) < (l0.length : Int) := of_decide_eq_true (by first | (with_reducible assumption) | assumption); obtain ⟨ad103, e103, hx103_0, hx103_1⟩ := at_T46 HR0.out (ji9) p103 q103; obtain rfl : ad101 = ad103 := (by injection e103); have hn103_0 : ad101.block ≠ gb102 := Nat.ne_of_lt (Nat.lt_of_lt_of_le (by have := World.block_lt_of_cell? _ _ hx103_0; first | rwa [add_block] at this | exact this) GW102.out); have hn103_1 : ad101.block ≠ gb102 := Nat.ne_of_lt (Nat.lt_of_lt_of_le (by have := World.block_lt_of_cell? _ _ hx103_0; first | rwa [add_block] at this | exact this) GW102.out); replace hx103_0 := (HB.out.cell (World.block_lt_of_cell? w _ hx103_0)).trans hx103_0; replace hx103_1 := (HB.out.cell (World.block_lt_of_cell? w _ hx103_1)).trans hx103_1; replace hx103_0 := (cell_far (p := ⟨gb102, 0, none⟩) (by first | (rw [add_block]; exact hn103_0) | (show (Addr.add _ _).block ≠ _; rw [add_block]; exact hn103_0) | exact hn103_0) (.int .u64 ((rd_T46 l0 x7_1).f0))).trans hx103_0; replace hx103_1 := (cell_far (p := ⟨gb102, 0, none⟩) (by first | (rw [add_block]; exact hn103_0) | (show (Addr.add _ _).block ≠ _; rw [add_block]; exact hn103_0) | exact hn103_0) (.int .u64 ((rd_T46 l0 x7_1).f0))).trans hx103_1; replace hx103_0 := (cell_far (p := ⟨gb102, 1, none⟩) (by first | (rw [add_block]; exact hn103_1) | (show (Addr.add _ _).block ≠ _; rw [add_block]; exact hn103_1) | exact hn103_1) (.string ((rd_T46 l0 x7_1).f1))).trans hx103_0; replace hx103_1 := (cell_far (p := ⟨gb102, 1, none⟩) (by first | (rw [add_block]; exact hn103_1) | (show (Addr.add _ _).block ≠ _; rw [add_block]; exact hn103_1) | exact hn103_1) (.string ((rd_T46 l0 x7_1).f1))).trans hx103_1; (try have hy103_0 := fun (n_ : Nat) => (show ((((w13.drewN n_).setCell ⟨gb102, 0, none⟩ (.int .u64 ((rd_T46 l0 x7_1).f0))).setCell ⟨gb102, 1, none⟩ (.string ((rd_T46 l0 x7_1).f1)))).cell? _ = some _ from hx103_0)); (try have hy103_1 := fun (n_ : Nat) => (show ((((w13.drewN n_).setCell ⟨gb102, 0, none⟩ (.int .u64 ((rd_T46 l0 x7_1).f0))).setCell ⟨gb102, 1, none⟩ (.string ((rd_T46 l0 x7_1).f1)))).cell? _ = some _ from hx103_1)); clear hn103_0; clear hn103_1; replace p103 := eq_true p103; replace q103 := eq_true q103))
           repeat (go_quiet (first | ((with_reducible refine gate_dst (N := 4) rfl ?_); refine box_event ?hg (N := 4) ?hd (cs := #[.int .u64 0, .string (⟨#[]⟩ : ByteArray)]) (t := 46) ?hr ?_; (case hd => rfl); (case hg => rfl); (case hr => first | (go_simp; done) | (go_simp; rfl)); intro gb102 hg w13 hbox hb; have n0_ := Aside0.mk (below_step (by repeat (first | (with_reducible first | exact HB.out | apply below_alloc | apply pw_below_drewN | apply below_drew1) | exact HB.out)) hb); have n1_ := Aside0.mk (hbox); have n2_ := Aside0.mk ((by rw [hg]; exact (below_size (by repeat (first | (with_reducible first | exact HB.out | apply below_alloc | apply pw_below_drewN | apply below_drew1) | exact HB.out))) : w.heap.size ≤ gb102)); have n3_ := Aside0.mk ((by rw [hg]; exact (below_size (by repeat (first | (with_reducible first | exact HB.out | apply below_alloc | apply pw_below_drewN | apply below_drew1) | exact HB.out))) : w.heap.size ≤ gb102)); clear HB; have HB := n0_; have BK102 := n1_; have GW102 := n2_; have GE102 := n3_; clear n0_ n1_ n2_ n3_; clear hb hbox hg; have hcz14_0 : w13.cell? ⟨gb102, 0, none⟩ = some (.int .u64 0) := (blk_cell BK102.out 0).trans rfl; have hcz14_1 : w13.cell? ⟨gb102, 1, none⟩ = some (.string (⟨#[]⟩ : ByteArray)) := (blk_cell BK102.out 1).trans rfl; have hfz14_0 := blk_frozen BK102.out 0; have hfz14_1 := blk_frozen BK102.out 1; have p103 : 0 ≤ ((ji9) : Int) := of_decide_eq_true (by first | (with_reducible assumption) | assumption); have q103 : (ji9) < (l0.length : Int) := of_decide_eq_true (by first | (with_reducible assumption) | assumption); obtain ⟨ad103, e103, hx103_0, hx103_1⟩ := at_T46 HR0.out (ji9) p103 q103; obtain rfl : ad101 = ad103 := (by injection e103); have hn103_0 : ad101.block ≠ gb102 := Nat.ne_of_lt (Nat.lt_of_lt_of_le (by have := World.block_lt_of_cell? _ _ hx103_0; first | rwa [add_block] at this | exact this) GW102.out); have hn103_1 : ad101.block ≠ gb102 := Nat.ne_of_lt (Nat.lt_of_lt_of_le (by have := World.block_lt_of_cell? _ _ hx103_0; first | rwa [add_block] at this | exact this) GW102.out); replace hx103_0 := (HB.out.cell (World.block_lt_of_cell? w _ hx103_0)).trans hx103_0; replace hx103_1 := (HB.out.cell (World.block_lt_of_cell? w _ hx103_1)).trans hx103_1; replace hx103_0 := (cell_far (p := ⟨gb102, 0, none⟩) (by first | (rw [add_block]; exact hn103_0) | (show (Addr.add _ _).block ≠ _; rw [add_block]; exact hn103_0) | exact hn103_0) (.int .u64 ((rd_T46 l0 x7_1).f0))).trans hx103_0; replace hx103_1 := (cell_far (p := ⟨gb102, 0, none⟩) (by first | (rw [add_block]; exact hn103_0) | (show (Addr.add _ _).block ≠ _; rw [add_block]; exact hn103_0) | exact hn103_0) (.int .u64 ((rd_T46 l0 x7_1).f0))).trans hx103_1; replace hx103_0 := (cell_far (p := ⟨gb102, 1, none⟩) (by first | (rw [add_block]; exact hn103_1) | (show (Addr.add _ _).block ≠ _; rw [add_block]; exact hn103_1) | exact hn103_1) (.string ((rd_T46 l0 x7_1).f1))).trans hx103_0; replace hx103_1 := (cell_far (p := ⟨gb102, 1, none⟩) (by first | (rw [add_block]; exact hn103_1) | (show (Addr.add _ _).block ≠ _; rw [add_block]; exact hn103_1) | exact hn103_1) (.string ((rd_T46 l0 x7_1).f1))).trans hx103_1; (try have hy103_0 := fun (n_ : Nat) => (show ((((w13.drewN n_).setCell ⟨gb102, 0, none⟩ (.int .u64 ((rd_T46 l0 x7_1).f0))).setCell ⟨gb102, 1, none⟩ (.string ((rd_T46 l0 x7_1).f1)))).cell? _ = some _ from hx103_0)); (try have hy103_1 := fun (n_ : Nat) => (show ((((w13.drewN n_).setCell ⟨gb102, 0, none⟩ (.int .u64 ((rd_T46 l0 x7_1).f0))).setCell ⟨gb102, 1, none⟩ (.string ((rd_T46 l0 x7_1).f1)))).cell? _ = some _ from hx103_1)); clear hn103_0; clear hn103_1; replace p103 := eq_true p103; replace q103 := eq_true q103)); try go_wp2_with (first | ((with_reducible refine gate_dst (N := 4) rfl ?_); refine box_event ?hg (N := 4) ?hd (cs := #[.int .u64 0, .string (⟨#[]⟩ : ByteArray)]) (t := 46) ?hr ?_; (case hd => rfl); (case hg => rfl); (case hr => first | (go_simp; done) | (go_simp; rfl)); intro gb102 hg w13 hbox hb; have n0_ := Aside0.mk (below_step (by repeat (first | (with_reducible first | exact HB.out | apply below_alloc | apply pw_below_drewN | apply below_drew1) | exact HB.out)) hb); have n1_ := Aside0.mk (hbox); have n2_ := Aside0.mk ((by rw [hg]; exact (below_size (by repeat (first | (with_reducible first | exact HB.out | apply below_alloc | apply pw_below_drewN | apply below_drew1) | exact HB.out))) : w.heap.size ≤ gb102)); have n3_ := Aside0.mk ((by rw [hg]; exact (below_size (by repeat (first | (with_reducible first | exact HB.out | apply below_alloc | apply pw_below_drewN | apply below_drew1) | exact HB.out))) : w.heap.size ≤ gb102)); clear HB; have HB := n0_; have BK102 := n1_; have GW102 := n2_; have GE102 := n3_; clear n0_ n1_ n2_ n3_; clear hb hbox hg; have hcz14_0 : w13.cell? ⟨gb102, 0, none⟩ = some (.int .u64 0) := (blk_cell BK102.out 0).trans rfl; have hcz14_1 : w13.cell? ⟨gb102, 1, none⟩ = some (.string (⟨#[]⟩ : ByteArray)) := (blk_cell BK102.out 1).trans rfl; have hfz14_0 := blk_frozen BK102.out 0; have hfz14_1 := blk_frozen BK102.out 1; have p103 : 0 ≤ ((ji9) : Int) := of_decide_eq_true (by first | (with_reducible assumption) | assumption); have q103 : (ji9) < (l0.length : Int) := of_decide_eq_true (by first | (with_reducible assumption) | assumption); obtain ⟨ad103, e103, hx103_0, hx103_1⟩ := at_T46 HR0.out (ji9) p103 q103; obtain rfl : ad101 = ad103 := (by injection e103); have hn103_0 : ad101.block ≠ gb102 := Nat.ne_of_lt (Nat.lt_of_lt_of_le (by have := World.block_lt_of_cell? _ _ hx103_0; first | rwa [add_block] at this | exact this) GW102.out); have hn103_1 : ad101.block ≠ gb102 := Nat.ne_of_lt (Nat.lt_of_lt_of_le (by have := World.block_lt_of_cell? _ _ hx103_0; first | rwa [add_block] at this | exact this) GW102.out); replace hx103_0 := (HB.out.cell (World.block_lt_of_cell? w _ hx103_0)).trans hx103_0; replace hx103_1 := (HB.out.cell (World.block_lt_of_cell? w _ hx103_1)).trans hx103_1; replace hx103_0 := (cell_far (p := ⟨gb102, 0, none⟩) (by first | (rw [add_block]; exact hn103_0) | (show (Addr.add _ _).block ≠ _; rw [add_block]; exact hn103_0) | exact hn103_0) (.int .u64 ((rd_T46 l0 x7_1).f0))).trans hx103_0; replace hx103_1 := (cell_far (p := ⟨gb102, 0, none⟩) (by first | (rw [add_block]; exact hn103_0) | (show (Addr.add _ _).block ≠ _; rw [add_block]; exact hn103_0) | exact hn103_0) (.int .u64 ((rd_T46 l0 x7_1).f0))).trans hx103_1; replace hx103_0 := (cell_far (p := ⟨gb102, 1, none⟩) (by first | (rw [add_block]; exact hn103_1) | (show (Addr.add _ _).block ≠ _; rw [add_block]; exact hn103_1) | exact hn103_1) (.string ((rd_T46 l0 x7_1).f1))).trans hx103_0; replace hx103_1 := (cell_far (p := ⟨gb102, 1, none⟩) (by first | (rw [add_block]; exact hn103_1) | (show (Addr.add _ _).block ≠ _; rw [add_block]; exact hn103_1) | exact hn103_1) (.string ((rd_T46 l0 x7_1).f1))).trans hx103_1; (try have hy103_0 := fun (n_ : Nat) => (show ((((w13.drewN n_).setCell ⟨gb102, 0, none⟩ (.int .u64 ((rd_T46 l0 x7_1).f0))).setCell ⟨gb102, 1, none⟩ (.string ((rd_T46 l0 x7_1).f1)))).cell? _ = some _ from hx103_0)); (try have hy103_1 := fun (n_ : Nat) => (show ((((w13.drewN n_).setCell ⟨gb102, 0, none⟩ (.int .u64 ((rd_T46 l0 x7_1).f0))).setCell ⟨gb102, 1, none⟩ (.string ((rd_T46 l0 x7_1).f1)))).cell? _ = some _ from hx103_1)); clear hn103_0; clear hn103_1; replace p103 := eq_true p103; replace q103 := eq_true q103)))
           go_ret
           exact ⟨by first | rfl | (simp [errW_none, errW_some] <;> rfl) | (simp only [← hji9]; first | rfl | (simp [errW_none, errW_some] <;> rfl)) | (simp [*, errW_none, errW_some] <;> rfl), by repeat (first | (with_reducible first | exact HB.out | apply below_alloc | apply pw_below_drewN | apply below_drew1 | refine below_set ?_ GE102.out) | exact HB.out)⟩
          ·rw [if_neg c12] at H
           have c12b0 : decide (((rd_T46 l0 x7_1).f0) ≤ ((rd_T46 l0 (ji9)).f0)) = false := decide_eq_false c12
           clear c12
           have H' := Aside0.mk H
           clear H
           have p101 : 0 ≤ (x7_1 : Int) := of_decide_eq_true (by first | (with_reducible assumption) | assumption)
           have q101 : x7_1 < (l0.length : Int) := of_decide_eq_true (by first | (with_reducible assumption) | assumption)
           obtain ⟨ad101, e101, hx101_0, hx101_1⟩ := at_T46 HR0.out x7_1 p101 q101
           cases e101
           replace hx101_0 := (HB.out.cell (World.block_lt_of_cell? w _ hx101_0)).trans hx101_0
           replace hx101_1 := (HB.out.cell (World.block_lt_of_cell? w _ hx101_1)).trans hx101_1
           replace p101 := eq_true p101
           replace q101 := eq_true q101
           go_wp2_with (first | ((with_reducible refine gate_dst (N := 4) rfl ?_); refine box_event ?hg (N := 4) ?hd (cs := #[.int .u64 0, .string (⟨#[]⟩ : ByteArray)]) (t := 46) ?hr ?_; (case hd => rfl); (case hg => rfl); (case hr => first | (go_simp; done) | (go_simp; rfl)); intro gb102 hg w15 hbox hb; have n0_ := Aside0.mk (below_step (by repeat (first | (with_reducible first | exact HB.out | apply below_alloc | apply pw_below_drewN | apply below_drew1) | exact HB.out)) hb); have n1_ := Aside0.mk (hbox); have n2_ := Aside0.mk ((by rw [hg]; exact (below_size (by repeat (first | (with_reducible first | exact HB.out | apply below_alloc | apply pw_below_drewN | apply below_drew1) | exact HB.out))) : w.heap.size ≤ gb102)); have n3_ := Aside0.mk ((by rw [hg]; exact (below_size (by repeat (first | (with_reducible first | exact HB.out | apply below_alloc | apply pw_below_drewN | apply below_drew1) | exact HB.out))) : w.heap.size ≤ gb102)); clear HB; have HB := n0_; have BK102 := n1_; have GW102 := n2_; have GE102 := n3_; clear n0_ n1_ n2_ n3_; clear hb hbox hg; have hcz16_0 : w15.cell? ⟨gb102, 0, none⟩ = some (.int .u64 0) := (blk_cell BK102.out 0).trans rfl; have hcz16_1 : w15.cell? ⟨gb102, 1, none⟩ = some (.string (⟨#[]⟩ : ByteArray)) := (blk_cell BK102.out 1).trans rfl; have hfz16_0 := blk_frozen BK102.out 0; have hfz16_1 := blk_frozen BK102.out 1; have p103 : 0 ≤ ((ji9) : Int) := of_decide_eq_true (by first | (with_reducible assumption) | assumption); have q103 : (ji9) < (l0.length : Int) := of_decide_eq_true (by first | (with_reducible assumption) | assumption); obtain ⟨ad103, e103, hx103_0, hx103_1⟩ := at_T46 HR0.out (ji9) p103 q103; obtain rfl : ad101 = ad103 := (by injection e103); have hn103_0 : ad101.block ≠ gb102 := Nat.ne_of_lt (Nat.lt_of_lt_of_le (by have := World.block_lt_of_cell? _ _ hx103_0; first | rwa [add_block] at this | exact this) GW102.out); have hn103_1 : ad101.block ≠ gb102 := Nat.ne_of_lt (Nat.lt_of_lt_of_le (by have := World.block_lt_of_cell? _ _ hx103_0; first | rwa [add_block] at this | exact this) GW102.out); replace hx103_0 := (HB.out.cell (World.block_lt_of_cell? w _ hx103_0)).trans hx103_0; replace hx103_1 := (HB.out.cell (World.block_lt_of_cell? w _ hx103_1)).trans hx103_1; replace hx103_0 := (cell_far (p := ⟨gb102, 0, none⟩) (by first | (rw [add_block]; exact hn103_0) | (show (Addr.add _ _).block ≠ _; rw [add_block]; exact hn103_0) | exact hn103_0) (.int .u64 ((rd_T46 l0 x7_1).f0))).trans hx103_0; replace hx103_1 := (cell_far (p := ⟨gb102, 0, none⟩) (by first | (rw [add_block]; exact hn103_0) | (show (Addr.add _ _).block ≠ _; rw [add_block]; exact hn103_0) | exact hn103_0) (.int .u64 ((rd_T46 l0 x7_1).f0))).trans hx103_1; replace hx103_0 := (cell_far (p := ⟨gb102, 1, none⟩) (by first | (rw [add_block]; exact hn103_1) | (show (Addr.add _ _).block ≠ _; rw [add_block]; exact hn103_1) | exact hn103_1) (.string ((rd_T46 l0 x7_1).f1))).trans hx103_0; replace hx103_1 := (cell_far (p := ⟨gb102, 1, none⟩) (by first | (rw [add_block]; exact hn103_1) | (show (Addr.add _ _).block ≠ _; rw [add_block]; exact hn103_1) | exact hn103_1) (.string ((rd_T46 l0 x7_1).f1))).trans hx103_1; (try have hy103_0 := fun (n_ : Nat) => (show ((((w15.drewN n_).setCell ⟨gb102, 0, none⟩ (.int .u64 ((rd_T46 l0 x7_1).f0))).setCell ⟨gb102, 1, none⟩ (.string ((rd_T46 l0 x7_1).f1)))).cell? _ = some _ from hx103_0)); (try have hy103_1 := fun (n_ : Nat) => (show ((((w15.drewN n_).setCell ⟨gb102, 0, none⟩ (.int .u64 ((rd_T46 l0 x7_1).f0))).setCell ⟨gb102, 1, none⟩ (.string ((rd_T46 l0 x7_1).f1)))).cell? _ = some _ from hx103_1)); clear hn103_0; clear hn103_1; replace p103 := eq_true p103; replace q103 := eq_true q103))
           repeat (go_quiet (first | ((with_reducible refine gate_dst (N := 4) rfl ?_); refine box_event ?hg (N := 4) ?hd (cs := #[.int .u64 0, .string (⟨#[]⟩ : ByteArray)]) (t := 46) ?hr ?_; (case hd => rfl); (case hg => rfl); (case hr => first | (go_simp; done) | (go_simp; rfl)); intro gb102 hg w15 hbox hb; have n0_ := Aside0.mk (below_step (by repeat (first | (with_reducible first | exact HB.out | apply below_alloc | apply pw_below_drewN | apply below_drew1) | exact HB.out)) hb); have n1_ := Aside0.mk (hbox); have n2_ := Aside0.mk ((by rw [hg]; exact (below_size (by repeat (first | (with_reducible first | exact HB.out | apply below_alloc | apply pw_below_drewN | apply below_drew1) | exact HB.out))) : w.heap.size ≤ gb102)); have n3_ := Aside0.mk ((by rw [hg]; exact (below_size (by repeat (first | (with_reducible first | exact HB.out | apply below_alloc | apply pw_below_drewN | apply below_drew1) | exact HB.out))) : w.heap.size ≤ gb102)); clear HB; have HB := n0_; have BK102 := n1_; have GW102 := n2_; have GE102 := n3_; clear n0_ n1_ n2_ n3_; clear hb hbox hg; have hcz16_0 : w15.cell? ⟨gb102, 0, none⟩ = some (.int .u64 0) := (blk_cell BK102.out 0).trans rfl; have hcz16_1 : w15.cell? ⟨gb102, 1, none⟩ = some (.string (⟨#[]⟩ : ByteArray)) := (blk_cell BK102.out 1).trans rfl; have hfz16_0 := blk_frozen BK102.out 0; have hfz16_1 := blk_frozen BK102.out 1; have p103 : 0 ≤ ((ji9) : Int) := of_decide_eq_true (by first | (with_reducible assumption) | assumption); have q103 : (ji9) < (l0.length : Int) := of_decide_eq_true (by first | (with_reducible assumption) | assumption); obtain ⟨ad103, e103, hx103_0, hx103_1⟩ := at_T46 HR0.out (ji9) p103 q103; obtain rfl : ad101 = ad103 := (by injection e103); have hn103_0 : ad101.block ≠ gb102 := Nat.ne_of_lt (Nat.lt_of_lt_of_le (by have := World.block_lt_of_cell? _ _ hx103_0; first | rwa [add_block] at this | exact this) GW102.out); have hn103_1 : ad101.block ≠ gb102 := Nat.ne_of_lt (Nat.lt_of_lt_of_le (by have := World.block_lt_of_cell? _ _ hx103_0; first | rwa [add_block] at this | exact this) GW102.out); replace hx103_0 := (HB.out.cell (World.block_lt_of_cell? w _ hx103_0)).trans hx103_0; replace hx103_1 := (HB.out.cell (World.block_lt_of_cell? w _ hx103_1)).trans hx103_1; replace hx103_0 := (cell_far (p := ⟨gb102, 0, none⟩) (by first | (rw [add_block]; exact hn103_0) | (show (Addr.add _ _).block ≠ _; rw [add_block]; exact hn103_0) | exact hn103_0) (.int .u64 ((rd_T46 l0 x7_1).f0))).trans hx103_0; replace hx103_1 := (cell_far (p := ⟨gb102, 0, none⟩) (by first | (rw [add_block]; exact hn103_0) | (show (Addr.add _ _).block ≠ _; rw [add_block]; exact hn103_0) | exact hn103_0) (.int .u64 ((rd_T46 l0 x7_1).f0))).trans hx103_1; replace hx103_0 := (cell_far (p := ⟨gb102, 1, none⟩) (by first | (rw [add_block]; exact hn103_1) | (show (Addr.add _ _).block ≠ _; rw [add_block]; exact hn103_1) | exact hn103_1) (.string ((rd_T46 l0 x7_1).f1))).trans hx103_0; replace hx103_1 := (cell_far (p := ⟨gb102, 1, none⟩) (by first | (rw [add_block]; exact hn103_1) | (show (Addr.add _ _).block ≠ _; rw [add_block]; exact hn103_1) | exact hn103_1) (.string ((rd_T46 l0 x7_1).f1))).trans hx103_1; (try have hy103_0 := fun (n_ : Nat) => (show ((((w15.drewN n_).setCell ⟨gb102, 0, none⟩ (.int .u64 ((rd_T46 l0 x7_1).f0))).setCell ⟨gb102, 1, none⟩ (.string ((rd_T46 l0 x7_1).f1)))).cell? _ = some _ from hx103_0)); (try have hy103_1 := fun (n_ : Nat) => (show ((((w15.drewN n_).setCell ⟨gb102, 0, none⟩ (.int .u64 ((rd_T46 l0 x7_1).f0))).setCell ⟨gb102, 1, none⟩ (.string ((rd_T46 l0 x7_1).f1)))).cell? _ = some _ from hx103_1)); clear hn103_0; clear hn103_1; replace p103 := eq_true p103; replace q103 := eq_true q103)); try go_wp2_with (first | ((with_reducible refine gate_dst (N := 4) rfl ?_); refine box_event ?hg (N := 4) ?hd (cs := #[.int .u64 0, .string (⟨#[]⟩ : ByteArray)]) (t := 46) ?hr ?_; (case hd => rfl); (case hg => rfl); (case hr => first | (go_simp; done) | (go_simp; rfl)); intro gb102 hg w15 hbox hb; have n0_ := Aside0.mk (below_step (by repeat (first | (with_reducible first | exact HB.out | apply below_alloc | apply pw_below_drewN | apply below_drew1) | exact HB.out)) hb); have n1_ := Aside0.mk (hbox); have n2_ := Aside0.mk ((by rw [hg]; exact (below_size (by repeat (first | (with_reducible first | exact HB.out | apply below_alloc | apply pw_below_drewN | apply below_drew1) | exact HB.out))) : w.heap.size ≤ gb102)); have n3_ := Aside0.mk ((by rw [hg]; exact (below_size (by repeat (first | (with_reducible first | exact HB.out | apply below_alloc | apply pw_below_drewN | apply below_drew1) | exact HB.out))) : w.heap.size ≤ gb102)); clear HB; have HB := n0_; have BK102 := n1_; have GW102 := n2_; have GE102 := n3_; clear n0_ n1_ n2_ n3_; clear hb hbox hg; have hcz16_0 : w15.cell? ⟨gb102, 0, none⟩ = some (.int .u64 0) := (blk_cell BK102.out 0).trans rfl; have hcz16_1 : w15.cell? ⟨gb102, 1, none⟩ = some (.string (⟨#[]⟩ : ByteArray)) := (blk_cell BK102.out 1).trans rfl; have hfz16_0 := blk_frozen BK102.out 0; have hfz16_1 := blk_frozen BK102.out 1; have p103 : 0 ≤ ((ji9) : Int) := of_decide_eq_true (by first | (with_reducible assumption) | assumption); have q103 : (ji9) < (l0.length : Int) := of_decide_eq_true (by first | (with_reducible assumption) | assumption); obtain ⟨ad103, e103, hx103_0, hx103_1⟩ := at_T46 HR0.out (ji9) p103 q103; obtain rfl : ad101 = ad103 := (by injection e103); have hn103_0 : ad101.block ≠ gb102 := Nat.ne_of_lt (Nat.lt_of_lt_of_le (by have := World.block_lt_of_cell? _ _ hx103_0; first | rwa [add_block] at this | exact this) GW102.out); have hn103_1 : ad101.block ≠ gb102 := Nat.ne_of_lt (Nat.lt_of_lt_of_le (by have := World.block_lt_of_cell? _ _ hx103_0; first | rwa [add_block] at this | exact this) GW102.out); replace hx103_0 := (HB.out.cell (World.block_lt_of_cell? w _ hx103_0)).trans hx103_0; replace hx103_1 := (HB.out.cell (World.block_lt_of_cell? w _ hx103_1)).trans hx103_1; replace hx103_0 := (cell_far (p := ⟨gb102, 0, none⟩) (by first | (rw [add_block]; exact hn103_0) | (show (Addr.add _ _).block ≠ _; rw [add_block]; exact hn103_0) | exact hn103_0) (.int .u64 ((rd_T46 l0 x7_1).f0))).trans hx103_0; replace hx103_1 := (cell_far (p := ⟨gb102, 0, none⟩) (by first | (rw [add_block]; exact hn103_0) | (show (Addr.add _ _).block ≠ _; rw [add_block]; exact hn103_0) | exact hn103_0) (.int .u64 ((rd_T46 l0 x7_1).f0))).trans hx103_1; replace hx103_0 := (cell_far (p := ⟨gb102, 1, none⟩) (by first | (rw [add_block]; exact hn103_1) | (show (Addr.add _ _).block ≠ _; rw [add_block]; exact hn103_1) | exact hn103_1) (.string ((rd_T46 l0 x7_1).f1))).trans hx103_0; replace hx103_1 := (cell_far (p := ⟨gb102, 1, none⟩) (by first | (rw [add_block]; exact hn103_1) | (show (Addr.add _ _).block ≠ _; rw [add_block]; exact hn103_1) | exact hn103_1) (.string ((rd_T46 l0 x7_1).f1))).trans hx103_1; (try have hy103_0 := fun (n_ : Nat) => (show ((((w15.drewN n_).setCell ⟨gb102, 0, none⟩ (.int .u64 ((rd_T46 l0 x7_1).f0))).setCell ⟨gb102, 1, none⟩ (.string ((rd_T46 l0 x7_1).f1)))).cell? _ = some _ from hx103_0)); (try have hy103_1 := fun (n_ : Nat) => (show ((((w15.drewN n_).setCell ⟨gb102, 0, none⟩ (.int .u64 ((rd_T46 l0 x7_1).f0))).setCell ⟨gb102, 1, none⟩ (.string ((rd_T46 l0 x7_1).f1)))).cell? _ = some _ from hx103_1)); clear hn103_0; clear hn103_1; replace p103 := eq_true p103; replace q103 := eq_true q103)))
           go_roundg k1
           case measure => have := HK1.out; omega
           case rel => exact ⟨(wrap64 (x7_1 + 1)), (by first | rfl | (simp; done) | (simp [*]; done)), H', ⟨by have := HK1.out; omega⟩, ⟨by repeat (first | (with_reducible first | exact HB.out | apply below_alloc | apply pw_below_drewN | apply below_drew1 | refine below_set ?_ GE102.out) | exact HB.out)⟩⟩
         ·rw [if_neg c11] at H
          exact absurd H (by simp)
        ·rw [if_neg c10] at H
         exact absurd H (by simp)
       ·rw [if_neg c8] at H
        have c8b0 : decide (0 < x7_1) = false := decide_eq_false c8
        clear c8
        have H' := Aside0.mk H
        clear H
        have p101 : 0 ≤ (x7_1 : Int) := of_decide_eq_true (by first | (with_reducible assumption) | assumption)
        have q101 : x7_1 < (l0.length : Int) := of_decide_eq_true (by first | (with_reducible assumption) | assumption)
        obtain ⟨ad101, e101, hx101_0, hx101_1⟩ := at_T46 HR0.out x7_1 p101 q101
        cases e101
        replace hx101_0 := (HB.out.cell (World.block_lt_of_cell? w _ hx101_0)).trans hx101_0
        replace hx101_1 := (HB.out.cell (World.block_lt_of_cell? w _ hx101_1)).trans hx101_1
        replace p101 := eq_true p101
        replace q101 := eq_true q101
        go_wp2_with (first | ((with_reducible refine gate_dst (N := 4) rfl ?_); refine box_event ?hg (N := 4) ?hd (cs := #[.int .u64 0, .string (⟨#[]⟩ : ByteArray)]) (t := 46) ?hr ?_; (case hd => rfl); (case hg => rfl); (case hr => first | (go_simp; done) | (go_simp; rfl)); intro gb102 hg w17 hbox hb; have n0_ := Aside0.mk (below_step (by repeat (first | (with_reducible first | exact HB.out | apply below_alloc | apply pw_below_drewN | apply below_drew1) | exact HB.out)) hb); have n1_ := Aside0.mk (hbox); have n2_ := Aside0.mk ((by rw [hg]; exact (below_size (by repeat (first | (with_reducible first | exact HB.out | apply below_alloc | apply pw_below_drewN | apply below_drew1) | exact HB.out))) : w.heap.size ≤ gb102)); have n3_ := Aside0.mk ((by rw [hg]; exact (below_size (by repeat (first | (with_reducible first | exact HB.out | apply below_alloc | apply pw_below_drewN | apply below_drew1) | exact HB.out))) : w.heap.size ≤ gb102)); clear HB; have HB := n0_; have BK102 := n1_; have GW102 := n2_; have GE102 := n3_; clear n0_ n1_ n2_ n3_; clear hb hbox hg; have hcz18_0 : w17.cell? ⟨gb102, 0, none⟩ = some (.int .u64 0) := (blk_cell BK102.out 0).trans rfl; have hcz18_1 : w17.cell? ⟨gb102, 1, none⟩ = some (.string (⟨#[]⟩ : ByteArray)) := (blk_cell BK102.out 1).trans rfl; have hfz18_0 := blk_frozen BK102.out 0; have hfz18_1 := blk_frozen BK102.out 1))
        repeat (go_quiet (first | ((with_reducible refine gate_dst (N := 4) rfl ?_); refine box_event ?hg (N := 4) ?hd (cs := #[.int .u64 0, .string (⟨#[]⟩ : ByteArray)]) (t := 46) ?hr ?_; (case hd => rfl); (case hg => rfl); (case hr => first | (go_simp; done) | (go_simp; rfl)); intro gb102 hg w17 hbox hb; have n0_ := Aside0.mk (below_step (by repeat (first | (with_reducible first | exact HB.out | apply below_alloc | apply pw_below_drewN | apply below_drew1) | exact HB.out)) hb); have n1_ := Aside0.mk (hbox); have n2_ := Aside0.mk ((by rw [hg]; exact (below_size (by repeat (first | (with_reducible first | exact HB.out | apply below_alloc | apply pw_below_drewN | apply below_drew1) | exact HB.out))) : w.heap.size ≤ gb102)); have n3_ := Aside0.mk ((by rw [hg]; exact (below_size (by repeat (first | (with_reducible first | exact HB.out | apply below_alloc | apply pw_below_drewN | apply below_drew1) | exact HB.out))) : w.heap.size ≤ gb102)); clear HB; have HB := n0_; have BK102 := n1_; have GW102 := n2_; have GE102 := n3_; clear n0_ n1_ n2_ n3_; clear hb hbox hg; have hcz18_0 : w17.cell? ⟨gb102, 0, none⟩ = some (.int .u64 0) := (blk_cell BK102.out 0).trans rfl; have hcz18_1 : w17.cell? ⟨gb102, 1, none⟩ = some (.string (⟨#[]⟩ : ByteArray)) := (blk_cell BK102.out 1).trans rfl; have hfz18_0 := blk_frozen BK102.out 0; have hfz18_1 := blk_frozen BK102.out 1)); try go_wp2_with (first | ((with_reducible refine gate_dst (N := 4) rfl ?_); refine box_event ?hg (N := 4) ?hd (cs := #[.int .u64 0, .string (⟨#[]⟩ : ByteArray)]) (t := 46) ?hr ?_; (case hd => rfl); (case hg => rfl); (case hr => first | (go_simp; done) | (go_simp; rfl)); intro gb102 hg w17 hbox hb; have n0_ := Aside0.mk (below_step (by repeat (first | (with_reducible first | exact HB.out | apply below_alloc | apply pw_below_drewN | apply below_drew1) | exact HB.out)) hb); have n1_ := Aside0.mk (hbox); have n2_ := Aside0.mk ((by rw [hg]; exact (below_size (by repeat (first | (with_reducible first | exact HB.out | apply below_alloc | apply pw_below_drewN | apply below_drew1) | exact HB.out))) : w.heap.size ≤ gb102)); have n3_ := Aside0.mk ((by rw [hg]; exact (below_size (by repeat (first | (with_reducible first | exact HB.out | apply below_alloc | apply pw_below_drewN | apply below_drew1) | exact HB.out))) : w.heap.size ≤ gb102)); clear HB; have HB := n0_; have BK102 := n1_; have GW102 := n2_; have GE102 := n3_; clear n0_ n1_ n2_ n3_; clear hb hbox hg; have hcz18_0 : w17.cell? ⟨gb102, 0, none⟩ = some (.int .u64 0) := (blk_cell BK102.out 0).trans rfl; have hcz18_1 : w17.cell? ⟨gb102, 1, none⟩ = some (.string (⟨#[]⟩ : ByteArray)) := (blk_cell BK102.out 1).trans rfl; have hfz18_0 := blk_frozen BK102.out 0; have hfz18_1 := blk_frozen BK102.out 1)))
        go_roundg k1
        case measure => have := HK1.out; omega
        case rel => exact ⟨(wrap64 (x7_1 + 1)), (by first | rfl | (simp; done) | (simp [*]; done)), H', ⟨by have := HK1.out; omega⟩, ⟨by repeat (first | (with_reducible first | exact HB.out | apply below_alloc | apply pw_below_drewN | apply below_drew1 | refine below_set ?_ GE102.out) | exact HB.out)⟩⟩
     ·rw [if_neg c4] at H
      exact absurd H (by simp)
    ·rw [if_neg c3] at H
     exact absurd H (by simp)
   ·rw [if_neg c2] at H
    have c2b0 : decide (x7_1 < (l0.length : Int)) = false := decide_eq_false c2
    clear c2
    obtain rfl := Option.some.inj H
    go_wp2
    repeat (go_quiet (fail); try go_wp2)
    go_ret
    exact ⟨by first | rfl | (simp [errW_none, errW_some] <;> rfl) | (simp [*, errW_none, errW_some] <;> rfl), by repeat (first | (with_reducible first | exact HB.out | apply below_alloc | apply pw_below_drewN | apply below_drew1) | exact HB.out)⟩
/-! ### skip_Find: function 24 -/
end Go.Proofs.YtolbhliepkcihaaDoor.QSF
end
section
namespace Go.Proofs.YtolbhliepkcihaaDoor.Skip
open Go.RowKit Go.Proofs.YtolbhliepkcihaaDoor.Kinds Go.Proofs.YtolbhliepkcihaaDoor.QSF Go.Proofs.YtolbhliepkcihaaDoorW.PrintWords Go.Proofs.YtolbhliepkcihaaDoorW.PrintLast Go.Proofs.YtolbhliepkcihaaDoorW.PrintMore Go.Proofs.YtolbhliepkcihaaDoor.Sha Go.Proofs.YtolbhliepkcihaaDoor.Mac Go.Proofs.YtolbhliepkcihaaDoor.Codec Go.Proofs.YtolbhliepkcihaaDoor.Tower
def cmpI (a b : Int) : Int := if a < b then -1 else if b < a then 1 else 0
theorem nan_any (a : Int) (w : World) : Calls Tryd.prog 128 #[.int .u64 a] w fun e w' => e = .returned (.bool false) ∧ w' = w := by
 go_enter Tryd.func128, Tryd.ntmps128
 go_wp2
 go_ret
 exact ⟨by simp, rfl⟩
set_option maxRecDepth 100000 in
theorem cmp_any (a b : Int) (w : World) : Calls Tryd.prog 106 #[.int .u64 a, .int .u64 b] w fun e w' => e = .returned (.int .i64 (cmpI a b)) ∧ w' = w := by
 have H1 := nan_any a
 have H2 := nan_any b
 unfold cmpI
 by_cases h1 : a < b
 ·rw [if_pos h1]
  go_enter Tryd.func106, Tryd.ntmps106
  go_wp2_with (first | (go_at_call 128; refine (H1 _).mono ?_; rintro e w1 ⟨rfl, rfl⟩) | (go_at_call 128; refine (H2 _).mono ?_; rintro e w1 ⟨rfl, rfl⟩))
  go_ret
  exact ⟨rfl, rfl⟩
 ·rw [if_neg h1]
  have d1 : decide (a < b) = false := decide_eq_false h1
  by_cases h2 : b < a
  ·rw [if_pos h2]
   go_enter Tryd.func106, Tryd.ntmps106
   go_wp2_with (first | (go_at_call 128; refine (H1 _).mono ?_; rintro e w1 ⟨rfl, rfl⟩) | (go_at_call 128; refine (H2 _).mono ?_; rintro e w1 ⟨rfl, rfl⟩))
   go_ret
   exact ⟨rfl, rfl⟩
  ·rw [if_neg h2]
   have d2 : decide (b < a) = false := decide_eq_false h2
   go_enter Tryd.func106, Tryd.ntmps106
   go_wp2_with (first | (go_at_call 128; refine (H1 _).mono ?_; rintro e w1 ⟨rfl, rfl⟩) | (go_at_call 128; refine (H2 _).mono ?_; rintro e w1 ⟨rfl, rfl⟩))
   go_ret
   exact ⟨rfl, rfl⟩
theorem item_cmp (a : Int) (s : ByteArray) (q : Int) (w : World) : Calls Tryd.prog 105 #[.agg #[.int .u64 a, .string s], .int .u64 q] w fun e w' => e = .returned (.int .i64 (cmpI a q)) ∧ Below w.heap.size w w' := by
 have H := cmp_any a q
 go_enter Tryd.func105, Tryd.ntmps105
 go_wp2_with (go_at_call 106; refine (H _).mono ?_; rintro e w1 ⟨rfl, rfl⟩)
 go_ret
 exact ⟨rfl, below_alloc (Below.refl _ _) _⟩
def bsI (l : List S46) (q : Int) : Nat → Nat → Nat → Nat
 | 0, i, _ => i
 | f + 1, i, j => if i < j then (if (rd_T46 l (((i + j) / 2 : Nat) : Int)).f0 < q then bsI l q f ((i + j) / 2 + 1) j else bsI l q f i ((i + j) / 2)) else i
theorem bsI_le (l : List S46) (q : Int) (n : Nat) : ∀ f i j, i ≤ j → j ≤ n → bsI l q f i j ≤ n
 | 0, i, j, h1, h2 => by show i ≤ n; omega
 | f + 1, i, j, h1, h2 => by
  unfold bsI
  split
  ·split
   ·exact bsI_le l q n f _ _ (by omega) h2
   ·exact bsI_le l q n f _ _ (by omega) (by omega)
  ·omega
def placeN (l : List S46) (q : Int) : Nat := bsI l q l.length 0 l.length
def placeIs (l : List S46) (q : Int) : Bool := decide (placeN l q < l.length ∧ (rd_T46 l (placeN l q : Int)).f0 = q)
theorem placeN_le (l : List S46) (q : Int) : placeN l q ≤ l.length := bsI_le l q _ _ _ _ (by omega) (Nat.le_refl _)
set_option maxRecDepth 100000 in
set_option maxHeartbeats 4000000 in
theorem search_any (A0 : Option Addr) (c0 : Nat) (l : List S46) (q : Int) (w : World) (hr0 : Kd.C k46 w A0 l.length l) (hc0 : l.length ≤ c0) (hn : l.length ≤ 1000000000) :
  Calls Tryd.prog 104 #[.slice A0 l.length c0, .int .u64 q, .func (.func 105) #[] #[]] w fun e w' =>
   e = .returned (.tuple #[.int .i64 (placeN l q : Nat), .bool (placeIs l q)]) ∧ Below w.heap.size w w' := by
 have hu46 := Tryd.underlying46
 have HR0 := Aside0.mk hr0
 have HC0 := Aside0.mk hc0
 clear hr0 hc0
 have HB := Aside0.mk (Below.refl w.heap.size w)
 go_enter Tryd.func104, Tryd.ntmps104
 go_wp2
 go_loopw [9, 10] (fun iv jv wr => ∃ i j f : Nat, iv = .int .i64 i ∧ jv = .int .i64 j ∧ Aside0 (i ≤ j ∧ j ≤ l.length ∧ j - i ≤ f ∧ bsI l q f i j = placeN l q) ∧ Aside0 (Below w.heap.size w wr)) (fun iv jv _ => (intOf jv).toNat - (intOf iv).toNat)
 case atStart => exact ⟨0, l.length, l.length, rfl, rfl, ⟨by omega, Nat.le_refl _, by omega, rfl⟩, HB⟩
 case round =>
  obtain ⟨i, j, f, rfl, rfl, HA, HB⟩ := hrel
  by_cases hlt : i < j
  ·go_upto_region 5 with (fail)
   have hjl : j ≤ l.length := HA.out.2.1
   have hm : wrap64 (IntKind.u64.wrap (wrap64 ((i : Int) + (j : Int))) / 2) = (((i + j) / 2 : Nat) : Int) := by
    rw [IntKind.wrap_u64]
    unfold wrap64
    omega
   obtain ⟨x, hx⟩ : ∃ x : Int, wrap64 (IntKind.u64.wrap (wrap64 ((i : Int) + (j : Int))) / 2) = x := ⟨_, rfl⟩
   rw [hx] at hm ⊢
   have hxn : x = (((i + j) / 2 : Nat) : Int) := hm
   clear hx hm
   have hil : i ≤ (i + j) / 2 := by omega
   have hhj : (i + j) / 2 < j := by omega
   have p1 : (0 : Int) ≤ x := by omega
   have q1 : x < (l.length : Int) := by omega
   obtain ⟨ad, e1, hx0, hx1⟩ := at_T46 HR0.out x p1 q1
   cases e1
   replace hx0 := (HB.out.cell (World.block_lt_of_cell? w _ hx0)).trans hx0
   replace hx1 := (HB.out.cell (World.block_lt_of_cell? w _ hx1)).trans hx1
   have hw1 : wrap64 (x + 1) = (((i + j) / 2 + 1 : Nat) : Int) := by unfold wrap64; omega
   have HC := Lib.hid (item_cmp (rd_T46 l x).f0 (rd_T46 l x).f1 q)
   have HXN := Aside0.mk hxn
   clear hxn hil hhj hjl
   by_cases hk : (rd_T46 l x).f0 < q
   ·have hc : decide (cmpI (rd_T46 l x).f0 q < 0) = true := by unfold cmpI; rw [if_pos hk]; rfl
    go_wp2_with (go_at_call 105; refine (HC.out _).mono ?_; rintro e w1 ⟨rfl, hb1⟩; replace HB := Aside0.mk (below_step HB.out hb1); clear hb1)
    obtain ⟨g1, g2, g3, g4⟩ := HA.out
    have hxn := HXN.out
    obtain ⟨f, rfl⟩ : ∃ m, f = m + 1 := ⟨f - 1, by omega⟩
    unfold bsI at g4
    rw [if_pos hlt, ← hxn, if_pos hk] at g4
    refine ⟨⟨(i + j) / 2 + 1, j, f, by rw [hxn]; rfl, rfl, ⟨by omega, g2, by omega, g4⟩, HB⟩, ?_⟩
    rw [hxn]
    simp [intOf]
    omega
   ·have hc : decide (cmpI (rd_T46 l x).f0 q < 0) = false := by
     unfold cmpI
     rw [if_neg hk]
     split <;> rfl
    go_wp2_with (go_at_call 105; refine (HC.out _).mono ?_; rintro e w1 ⟨rfl, hb1⟩; replace HB := Aside0.mk (below_step HB.out hb1); clear hb1)
    obtain ⟨g1, g2, g3, g4⟩ := HA.out
    have hxn := HXN.out
    obtain ⟨f, rfl⟩ : ∃ m, f = m + 1 := ⟨f - 1, by omega⟩
    unfold bsI at g4
    rw [if_pos hlt, ← hxn, if_neg (by omega)] at g4
    refine ⟨⟨i, (i + j) / 2, f, rfl, by rw [hxn], ⟨by omega, by omega, by omega, g4⟩, HB⟩, ?_⟩
    rw [hxn]
    simp [intOf]
    omega
  ·obtain ⟨g1, g2, g3, g4⟩ := HA.out
   obtain rfl : i = j := by omega
   have e0 : bsI l q f i i = i := by
    cases f with
    | zero => rfl
    | succ f => unfold bsI; rw [if_neg (by omega)]
   rw [e0] at g4
   have hres : placeIs l q = decide (i < l.length ∧ (rd_T46 l (i : Int)).f0 = q) := by unfold placeIs; rw [← g4]
   have h4 : ((placeN l q : Nat) : Int) = (i : Int) := by rw [← g4]
   have HP := Aside0.mk h4
   have HQ := Aside0.mk hres
   have dij : decide ((i : Int) < (i : Int)) = false := decide_eq_false (by omega)
   clear g1 g3 g4 h4 e0 hres hlt HA
   by_cases hin : i < l.length
   ·obtain ⟨x, hx⟩ : ∃ x : Int, (i : Int) = x := ⟨_, rfl⟩
    have p1 : (0 : Int) ≤ x := by omega
    have q1 : x < (l.length : Int) := by omega
    rw [hx]
    rw [hx] at HP HQ dij
    obtain ⟨ad, e1, hx0, hx1⟩ := at_T46 HR0.out x p1 q1
    cases e1
    replace hx0 := (HB.out.cell (World.block_lt_of_cell? w _ hx0)).trans hx0
    replace hx1 := (HB.out.cell (World.block_lt_of_cell? w _ hx1)).trans hx1
    have HC := Lib.hid (item_cmp (rd_T46 l x).f0 (rd_T46 l x).f1 q)
    have dn : decide (x < (l.length : Int)) = true := decide_eq_true q1
    have hfin : (cmpI (rd_T46 l x).f0 q == 0) = decide (i < l.length ∧ (rd_T46 l x).f0 = q) := by
     unfold cmpI
     by_cases h1 : (rd_T46 l x).f0 < q
     ·rw [if_pos h1, decide_eq_false (fun y => by omega)]
      rfl
     ·rw [if_neg h1]
      by_cases h2 : q < (rd_T46 l x).f0
      ·rw [if_pos h2, decide_eq_false (fun y => by omega)]
       rfl
      ·rw [if_neg h2, decide_eq_true ⟨hin, by omega⟩]
       rfl
    rw [← hfin] at HQ
    have HX := Aside0.mk hx
    clear hx hin hfin
    go_wp2_with (go_at_call 105; refine (HC.out _).mono ?_; rintro e w1 ⟨rfl, hb1⟩; replace HB := Aside0.mk (below_step HB.out hb1); clear hb1)
    go_ret2
    exact ⟨by rw [HP.out, HQ.out]; rfl, HB.out⟩
   ·have dn : decide ((i : Int) < (l.length : Int)) = false := decide_eq_false (by omega)
    have dn2 : decide (i < l.length) = false := decide_eq_false hin
    rw [decide_eq_false (fun y : i < l.length ∧ _ => hin y.1)] at HQ
    clear hin g2
    go_wp2
    go_ret2
    exact ⟨by rw [HP.out, HQ.out]; rfl, HB.out⟩
theorem place_any (A0 : Option Addr) (c0 : Nat) (l : List S46) (q : Int) (w : World) (hr0 : Kd.C k46 w A0 l.length l) (hc0 : l.length ≤ c0) (hn : l.length ≤ 1000000000) :
  Calls Tryd.prog 71 #[.slice A0 l.length c0, .int .u64 q] w fun e w' => e = .returned (.tuple #[.int .i64 (placeN l q : Nat), .bool (placeIs l q)]) ∧ Below w.heap.size w w' := by
 have H := Lib.hid (search_any A0 c0 l q w hr0 hc0 hn)
 go_enter Tryd.func71, Tryd.ntmps71
 go_wp2_with (go_at_call 104; refine (H.out).mono ?_; rintro e w1 ⟨rfl, hb1⟩)
 go_ret2
 exact ⟨rfl, hb1⟩
end Go.Proofs.YtolbhliepkcihaaDoor.Skip
end
section
namespace Go.Proofs.YtolbhliepkcihaaDoor.Skip
open Go.RowKit Go.Proofs.YtolbhliepkcihaaDoor.Kinds Go.Proofs.YtolbhliepkcihaaDoor.QSF Go.Proofs.YtolbhliepkcihaaDoorW.PrintWords Go.Proofs.YtolbhliepkcihaaDoorW.PrintLast Go.Proofs.YtolbhliepkcihaaDoorW.PrintMore Go.Proofs.YtolbhliepkcihaaDoor.Sha Go.Proofs.YtolbhliepkcihaaDoor.Mac Go.Proofs.YtolbhliepkcihaaDoor.Codec Go.Proofs.YtolbhliepkcihaaDoor.Tower
/-! ### items as cells -/
def cell2 (x : S46) : List Value := [.int .u64 x.f0, .string x.f1]
def flat (l : List S46) : List Value := l.flatMap cell2
theorem flat_cons (x : S46) (l : List S46) : flat (x :: l) = [.int .u64 x.f0, .string x.f1] ++ flat l := rfl
theorem flat_app (l m : List S46) : flat (l ++ m) = flat l ++ flat m := List.flatMap_append ..
theorem flat_len (l : List S46) : (flat l).length = l.length * 2 := by
 induction l with
 | nil => rfl
 | cons x l ih => rw [flat_cons, List.length_append, ih]; simp; omega
theorem flat_one (l : List S46) : ∀ u ∈ flat l, u.oneCell' = true := by
 induction l with
 | nil => intro u hu; cases hu
 | cons x l ih =>
  intro u hu
  rw [flat_cons] at hu
  rcases List.mem_append.1 hu with h | h
  ·simp only [List.mem_cons, List.mem_nil_iff, or_false] at h
   rcases h with rfl | rfl <;> rfl
  ·exact ih u h
theorem flat_at (l : List S46) : ∀ j p, l[j]? = some p → ((flat l).drop (j * 2)).take 2 = [.int .u64 p.f0, .string p.f1] := by
 induction l with
 | nil => intro j p h; simp at h
 | cons x l ih =>
  intro j p h
  cases j with
  | zero =>
   obtain rfl := Option.some.inj h
   rfl
  | succ j =>
   rw [flat_cons, show (j + 1) * 2 = 2 + j * 2 by omega, ← List.drop_drop]
   exact ih j p (by simpa using h)
theorem flat_get (l : List S46) (i : Nat) (h : i < l.length) : (flat l)[i * 2]? = some (.int .u64 l[i].f0) ∧ (flat l)[i * 2 + 1]? = some (.string l[i].f1) := by
 have e := flat_at l i l[i] (List.getElem?_eq_getElem h)
 have h0 : ((flat l).drop (i * 2))[0]? = some (.int .u64 l[i].f0) := by
  have := congrArg (fun x : List Value => x[0]?) e
  simpa [List.getElem?_take] using this
 have h1 : ((flat l).drop (i * 2))[1]? = some (.string l[i].f1) := by
  have := congrArg (fun x : List Value => x[1]?) e
  simpa [List.getElem?_take] using this
 rw [List.getElem?_drop] at h0 h1
 exact ⟨by simpa using h0, h1⟩
theorem flat_cells {w : World} {ad : Addr} {l : List S46} (h : Kd.C k46 w (some ad) l.length l) : ∀ j u, (flat l)[j]? = some u → w.cell? (ad.add j) = some u := by
 intro j u hu
 have hj : j < (flat l).length := (List.getElem?_eq_some_iff.1 hu).1
 rw [flat_len] at hj
 have hi : j / 2 < l.length := by omega
 obtain ⟨ad', c, e, _, hK, hc0⟩ := Kd.C_get h z46 ((j / 2 : Nat) : Int) (by omega) (by omega)
 obtain rfl := Option.some.inj e
 have hc : ∀ i u, c[i]? = some u → w.cell? (ad.add (((j / 2 : Nat) : Int).toNat * 2 + i)) = some u := hc0
 obtain rfl := k46_open hK
 have h0 := hc 0 _ rfl
 have h1 := hc 1 _ rfl
 have er : l.getD ((j / 2 : Nat) : Int).toNat z46 = l[j / 2] := by rw [Int.toNat_natCast, List.getD_eq_getElem?_getD, List.getElem?_eq_getElem hi]; rfl
 rw [er, Int.toNat_natCast] at h0 h1
 obtain ⟨f0, f1⟩ := flat_get l (j / 2) hi
 by_cases hp : j % 2 = 0
 ·have ej : j = j / 2 * 2 := by omega
  rw [ej] at hu ⊢
  rw [f0] at hu
  obtain rfl := Option.some.inj hu
  exact h0
 ·have ej : j = j / 2 * 2 + 1 := by omega
  rw [ej] at hu ⊢
  rw [f1] at hu
  obtain rfl := Option.some.inj hu
  exact h1
theorem own_row {w : World} {base : Nat} {v : Value} {xs : List S46} (h : w.ownsRow base 46 2 v xs.length (flat xs)) : Kd.R k46 46 w base (fun _ => True) v xs :=
 ⟨fun _ _ => trivial, flat xs, h, flat_len xs, fun j p hp => by
  have e := flat_at xs j p hp
  show k46.M _ _ _ p (((flat xs).drop (j * 2)).take 2)
  rw [e]
  exact k46_mkM _ _ _ p⟩
theorem cut3 (A : Option Addr) (n c : Nat) (j : Int) (h0 : 0 ≤ j) (hm : j ≤ n) (hc : n ≤ c) :
  ∀ W : World, (Instr.slice 36 (.slice A n c) none (some (.int .i64 j)) (some (.int .i64 j))).run Tryd.prog W = .ok (.slice A j.toNat j.toNat) W := by
 intro W
 have ht := Tryd.underlying36
 have hel : Tryd.prog.elem 36 = 46 := by simp [Program.elem, ht]
 have hu : Tryd.prog.underlying 36 = some (.slice (Tryd.prog.elem 36)) := by rw [hel]; exact ht
 have ha : (A.map fun x => x.add 0) = A := by cases A <;> simp [Addr.add]
 have hs : ∀ w, (sizeOf 46).run Tryd.prog w = .ok 2 w := fun w => by kernel_rfl
 rw [run_slice_hm W 36 A n c hu .i64 .i64 j j h0 (Int.le_refl _) (by omega), hel, hs]
 simp [sliced, Result.andThen, ha]
theorem flat_take (l : List S46) (i : Nat) : ∀ (j : Nat) (u : Value), (flat (l.take i))[j]? = some u → (flat l)[j]? = some u := fun j u hu => by
 have hj := (List.getElem?_eq_some_iff.1 hu).1
 conv => lhs; rw [← List.take_append_drop i l, flat_app]
 rw [List.getElem?_append_left hj]
 exact hu
theorem flat_drop (l : List S46) (i : Nat) (hi : i ≤ l.length) : ∀ (j : Nat) (u : Value), (flat (l.drop i))[j]? = some u → (flat l)[i * 2 + j]? = some u := fun j u hu => by
 have hz : (flat (l.take i)).length = i * 2 := by rw [flat_len, List.length_take, Nat.min_eq_left hi]
 conv => lhs; rw [← List.take_append_drop i l, flat_app]
 rw [List.getElem?_append_right (by omega), hz, Nat.add_sub_cancel_left]
 exact hu
theorem add_two (ad : Addr) (a b : Nat) : (ad.add a).add b = ad.add (a + b) := Addr.add_add ad a b
theorem own_mono3 {w : World} {b b' : Nat} {e : TypeId} {size n : Nat} {v : Value} {xs : List Value} (h : w.ownsRow b e size v n xs) (hb : b' ≤ b) : w.ownsRow b' e size v n xs :=
 ⟨h.1, h.2.imp id fun ⟨g, cap, cur, e1, e2, r⟩ => ⟨g, cap, cur, e1, Nat.le_trans hb e2, r⟩⟩
/-! ### skip.Drop -/
theorem item_info : (Tryd.prog.info? 46).map (fun i => (i.zero, i.size, i.bytes)) = some (some (.agg #[.int .u64 0, .string ⟨#[]⟩]), 2, 24) := by kernel_rfl
set_option maxRecDepth 100000 in
set_option maxHeartbeats 4000000 in
theorem drop_grow (ad : Addr) (c0 : Nat) (l : List S46) (q : Int) (k : Nat) (w : World) (hr0 : Kd.C k46 w (some ad) l.length l) (hc0 : l.length ≤ c0) (hn : l.length ≤ 100000) (hR : skip_Right.f k l = some true) (his : placeIs l q = true) (hlt : placeN l q + 1 < l.length) :
  Calls Tryd.prog 37 #[.slice (some ad) l.length c0, .int .u64 q] w fun e w' => ∃ v, e = .returned (.tuple #[v, .int .i64 0]) ∧ Kd.R k46 46 w' w.heap.size (fun _ => True) v (l.take (placeN l q) ++ l.drop (placeN l q + 1)) ∧ Below w.heap.size w w' := by
 obtain ⟨i0, hi, hz, hs, hb⟩ := info_parts item_info
 have HP := Lib.hid (place_any (some ad) c0 l q w hr0 hc0 (by omega))
 have HQ := Lib.hid (fun W (hW : Below w.heap.size w W) => skip_Right.calls k (some ad) c0 l true W (Kd.C_below hr0 hW) hc0 hR)
 rw [his] at HP
 have HC := Lib.hid hr0
 clear hr0
 generalize placeN l q = i at *
 have HB := Aside0.mk (Below.refl w.heap.size w)
 have hcut := cut3 (some ad) l.length c0 (i : Int) (by omega) (by omega) hc0
 have hcut2 := cut_from (P := Tryd.prog) 36 46 .i64 Tryd.underlying36 hi 2 hs (some ad) l.length c0 ((i : Int) + 1) (by omega) (by omega)
 rw [show ((i : Int) + 1).toNat = i + 1 by omega, if_neg (by omega)] at hcut2
 rw [Int.toNat_natCast] at hcut
 go_enter Tryd.func37, Tryd.ntmps37
 go_wp2_with (first | (go_at_call 71; refine (HP.out).mono ?_; rintro e w1 ⟨rfl, hb1⟩; replace HB := Aside0.mk (below_step HB.out hb1); clear hb1) | (go_at_call 38; refine (HQ.out _ HB.out).mono ?_; rintro e w1 ⟨rfl, hb1⟩; replace HB := Aside0.mk (below_step HB.out hb1); clear hb1))
 have HW := Aside0.mk (Kd.C_below HC.out HB.out)
 have hz1 : (flat (l.take i)).length = i * 2 := by rw [flat_len, List.length_take, Nat.min_eq_left (by omega)]
 have hz2 : (flat (l.drop (i + 1))).length = (l.length - (i + 1)) * 2 := by rw [flat_len, List.length_drop]
 have hold : Hid (∀ b, some ad = some b → ∀ j u, (flat (l.take i))[j]? = some u → w1.cell? (b.add j) = some u) := Lib.hid fun b hb j u hu => by
  obtain rfl := Option.some.inj hb
  exact flat_cells HW.out j u (flat_take l i j u hu)
 have hnew : Hid (∀ j u, (flat (l.drop (i + 1)))[j]? = some u → w1.cell? ((ad.add ((i + 1) * 2)).add j) = some u) := Lib.hid fun j u hu => by
  rw [add_two]
  exact flat_cells HW.out _ u (flat_drop l (i + 1) (by omega) j u hu)
 have h1 : Hid (∀ u ∈ flat (l.drop (i + 1)), u.oneCell' = true) := Lib.hid (flat_one _)
 have hfull : i < i + (l.length - (i + 1)) := by omega
 have hb1 : i + (l.length - (i + 1)) ≤ maxLen := by simp only [maxLen]; omega
 have hb2 : (i + (l.length - (i + 1))) * 24 ≤ 140737488355328 := by omega
 have hwr : IntKind.i64.wrap ((i : Int) + 1) = (i : Int) + 1 := by rw [IntKind.wrap_i64]; omega
 have hp0 : (0 : Int) ≤ (i : Int) + 1 := by omega
 have hp1 : (i : Int) + 1 ≤ (l.length : Int) := by omega
 have hp2 : ((i : Int) + 1).toNat = i + 1 := by omega
 have hp3 : ¬ c0 = i + 1 := by omega
 go_region_law (refine step_append_grows rfl (.tmp 24) (.tmp 28) 36 rfl 46 i0 (.agg #[.int .u64 0, .string ⟨#[]⟩]) 2 24 Tryd.underlying36 hi hz hs hb rfl (by decide) (some ad) i i (flat (l.take i)) (by simp [Act.eval, Act.put]) (fun h => by cases h) hz1 hold.out (ad.add ((i + 1) * 2)) (l.length - (i + 1)) (c0 - (i + 1)) (flat (l.drop (i + 1))) (by simp [Act.eval, Act.put]) hz2 hnew.out h1.out hfull hb1 hb2 ?_; intro v' w' hown hgrow)
 have hlen : (l.take i ++ l.drop (i + 1)).length = i + (l.length - (i + 1)) := by rw [List.length_append, List.length_take, List.length_drop, Nat.min_eq_left (by omega)]
 have hfl : flat (l.take i ++ l.drop (i + 1)) = flat (l.take i) ++ flat (l.drop (i + 1)) := flat_app _ _
 all_goals go_wp2
 all_goals go_ret2
 all_goals exact ⟨v', rfl, own_row (by rw [hlen, hfl]; exact own_mono3 hown HB.out.size), (below_drew HB.out).grown hgrow HB.out.size (fun k e => by cases e)⟩
theorem step_append_nothing {P : Program} {ops : Array Oper} {o : Oper} {a : Act} {w : World} {K : Act → World → Prop} {Q : Exit → Act → World → Prop} {E : Prop}
  (hg : o.guard = none) (s x : Operand) (t : TypeId) (hop : o.op = Op.call { callee := Callee.builtin Builtin.append, args := #[s, x], argTypes := #[t, t] })
  (e : TypeId) (i : TypeInfo) (h1 : P.underlying t = some (.slice e)) (h2 : P.info? e = some i) (ao : Option Addr) (n cap : Nat) (hs : a.eval s = .slice ao n cap) (hle : n ≤ cap)
  (xv : Value) (hx : a.eval x = xv) (hsrc : Src P i.size t xv 0 [] w) (hK : K (a.put o.dst (.slice ao n cap)) w) :
  if Region.wanted o (yielded ops a.tmps) = true then Oper.wp P o a w K Q else E := by
 have hw : Region.wanted o (yielded ops a.tmps) = true := by simp [Region.wanted, hg]
 rw [if_pos hw]
 have hrun := run_append_nothing (P := P) w t t o.type e i h1 h2 ao n cap hle xv hsrc
 unfold Oper.wp
 simp [execOp, hop, resolve, invoke, builtin, hs, hx, hrun, Result.andThen]
 exact hK
theorem src_nothing (ao : Option Addr) (c : Nat) (w : World) (z : Nat) : Src Tryd.prog z 36 (.slice ao 0 c) 0 [] w := by
 cases ao with
 | none => exact Src.ofNil w Tryd.underlying36 c
 | some a => exact Src.ofSlice w Tryd.underlying36 a 0 c [] (by simp) (fun j u h => by simp at h) (fun u h => by cases h)
set_option maxRecDepth 100000 in
set_option maxHeartbeats 4000000 in
theorem drop_last (ad : Addr) (c0 : Nat) (l : List S46) (q : Int) (k : Nat) (w : World) (hr0 : Kd.C k46 w (some ad) l.length l) (hc0 : l.length ≤ c0) (hn : l.length ≤ 100000) (hR : skip_Right.f k l = some true) (his : placeIs l q = true) (hlt : placeN l q + 1 = l.length) :
  Calls Tryd.prog 37 #[.slice (some ad) l.length c0, .int .u64 q] w fun e w' => e = .returned (.tuple #[.slice (some ad) (placeN l q) (placeN l q), .int .i64 0]) ∧ Below w.heap.size w w' := by
 obtain ⟨i0, hi, hz, hs, hb⟩ := info_parts item_info
 have HP := Lib.hid (place_any (some ad) c0 l q w hr0 hc0 (by omega))
 have HQ := Lib.hid (fun W (hW : Below w.heap.size w W) => skip_Right.calls k (some ad) c0 l true W (Kd.C_below hr0 hW) hc0 hR)
 rw [his] at HP
 clear hr0
 generalize placeN l q = i at *
 have HB := Aside0.mk (Below.refl w.heap.size w)
 go_enter Tryd.func37, Tryd.ntmps37
 go_wp2_with (first | (go_at_call 71; refine (HP.out).mono ?_; rintro e w1 ⟨rfl, hb1⟩; replace HB := Aside0.mk (below_step HB.out hb1); clear hb1) | (go_at_call 38; refine (HQ.out _ HB.out).mono ?_; rintro e w1 ⟨rfl, hb1⟩; replace HB := Aside0.mk (below_step HB.out hb1); clear hb1))
 have hwr : IntKind.i64.wrap ((i : Int) + 1) = (i : Int) + 1 := by rw [IntKind.wrap_i64]; omega
 have hp0 : (0 : Int) ≤ (i : Int) + 1 := by omega
 have hp1 : (i : Int) + 1 ≤ (l.length : Int) := by omega
 have hp2 : ((i : Int) + 1).toNat = i + 1 := by omega
 have hp4 : l.length - (i + 1) = 0 := by omega
 have hp5 : i ≤ c0 := by omega
 have HL := Aside0.mk hlt
 clear hlt
 go_region_law (refine step_append_nothing rfl (.tmp 24) (.tmp 28) 36 rfl 46 i0 Tryd.underlying36 hi (some ad) i i (by simp [Act.eval, Act.put]) (Nat.le_refl _) (.slice (if c0 = i + 1 then some ad else some (ad.add ((i + 1) * 2))) 0 (c0 - (i + 1))) (by simp [Act.eval, Act.put, hp4]) (src_nothing _ _ _ _) ?_)
 all_goals go_wp2
 all_goals go_ret2
 all_goals exact ⟨rfl, below_drew HB.out⟩
theorem drop_none (A0 : Option Addr) (c0 : Nat) (l : List S46) (q : Int) (k : Nat) (w : World) (hr0 : Kd.C k46 w A0 l.length l) (hc0 : l.length ≤ c0) (hn : l.length ≤ 100000) (hR : skip_Right.f k l = some true) (his : placeIs l q = false) :
  Calls Tryd.prog 37 #[.slice A0 l.length c0, .int .u64 q] w fun e w' => e = .returned (.tuple #[.slice none 0 0, .int .i64 3]) ∧ Below w.heap.size w w' := by
 have HP := Lib.hid (place_any A0 c0 l q w hr0 hc0 (by omega))
 have HQ := Lib.hid (fun W (hW : Below w.heap.size w W) => skip_Right.calls k A0 c0 l true W (Kd.C_below hr0 hW) hc0 hR)
 rw [his] at HP
 clear hr0
 generalize placeN l q = i at *
 have HB := Aside0.mk (Below.refl w.heap.size w)
 go_enter Tryd.func37, Tryd.ntmps37
 go_wp2_with (first | (go_at_call 71; refine (HP.out).mono ?_; rintro e w1 ⟨rfl, hb1⟩; replace HB := Aside0.mk (below_step HB.out hb1); clear hb1) | (go_at_call 38; refine (HQ.out _ HB.out).mono ?_; rintro e w1 ⟨rfl, hb1⟩; replace HB := Aside0.mk (below_step HB.out hb1); clear hb1))
 go_ret2
 exact ⟨rfl, HB.out⟩
theorem drop_bad (A0 : Option Addr) (c0 : Nat) (l : List S46) (q : Int) (k : Nat) (w : World) (hr0 : Kd.C k46 w A0 l.length l) (hc0 : l.length ≤ c0) (hn : l.length ≤ 100000) (hR : skip_Right.f k l = some false) :
  Calls Tryd.prog 37 #[.slice A0 l.length c0, .int .u64 q] w fun e w' => e = .returned (.tuple #[.slice none 0 0, .int .i64 1]) ∧ Below w.heap.size w w' := by
 have HP := Lib.hid (place_any A0 c0 l q w hr0 hc0 (by omega))
 have HQ := Lib.hid (fun W (hW : Below w.heap.size w W) => skip_Right.calls k A0 c0 l false W (Kd.C_below hr0 hW) hc0 hR)
 clear hr0
 generalize placeN l q = i at *
 generalize placeIs l q = b at *
 have HB := Aside0.mk (Below.refl w.heap.size w)
 go_enter Tryd.func37, Tryd.ntmps37
 go_wp2_with (first | (go_at_call 71; refine (HP.out).mono ?_; rintro e w1 ⟨rfl, hb1⟩; replace HB := Aside0.mk (below_step HB.out hb1); clear hb1) | (go_at_call 38; refine (HQ.out _ HB.out).mono ?_; rintro e w1 ⟨rfl, hb1⟩; replace HB := Aside0.mk (below_step HB.out hb1); clear hb1))
 go_ret2
 exact ⟨rfl, HB.out⟩
end Go.Proofs.YtolbhliepkcihaaDoor.Skip
end
section
namespace Go.Proofs.YtolbhliepkcihaaDoor.Skip
open Go.RowKit Go.Proofs.YtolbhliepkcihaaDoor.Kinds Go.Proofs.YtolbhliepkcihaaDoor.QSF Go.Proofs.YtolbhliepkcihaaDoorW.PrintWords Go.Proofs.YtolbhliepkcihaaDoorW.PrintLast Go.Proofs.YtolbhliepkcihaaDoorW.PrintMore Go.Proofs.YtolbhliepkcihaaDoor.Sha Go.Proofs.YtolbhliepkcihaaDoor.Mac Go.Proofs.YtolbhliepkcihaaDoor.Codec Go.Proofs.YtolbhliepkcihaaDoor.Tower
theorem step_append_own2 {P : Program} {ops : Array Oper} {o : Oper} {a : Act} {w : World} {K : Act → World → Prop} {Q : Exit → Act → World → Prop} {E : Prop}
  (hg : o.guard = none) (s x : Operand) (t : TypeId) (hop : o.op = Op.call { callee := Callee.builtin Builtin.append, args := #[s, x], argTypes := #[t, t] })
  (base : Nat) (e : TypeId) (i : TypeInfo) (z : Value) (size bytes : Nat) (h1 : P.underlying t = some (.slice e)) (h2 : P.info? e = some i) (h3 : i.zero = some z) (h4 : i.size = size) (h5 : i.bytes = bytes) (h6 : z.cells.size = size) (h7 : 0 < size)
  (v : Value) (n : Nat) (xs : List Value) (hs : a.eval s = v) (hown : w.ownsRow base e size v n xs)
  (ad : Addr) (m c : Nat) (news : List Value) (hx : a.eval x = .slice (some ad) m c) (hn : news.length = m * size) (hc : ∀ j u, news[j]? = some u → w.cell? (ad.add j) = some u) (h1c : ∀ u ∈ news, u.oneCell' = true)
  (b1 : n + m ≤ maxLen) (b2 : (n + m) * bytes ≤ 140737488355328) (hbase : base ≤ w.heap.size)
  (hK : ∀ v' w', w'.ownsRow base e size v' (n + m) (xs ++ news) → w.grownBy w' v.ownBlock → K (a.put o.dst v') w') :
  if Region.wanted o (yielded ops a.tmps) = true then Oper.wp P o a w K Q else E := by
 have hw : Region.wanted o (yielded ops a.tmps) = true := by simp [Region.wanted, hg]
 rw [if_pos hw]
 obtain ⟨v', w', hrun, r1, r2, _⟩ := run_append_own (P := P) w base t o.type e i z size bytes h1 h2 h3 h4 h5 h6 h7 v n xs hown ad m c news hn hc h1c b1 b2 hbase
 unfold Oper.wp
 simp [execOp, hop, resolve, invoke, builtin, hs, hx, hrun, Result.andThen]
 exact hK v' w' r1 r2
theorem own_succ2 {W : World} {base : Nat} {e : TypeId} {size : Nat} {v : Value} {k : Nat} {xs : List Value} (h : W.ownsRow base e size v (k + 1) xs) : ∃ g cap, v = .slice (some ⟨g, 0, none⟩) (k + 1) cap ∧ k + 1 ≤ cap := by
 rcases h.2 with ⟨_, h0⟩ | ⟨g, cap, cur, rfl, _, _, hc, _⟩
 ·omega
 ·exact ⟨g, cap, rfl, hc⟩
theorem two_new (W : World) (a : Int) (s : ByteArray) : ∀ (j : Nat) (u : Value), [Value.int .u64 a, Value.string s][j]? = some u → (W.alloc (.cells #[.int .u64 a, .string s] 46)).cell? ((⟨W.heap.size, 0, none⟩ : Addr).add j) = some u := by
 intro j u h
 have hb := World.alloc_heap_new W (.cells #[.int .u64 a, .string s] 46)
 rw [Addr.add_lit, Nat.zero_add, blk_cell hb j]
 simpa using h
set_option maxRecDepth 100000 in
set_option maxHeartbeats 4000000 in
theorem put_bad (A0 : Option Addr) (c0 : Nat) (l : List S46) (x : S46) (k : Nat) (w : World) (hr0 : Kd.C k46 w A0 l.length l) (hc0 : l.length ≤ c0) (hn : l.length ≤ 100000) (hR : skip_Right.f k l = some false) :
  Calls Tryd.prog 36 #[.slice A0 l.length c0, .agg #[.int .u64 x.f0, .string x.f1]] w fun e w' => e = .returned (.tuple #[.slice none 0 0, .int .i64 1]) ∧ Below w.heap.size w w' := by
 have HP := Lib.hid (fun W (hW : Below w.heap.size w W) => place_any A0 c0 l x.f0 W (Kd.C_below hr0 hW) hc0 (by omega))
 have HQ := Lib.hid (fun W (hW : Below w.heap.size w W) => skip_Right.calls k A0 c0 l false W (Kd.C_below hr0 hW) hc0 hR)
 clear hr0
 generalize placeN l x.f0 = i at *
 generalize placeIs l x.f0 = b at *
 have HB := Aside0.mk (below_alloc (Below.refl w.heap.size w) (.cells #[.int .u64 x.f0, .string x.f1] 46))
 have X0 := Aside0.mk (two_new w x.f0 x.f1 0 _ rfl)
 have X1 := Aside0.mk (two_new w x.f0 x.f1 1 _ rfl)
 simp only [Addr.add_lit] at X0 X1
 go_enter Tryd.func36, Tryd.ntmps36
 go_wp2_with (first | (go_at_call 71; refine (HP.out _ (below_step (below_alloc (Below.refl _ _) _) (Below.refl _ _))).mono ?_; rintro e w1 ⟨rfl, hb1⟩; replace X0 := Aside0.mk ((hb1.cell (World.block_lt_of_cell? _ _ X0.out)).trans X0.out); replace X1 := Aside0.mk ((hb1.cell (World.block_lt_of_cell? _ _ X1.out)).trans X1.out); (try clear hx0 hx1); have hx0 := X0.out; have hx1 := X1.out; replace HB := Aside0.mk (below_step HB.out hb1); clear hb1) | (go_at_call 38; refine (HQ.out _ HB.out).mono ?_; rintro e w1 ⟨rfl, hb1⟩; replace X0 := Aside0.mk ((hb1.cell (World.block_lt_of_cell? _ _ X0.out)).trans X0.out); replace X1 := Aside0.mk ((hb1.cell (World.block_lt_of_cell? _ _ X1.out)).trans X1.out); (try clear hx0 hx1); have hx0 := X0.out; have hx1 := X1.out; replace HB := Aside0.mk (below_step HB.out hb1); clear hb1))
 go_ret2
 exact ⟨rfl, HB.out⟩
set_option maxRecDepth 100000 in
set_option maxHeartbeats 4000000 in
theorem put_size (A0 : Option Addr) (c0 : Nat) (l : List S46) (x : S46) (k : Nat) (w : World) (hr0 : Kd.C k46 w A0 l.length l) (hc0 : l.length ≤ c0) (hn : l.length ≤ 100000) (hR : skip_Right.f k l = some true) (hz : 64 < x.f1.size) :
  Calls Tryd.prog 36 #[.slice A0 l.length c0, .agg #[.int .u64 x.f0, .string x.f1]] w fun e w' => e = .returned (.tuple #[.slice none 0 0, .int .i64 4]) ∧ Below w.heap.size w w' := by
 have HP := Lib.hid (fun W (hW : Below w.heap.size w W) => place_any A0 c0 l x.f0 W (Kd.C_below hr0 hW) hc0 (by omega))
 have HQ := Lib.hid (fun W (hW : Below w.heap.size w W) => skip_Right.calls k A0 c0 l true W (Kd.C_below hr0 hW) hc0 hR)
 clear hr0
 generalize placeN l x.f0 = i at *
 generalize placeIs l x.f0 = b at *
 have hz2 : decide (64 < (x.f1.size : Int)) = true := decide_eq_true (by omega)
 have hz3 : decide (64 < x.f1.size) = true := decide_eq_true hz
 have HB := Aside0.mk (below_alloc (Below.refl w.heap.size w) (.cells #[.int .u64 x.f0, .string x.f1] 46))
 have X0 := Aside0.mk (two_new w x.f0 x.f1 0 _ rfl)
 have X1 := Aside0.mk (two_new w x.f0 x.f1 1 _ rfl)
 simp only [Addr.add_lit] at X0 X1
 go_enter Tryd.func36, Tryd.ntmps36
 go_wp2_with (first | (go_at_call 71; refine (HP.out _ (below_step (below_alloc (Below.refl _ _) _) (Below.refl _ _))).mono ?_; rintro e w1 ⟨rfl, hb1⟩; replace X0 := Aside0.mk ((hb1.cell (World.block_lt_of_cell? _ _ X0.out)).trans X0.out); replace X1 := Aside0.mk ((hb1.cell (World.block_lt_of_cell? _ _ X1.out)).trans X1.out); (try clear hx0 hx1); have hx0 := X0.out; have hx1 := X1.out; replace HB := Aside0.mk (below_step HB.out hb1); clear hb1) | (go_at_call 38; refine (HQ.out _ HB.out).mono ?_; rintro e w1 ⟨rfl, hb1⟩; replace X0 := Aside0.mk ((hb1.cell (World.block_lt_of_cell? _ _ X0.out)).trans X0.out); replace X1 := Aside0.mk ((hb1.cell (World.block_lt_of_cell? _ _ X1.out)).trans X1.out); (try clear hx0 hx1); have hx0 := X0.out; have hx1 := X1.out; replace HB := Aside0.mk (below_step HB.out hb1); clear hb1))
 go_ret2
 exact ⟨rfl, HB.out⟩
set_option maxRecDepth 100000 in
set_option maxHeartbeats 4000000 in
theorem put_space (A0 : Option Addr) (c0 : Nat) (l : List S46) (x : S46) (k : Nat) (w : World) (hr0 : Kd.C k46 w A0 l.length l) (hc0 : l.length ≤ c0) (hn : l.length ≤ 100000) (hR : skip_Right.f k l = some true) (hz : ¬64 < x.f1.size) (his : placeIs l x.f0 = false) (h64 : l.length = 64) :
  Calls Tryd.prog 36 #[.slice A0 l.length c0, .agg #[.int .u64 x.f0, .string x.f1]] w fun e w' => e = .returned (.tuple #[.slice none 0 0, .int .i64 6]) ∧ Below w.heap.size w w' := by
 have HP := Lib.hid (fun W (hW : Below w.heap.size w W) => place_any A0 c0 l x.f0 W (Kd.C_below hr0 hW) hc0 (by omega))
 have HQ := Lib.hid (fun W (hW : Below w.heap.size w W) => skip_Right.calls k A0 c0 l true W (Kd.C_below hr0 hW) hc0 hR)
 rw [his] at HP
 clear hr0
 generalize placeN l x.f0 = i at *
 have hz2 : decide (64 < (x.f1.size : Int)) = false := decide_eq_false (by omega)
 have hz3 : decide (64 < x.f1.size) = false := decide_eq_false hz
 have h65 : ((l.length : Int) == 64) = true := by rw [beq_iff_eq]; omega
 have HL := Aside0.mk h64
 clear h64 hn hc0 his hz hR
 have HB := Aside0.mk (below_alloc (Below.refl w.heap.size w) (.cells #[.int .u64 x.f0, .string x.f1] 46))
 have X0 := Aside0.mk (two_new w x.f0 x.f1 0 _ rfl)
 have X1 := Aside0.mk (two_new w x.f0 x.f1 1 _ rfl)
 simp only [Addr.add_lit] at X0 X1
 go_enter Tryd.func36, Tryd.ntmps36
 go_wp2_with (first | (go_at_call 71; refine (HP.out _ (below_step (below_alloc (Below.refl _ _) _) (Below.refl _ _))).mono ?_; rintro e w1 ⟨rfl, hb1⟩; replace X0 := Aside0.mk ((hb1.cell (World.block_lt_of_cell? _ _ X0.out)).trans X0.out); replace X1 := Aside0.mk ((hb1.cell (World.block_lt_of_cell? _ _ X1.out)).trans X1.out); (try clear hx0 hx1); have hx0 := X0.out; have hx1 := X1.out; replace HB := Aside0.mk (below_step HB.out hb1); clear hb1) | (go_at_call 38; refine (HQ.out _ HB.out).mono ?_; rintro e w1 ⟨rfl, hb1⟩; replace X0 := Aside0.mk ((hb1.cell (World.block_lt_of_cell? _ _ X0.out)).trans X0.out); replace X1 := Aside0.mk ((hb1.cell (World.block_lt_of_cell? _ _ X1.out)).trans X1.out); (try clear hx0 hx1); have hx0 := X0.out; have hx1 := X1.out; replace HB := Aside0.mk (below_step HB.out hb1); clear hb1))
 go_ret2
 exact ⟨rfl, HB.out⟩
end Go.Proofs.YtolbhliepkcihaaDoor.Skip
end
section
namespace Go.Proofs.YtolbhliepkcihaaDoor.Skip
set_option linter.unusedSimpArgs false
set_option linter.unusedVariables false
open Go.RowKit Go.Proofs.YtolbhliepkcihaaDoor.Kinds Go.Proofs.YtolbhliepkcihaaDoor.QSF Go.Proofs.YtolbhliepkcihaaDoorW.PrintWords Go.Proofs.YtolbhliepkcihaaDoorW.PrintLast Go.Proofs.YtolbhliepkcihaaDoorW.PrintMore Go.Proofs.YtolbhliepkcihaaDoor.Sha Go.Proofs.YtolbhliepkcihaaDoor.Mac Go.Proofs.YtolbhliepkcihaaDoor.Codec Go.Proofs.YtolbhliepkcihaaDoor.Tower
set_option maxRecDepth 100000 in
set_option maxHeartbeats 4000000 in
theorem put_new (ad : Addr) (c0 : Nat) (l : List S46) (x : S46) (k : Nat) (w : World) (hr0 : Kd.C k46 w (some ad) l.length l) (hc0 : l.length ≤ c0) (hn : l.length ≤ 100000) (hR : skip_Right.f k l = some true) (hz : ¬64 < x.f1.size) (his : placeIs l x.f0 = false) (h64 : ¬l.length = 64) (hlt : placeN l x.f0 < l.length) :
  Calls Tryd.prog 36 #[.slice (some ad) l.length c0, .agg #[.int .u64 x.f0, .string x.f1]] w fun e w' => ∃ v, e = .returned (.tuple #[v, .int .i64 0]) ∧ Kd.R k46 46 w' w.heap.size (fun _ => True) v (l.take (placeN l x.f0) ++ [x] ++ l.drop (placeN l x.f0)) ∧ Below w.heap.size w w' := by
 obtain ⟨i0, hi, hiz, hs, hb⟩ := info_parts item_info
 have HP := Lib.hid (fun W (hW : Below w.heap.size w W) => place_any (some ad) c0 l x.f0 W (Kd.C_below hr0 hW) hc0 (by omega))
 have HQ := Lib.hid (fun W (hW : Below w.heap.size w W) => skip_Right.calls k (some ad) c0 l true W (Kd.C_below hr0 hW) hc0 hR)
 rw [his] at HP
 have HC := Lib.hid hr0
 clear hr0
 generalize placeN l x.f0 = i at *
 have hz2 : decide (64 < (x.f1.size : Int)) = false := decide_eq_false (by omega)
 have hz3 : decide (64 < x.f1.size) = false := decide_eq_false hz
 have h65 : ((l.length : Int) == 64) = false := by rw [beq_eq_false_iff_ne]; omega
 have h66 : (l.length == 64) = false := by rw [beq_eq_false_iff_ne]; omega
 have HL := Aside0.mk (And.intro h64 (And.intro hn hlt))
 have hp0 : (0 : Int) ≤ (i : Int) := by omega
 have hp1 : (i : Int) ≤ (l.length : Int) := by omega
 have hp3 : ¬ c0 = i := by omega
 have hp5 : i ≤ c0 := by omega
 have hp6 : i ≤ l.length := by omega
 clear h64 hn his hz hR hlt
 have HB := Aside0.mk (below_alloc (Below.refl w.heap.size w) (.cells #[.int .u64 x.f0, .string x.f1] 46))
 have X0 := Aside0.mk (two_new w x.f0 x.f1 0 _ rfl)
 have X1 := Aside0.mk (two_new w x.f0 x.f1 1 _ rfl)
 simp only [Addr.add_lit] at X0 X1
 go_enter Tryd.func36, Tryd.ntmps36
 go_wp2_with (first | (go_at_call 71; refine (HP.out _ (below_step (below_alloc (Below.refl _ _) _) (Below.refl _ _))).mono ?_; rintro e w1 ⟨rfl, hb1⟩; replace X0 := Aside0.mk ((hb1.cell (World.block_lt_of_cell? _ _ X0.out)).trans X0.out); replace X1 := Aside0.mk ((hb1.cell (World.block_lt_of_cell? _ _ X1.out)).trans X1.out); (try clear hx0 hx1); have hx0 := X0.out; have hx1 := X1.out; replace HB := Aside0.mk (below_step HB.out hb1); clear hb1) | (go_at_call 38; refine (HQ.out _ HB.out).mono ?_; rintro e w1 ⟨rfl, hb1⟩; replace X0 := Aside0.mk ((hb1.cell (World.block_lt_of_cell? _ _ X0.out)).trans X0.out); replace X1 := Aside0.mk ((hb1.cell (World.block_lt_of_cell? _ _ X1.out)).trans X1.out); (try clear hx0 hx1); have hx0 := X0.out; have hx1 := X1.out; replace HB := Aside0.mk (below_step HB.out hb1); clear hb1))
 obtain ⟨h64, hn, hlt⟩ := HL.out
 have HW := Aside0.mk (Kd.C_alloc (Kd.C_drew (Kd.C_below HC.out HB.out)) (.cells #[.int .u64 x.f0, .string x.f1] 46))
 have hz1 : (flat (l.take i)).length = i * 2 := by rw [flat_len, List.length_take, Nat.min_eq_left (by omega)]
 have hzd : (flat (l.drop i)).length = (l.length - i) * 2 := by rw [flat_len, List.length_drop]
 have hold : Hid (∀ b, some ad = some b → ∀ j u, (flat (l.take i))[j]? = some u → (w1.drew.alloc (.cells #[.int .u64 x.f0, .string x.f1] 46)).cell? (b.add j) = some u) := Lib.hid fun b hb j u hu => by
  obtain rfl := Option.some.inj hb
  exact flat_cells HW.out j u (flat_take l i j u hu)
 have hone : Hid (∀ u ∈ [Value.int .u64 x.f0, Value.string x.f1], u.oneCell' = true) := Lib.hid (flat_one [x])
 have hdone : Hid (∀ u ∈ flat (l.drop i), u.oneCell' = true) := Lib.hid (flat_one _)
 have hfull : i < i + 1 := by omega
 have hb1 : i + 1 ≤ maxLen := by simp only [maxLen]; omega
 have hb2 : (i + 1) * 24 ≤ 140737488355328 := by omega
 have hb3 : i + 1 + (l.length - i) ≤ maxLen := by simp only [maxLen]; omega
 have hb4 : (i + 1 + (l.length - i)) * 24 ≤ 140737488355328 := by omega
 have hxx0 := X0.out
 have hxx1 := X1.out
 have HL2 := Aside0.mk (And.intro h64 (And.intro hn hlt))
 clear h64 hn hlt
 go_region_law (first | (refine step_append_grows rfl (.tmp 44) (.tmp 46) 36 rfl 46 i0 (.agg #[.int .u64 0, .string ⟨#[]⟩]) 2 24 Tryd.underlying36 hi hiz hs hb rfl (by decide) (some ad) i i (flat (l.take i)) (by simp [Act.eval, Act.put]) (fun h => by cases h) hz1 hold.out ⟨w1.heap.size, 0, none⟩ 1 1 [.int .u64 x.f0, .string x.f1] (by simp [Act.eval, Act.put]) rfl (two_new w1.drew x.f0 x.f1) hone.out hfull hb1 hb2 ?_; intro v1 w2 hown1 hgrow1) | (refine step_append_own2 rfl (.tmp 47) (.tmp 48) 36 rfl _ 46 i0 (.agg #[.int .u64 0, .string ⟨#[]⟩]) 2 24 Tryd.underlying36 hi hiz hs hb rfl (by decide) v1 (i + 1) _ (by simp [Act.eval, Act.put]) hown1 (ad.add (i * 2)) (l.length - i) (c0 - i) (flat (l.drop i)) (by simp [Act.eval, Act.put]) hzd (fun j u hu => by rw [add_two]; exact flat_cells (Kd.C_below HW.out ((Below.refl _ _).grown hgrow1 (Nat.le_refl _) (fun k e => by cases e))) _ u (flat_drop l i hp6 j u hu)) hdone.out hb3 hb4 (by have := hgrow1.size; omega) ?_; intro v2 w3 hown2 hgrow2))
 obtain ⟨h64, hn, hlt⟩ := HL2.out
 have hlen : (l.take i ++ [x] ++ l.drop i).length = i + 1 + (l.length - i) := by rw [List.length_append, List.length_append, List.length_take, List.length_drop, Nat.min_eq_left (by omega)]; rfl
 have hfl : flat (l.take i ++ [x] ++ l.drop i) = flat (l.take i) ++ [.int .u64 x.f0, .string x.f1] ++ flat (l.drop i) := by rw [flat_app, flat_app]; rfl
 all_goals go_wp2
 all_goals go_ret2
 all_goals exact ⟨v2, rfl, own_row (by rw [hlen, hfl]; exact own_mono3 hown2 (by have := HB.out.size; simp; omega)), (((below_alloc (below_drew HB.out) _).grown hgrow1 (by have := HB.out.size; simp; omega) (fun k e => by cases e)).grown hgrow2 (by have := HB.out.size; have := hgrow1.size; simp at this; omega) (fun k e => by have := own_base hown1 k e; have := HB.out.size; simp at *; omega))⟩
set_option maxRecDepth 100000 in
set_option maxHeartbeats 4000000 in
theorem put_over (ad : Addr) (c0 : Nat) (l : List S46) (x : S46) (k : Nat) (w : World) (hr0 : Kd.C k46 w (some ad) l.length l) (hc0 : l.length ≤ c0) (hn : l.length ≤ 100000) (hR : skip_Right.f k l = some true) (hz : ¬64 < x.f1.size) (his : placeIs l x.f0 = true) (hlt : placeN l x.f0 + 1 < l.length) :
  Calls Tryd.prog 36 #[.slice (some ad) l.length c0, .agg #[.int .u64 x.f0, .string x.f1]] w fun e w' => ∃ v, e = .returned (.tuple #[v, .int .i64 0]) ∧ Kd.R k46 46 w' w.heap.size (fun _ => True) v (l.take (placeN l x.f0) ++ [x] ++ l.drop (placeN l x.f0 + 1)) ∧ Below w.heap.size w w' := by
 obtain ⟨i0, hi, hiz, hs, hb⟩ := info_parts item_info
 have HP := Lib.hid (fun W (hW : Below w.heap.size w W) => place_any (some ad) c0 l x.f0 W (Kd.C_below hr0 hW) hc0 (by omega))
 have HQ := Lib.hid (fun W (hW : Below w.heap.size w W) => skip_Right.calls k (some ad) c0 l true W (Kd.C_below hr0 hW) hc0 hR)
 rw [his] at HP
 have HC := Lib.hid hr0
 clear hr0
 generalize placeN l x.f0 = i at *
 have hz2 : decide (64 < (x.f1.size : Int)) = false := decide_eq_false (by omega)
 have hz3 : decide (64 < x.f1.size) = false := decide_eq_false hz
 have hwr : IntKind.i64.wrap ((i : Int) + 1) = (i : Int) + 1 := by rw [IntKind.wrap_i64]; omega
 have hw2 : wrap64 ((i : Int) + 1) = (i : Int) + 1 := by unfold wrap64; omega
 have hq0 : (0 : Int) ≤ (i : Int) + 1 := by omega
 have hq1 : (i : Int) + 1 ≤ (l.length : Int) := by omega
 have hq2 : ((i : Int) + 1).toNat = i + 1 := by omega
 have hq3 : ¬ c0 = i + 1 := by omega
 have HL := Aside0.mk (And.intro hn hlt)
 have hp0 : (0 : Int) ≤ (i : Int) := by omega
 have hp1 : (i : Int) ≤ (l.length : Int) := by omega
 have hp3 : ¬ c0 = i := by omega
 have hp5 : i ≤ c0 := by omega
 have hp6 : i + 1 ≤ l.length := by omega
 clear hn his hz hR hlt
 have HB := Aside0.mk (below_alloc (Below.refl w.heap.size w) (.cells #[.int .u64 x.f0, .string x.f1] 46))
 have X0 := Aside0.mk (two_new w x.f0 x.f1 0 _ rfl)
 have X1 := Aside0.mk (two_new w x.f0 x.f1 1 _ rfl)
 simp only [Addr.add_lit] at X0 X1
 go_enter Tryd.func36, Tryd.ntmps36
 go_wp2_with (first | (go_at_call 71; refine (HP.out _ (below_step (below_alloc (Below.refl _ _) _) (Below.refl _ _))).mono ?_; rintro e w1 ⟨rfl, hb1⟩; replace X0 := Aside0.mk ((hb1.cell (World.block_lt_of_cell? _ _ X0.out)).trans X0.out); replace X1 := Aside0.mk ((hb1.cell (World.block_lt_of_cell? _ _ X1.out)).trans X1.out); (try clear hx0 hx1); have hx0 := X0.out; have hx1 := X1.out; replace HB := Aside0.mk (below_step HB.out hb1); clear hb1) | (go_at_call 38; refine (HQ.out _ HB.out).mono ?_; rintro e w1 ⟨rfl, hb1⟩; replace X0 := Aside0.mk ((hb1.cell (World.block_lt_of_cell? _ _ X0.out)).trans X0.out); replace X1 := Aside0.mk ((hb1.cell (World.block_lt_of_cell? _ _ X1.out)).trans X1.out); (try clear hx0 hx1); have hx0 := X0.out; have hx1 := X1.out; replace HB := Aside0.mk (below_step HB.out hb1); clear hb1))
 obtain ⟨hn, hlt⟩ := HL.out
 have HW := Aside0.mk (Kd.C_alloc (Kd.C_drew (Kd.C_below HC.out HB.out)) (.cells #[.int .u64 x.f0, .string x.f1] 46))
 have hz1 : (flat (l.take i)).length = i * 2 := by rw [flat_len, List.length_take, Nat.min_eq_left (by omega)]
 have hzd : (flat (l.drop (i + 1))).length = (l.length - (i + 1)) * 2 := by rw [flat_len, List.length_drop]
 have hold : Hid (∀ b, some ad = some b → ∀ j u, (flat (l.take i))[j]? = some u → (w1.drew.alloc (.cells #[.int .u64 x.f0, .string x.f1] 46)).cell? (b.add j) = some u) := Lib.hid fun b hb j u hu => by
  obtain rfl := Option.some.inj hb
  exact flat_cells HW.out j u (flat_take l i j u hu)
 have hone : Hid (∀ u ∈ [Value.int .u64 x.f0, Value.string x.f1], u.oneCell' = true) := Lib.hid (flat_one [x])
 have hdone : Hid (∀ u ∈ flat (l.drop (i + 1)), u.oneCell' = true) := Lib.hid (flat_one _)
 have hfull : i < i + 1 := by omega
 have hb1 : i + 1 ≤ maxLen := by simp only [maxLen]; omega
 have hb2 : (i + 1) * 24 ≤ 140737488355328 := by omega
 have hb3 : i + 1 + (l.length - (i + 1)) ≤ maxLen := by simp only [maxLen]; omega
 have hb4 : (i + 1 + (l.length - (i + 1))) * 24 ≤ 140737488355328 := by omega
 have hxx0 := X0.out
 have hxx1 := X1.out
 have HL2 := Aside0.mk (And.intro hn hlt)
 clear hn hlt
 go_region_law (first | (refine step_append_grows rfl (.tmp 44) (.tmp 46) 36 rfl 46 i0 (.agg #[.int .u64 0, .string ⟨#[]⟩]) 2 24 Tryd.underlying36 hi hiz hs hb rfl (by decide) (some ad) i i (flat (l.take i)) (by simp [Act.eval, Act.put]) (fun h => by cases h) hz1 hold.out ⟨w1.heap.size, 0, none⟩ 1 1 [.int .u64 x.f0, .string x.f1] (by simp [Act.eval, Act.put]) rfl (two_new w1.drew x.f0 x.f1) hone.out hfull hb1 hb2 ?_; intro v1 w2 hown1 hgrow1) | (refine step_append_own2 rfl (.tmp 47) (.tmp 48) 36 rfl _ 46 i0 (.agg #[.int .u64 0, .string ⟨#[]⟩]) 2 24 Tryd.underlying36 hi hiz hs hb rfl (by decide) v1 (i + 1) _ (by simp [Act.eval, Act.put]) hown1 (ad.add ((i + 1) * 2)) (l.length - (i + 1)) (c0 - (i + 1)) (flat (l.drop (i + 1))) (by simp [Act.eval, Act.put]) hzd (fun j u hu => by rw [add_two]; exact flat_cells (Kd.C_below HW.out ((Below.refl _ _).grown hgrow1 (Nat.le_refl _) (fun k e => by cases e))) _ u (flat_drop l (i + 1) hp6 j u hu)) hdone.out hb3 hb4 (by have := hgrow1.size; omega) ?_; intro v2 w3 hown2 hgrow2))
 obtain ⟨hn, hlt⟩ := HL2.out
 have hlen : (l.take i ++ [x] ++ l.drop (i + 1)).length = i + 1 + (l.length - (i + 1)) := by rw [List.length_append, List.length_append, List.length_take, List.length_drop, Nat.min_eq_left (by omega)]; rfl
 have hfl : flat (l.take i ++ [x] ++ l.drop (i + 1)) = flat (l.take i) ++ [.int .u64 x.f0, .string x.f1] ++ flat (l.drop (i + 1)) := by rw [flat_app, flat_app]; rfl
 all_goals go_wp2
 all_goals go_ret2
 all_goals exact ⟨v2, rfl, own_row (by rw [hlen, hfl]; exact own_mono3 hown2 (by have := HB.out.size; simp; omega)), (((below_alloc (below_drew HB.out) _).grown hgrow1 (by have := HB.out.size; simp; omega) (fun k e => by cases e)).grown hgrow2 (by have := HB.out.size; have := hgrow1.size; simp at this; omega) (fun k e => by have := own_base hown1 k e; have := HB.out.size; simp at *; omega))⟩
set_option maxRecDepth 100000 in
set_option maxHeartbeats 4000000 in
theorem put_end (ad : Addr) (c0 : Nat) (l : List S46) (x : S46) (k : Nat) (w : World) (hr0 : Kd.C k46 w (some ad) l.length l) (hc0 : l.length ≤ c0) (hn : l.length ≤ 100000) (hR : skip_Right.f k l = some true) (hz : ¬64 < x.f1.size) (his : placeIs l x.f0 = false) (h64 : ¬l.length = 64) (hlt : placeN l x.f0 = l.length) :
  Calls Tryd.prog 36 #[.slice (some ad) l.length c0, .agg #[.int .u64 x.f0, .string x.f1]] w fun e w' => ∃ v, e = .returned (.tuple #[v, .int .i64 0]) ∧ Kd.R k46 46 w' w.heap.size (fun _ => True) v (l.take (placeN l x.f0) ++ [x]) ∧ Below w.heap.size w w' := by
 obtain ⟨i0, hi, hiz, hs, hb⟩ := info_parts item_info
 have HP := Lib.hid (fun W (hW : Below w.heap.size w W) => place_any (some ad) c0 l x.f0 W (Kd.C_below hr0 hW) hc0 (by omega))
 have HQ := Lib.hid (fun W (hW : Below w.heap.size w W) => skip_Right.calls k (some ad) c0 l true W (Kd.C_below hr0 hW) hc0 hR)
 rw [his] at HP
 have HC := Lib.hid hr0
 clear hr0
 generalize placeN l x.f0 = i at *
 have hz2 : decide (64 < (x.f1.size : Int)) = false := decide_eq_false (by omega)
 have hz3 : decide (64 < x.f1.size) = false := decide_eq_false hz
 have h65 : ((l.length : Int) == 64) = false := by rw [beq_eq_false_iff_ne]; omega
 have h66 : (l.length == 64) = false := by rw [beq_eq_false_iff_ne]; omega
 have HL := Aside0.mk (And.intro h64 (And.intro hn hlt))
 have hp0 : (0 : Int) ≤ (i : Int) := by omega
 have hp1 : (i : Int) ≤ (l.length : Int) := by omega
 have hp4 : l.length - i = 0 := by omega
 have hp5 : i ≤ c0 := by omega
 have hp6 : i ≤ l.length := by omega
 clear h64 hn his hz hR hlt
 have HB := Aside0.mk (below_alloc (Below.refl w.heap.size w) (.cells #[.int .u64 x.f0, .string x.f1] 46))
 have X0 := Aside0.mk (two_new w x.f0 x.f1 0 _ rfl)
 have X1 := Aside0.mk (two_new w x.f0 x.f1 1 _ rfl)
 simp only [Addr.add_lit] at X0 X1
 go_enter Tryd.func36, Tryd.ntmps36
 go_wp2_with (first | (go_at_call 71; refine (HP.out _ (below_step (below_alloc (Below.refl _ _) _) (Below.refl _ _))).mono ?_; rintro e w1 ⟨rfl, hb1⟩; replace X0 := Aside0.mk ((hb1.cell (World.block_lt_of_cell? _ _ X0.out)).trans X0.out); replace X1 := Aside0.mk ((hb1.cell (World.block_lt_of_cell? _ _ X1.out)).trans X1.out); (try clear hx0 hx1); have hx0 := X0.out; have hx1 := X1.out; replace HB := Aside0.mk (below_step HB.out hb1); clear hb1) | (go_at_call 38; refine (HQ.out _ HB.out).mono ?_; rintro e w1 ⟨rfl, hb1⟩; replace X0 := Aside0.mk ((hb1.cell (World.block_lt_of_cell? _ _ X0.out)).trans X0.out); replace X1 := Aside0.mk ((hb1.cell (World.block_lt_of_cell? _ _ X1.out)).trans X1.out); (try clear hx0 hx1); have hx0 := X0.out; have hx1 := X1.out; replace HB := Aside0.mk (below_step HB.out hb1); clear hb1))
 all_goals
  obtain ⟨h64, hn, hlt⟩ := HL.out
  have HW := Aside0.mk (Kd.C_alloc (Kd.C_drew (Kd.C_below HC.out HB.out)) (.cells #[.int .u64 x.f0, .string x.f1] 46))
  have hz1 : (flat (l.take i)).length = i * 2 := by rw [flat_len, List.length_take, Nat.min_eq_left (by omega)]
  have hold : Hid (∀ b, (some ad) = some b → ∀ j u, (flat (l.take i))[j]? = some u → (w1.drew.alloc (.cells #[.int .u64 x.f0, .string x.f1] 46)).cell? (b.add j) = some u) := Lib.hid fun b hb j u hu => by
   obtain rfl := Option.some.inj hb
   exact flat_cells HW.out j u (flat_take l i j u hu)
  have hone : Hid (∀ u ∈ [Value.int .u64 x.f0, Value.string x.f1], u.oneCell' = true) := Lib.hid (flat_one [x])
  have hfull : i < i + 1 := by omega
  have hb1 : i + 1 ≤ maxLen := by simp only [maxLen]; omega
  have hb2 : (i + 1) * 24 ≤ 140737488355328 := by omega
  have hxx0 := X0.out
  have hxx1 := X1.out
  have HL2 := Aside0.mk (And.intro h64 (And.intro hn hlt))
  clear h64 hn hlt
  go_region_law (first | (refine step_append_grows rfl (.tmp 44) (.tmp 46) 36 rfl 46 i0 (.agg #[.int .u64 0, .string ⟨#[]⟩]) 2 24 Tryd.underlying36 hi hiz hs hb rfl (by decide) (some ad) i i (flat (l.take i)) (by simp [Act.eval, Act.put]) (fun h => by cases h) hz1 hold.out ⟨w1.heap.size, 0, none⟩ 1 1 [.int .u64 x.f0, .string x.f1] (by simp [Act.eval, Act.put]) rfl (two_new w1.drew x.f0 x.f1) hone.out hfull hb1 hb2 ?_; intro v1 w2 hown1 hgrow1; obtain ⟨g1, cap1, rfl, hcap1⟩ := own_succ2 hown1) | (refine step_append_nothing rfl (.tmp 47) (.tmp 48) 36 rfl 46 i0 Tryd.underlying36 hi (some ⟨g1, 0, none⟩) (i + 1) cap1 (by simp [Act.eval, Act.put]) hcap1 _ rfl (src_nothing _ _ _ _) ?_))
  obtain ⟨h64, hn, hlt⟩ := HL2.out
  have hlen : (l.take i ++ [x]).length = i + 1 := by rw [List.length_append, List.length_take, Nat.min_eq_left (by omega)]; rfl
  have hfl : flat (l.take i ++ [x]) = flat (l.take i) ++ [.int .u64 x.f0, .string x.f1] := by rw [flat_app]; rfl
  all_goals go_wp2
  all_goals go_ret2
  all_goals exact ⟨_, rfl, own_row (by rw [hlen, hfl]; exact own_mono3 hown1 (by have := HB.out.size; simp; omega)), (below_alloc (below_drew HB.out) _).grown hgrow1 (by have := HB.out.size; simp; omega) (fun k e => by cases e)⟩
set_option maxRecDepth 100000 in
set_option maxHeartbeats 4000000 in
theorem put_overend (ad : Addr) (c0 : Nat) (l : List S46) (x : S46) (k : Nat) (w : World) (hr0 : Kd.C k46 w (some ad) l.length l) (hc0 : l.length ≤ c0) (hn : l.length ≤ 100000) (hR : skip_Right.f k l = some true) (hz : ¬64 < x.f1.size) (his : placeIs l x.f0 = true) (hlt : placeN l x.f0 + 1 = l.length) :
  Calls Tryd.prog 36 #[.slice (some ad) l.length c0, .agg #[.int .u64 x.f0, .string x.f1]] w fun e w' => ∃ v, e = .returned (.tuple #[v, .int .i64 0]) ∧ Kd.R k46 46 w' w.heap.size (fun _ => True) v (l.take (placeN l x.f0) ++ [x]) ∧ Below w.heap.size w w' := by
 obtain ⟨i0, hi, hiz, hs, hb⟩ := info_parts item_info
 have HP := Lib.hid (fun W (hW : Below w.heap.size w W) => place_any (some ad) c0 l x.f0 W (Kd.C_below hr0 hW) hc0 (by omega))
 have HQ := Lib.hid (fun W (hW : Below w.heap.size w W) => skip_Right.calls k (some ad) c0 l true W (Kd.C_below hr0 hW) hc0 hR)
 rw [his] at HP
 have HC := Lib.hid hr0
 clear hr0
 generalize placeN l x.f0 = i at *
 have hz2 : decide (64 < (x.f1.size : Int)) = false := decide_eq_false (by omega)
 have hz3 : decide (64 < x.f1.size) = false := decide_eq_false hz
 have hwr : IntKind.i64.wrap ((i : Int) + 1) = (i : Int) + 1 := by rw [IntKind.wrap_i64]; omega
 have hw2 : wrap64 ((i : Int) + 1) = (i : Int) + 1 := by unfold wrap64; omega
 have hq0 : (0 : Int) ≤ (i : Int) + 1 := by omega
 have hle1 : (i : Int) ≤ (i : Int) + 1 := by omega
 have hq1 : (i : Int) + 1 ≤ (l.length : Int) := by omega
 have hq2 : ((i : Int) + 1).toNat = i + 1 := by omega
 have HL := Aside0.mk (And.intro hn hlt)
 have hp0 : (0 : Int) ≤ (i : Int) := by omega
 have hp1 : (i : Int) ≤ (l.length : Int) := by omega
 have hp4 : l.length - (i + 1) = 0 := by omega
 have hp5 : i ≤ c0 := by omega
 have hp6 : i ≤ l.length := by omega
 have hcut := cut3 (some ad) l.length c0 (i : Int) (by omega) (by omega) hc0
 rw [Int.toNat_natCast] at hcut
 clear hn his hz hR hlt
 have HB := Aside0.mk (below_alloc (Below.refl w.heap.size w) (.cells #[.int .u64 x.f0, .string x.f1] 46))
 have X0 := Aside0.mk (two_new w x.f0 x.f1 0 _ rfl)
 have X1 := Aside0.mk (two_new w x.f0 x.f1 1 _ rfl)
 simp only [Addr.add_lit] at X0 X1
 go_enter Tryd.func36, Tryd.ntmps36
 go_wp2_with (first | (go_at_call 71; refine (HP.out _ (below_step (below_alloc (Below.refl _ _) _) (Below.refl _ _))).mono ?_; rintro e w1 ⟨rfl, hb1⟩; replace X0 := Aside0.mk ((hb1.cell (World.block_lt_of_cell? _ _ X0.out)).trans X0.out); replace X1 := Aside0.mk ((hb1.cell (World.block_lt_of_cell? _ _ X1.out)).trans X1.out); (try clear hx0 hx1); have hx0 := X0.out; have hx1 := X1.out; replace HB := Aside0.mk (below_step HB.out hb1); clear hb1) | (go_at_call 38; refine (HQ.out _ HB.out).mono ?_; rintro e w1 ⟨rfl, hb1⟩; replace X0 := Aside0.mk ((hb1.cell (World.block_lt_of_cell? _ _ X0.out)).trans X0.out); replace X1 := Aside0.mk ((hb1.cell (World.block_lt_of_cell? _ _ X1.out)).trans X1.out); (try clear hx0 hx1); have hx0 := X0.out; have hx1 := X1.out; replace HB := Aside0.mk (below_step HB.out hb1); clear hb1))
 all_goals
  obtain ⟨hn, hlt⟩ := HL.out
  have HW := Aside0.mk (Kd.C_alloc (Kd.C_drew (Kd.C_below HC.out HB.out)) (.cells #[.int .u64 x.f0, .string x.f1] 46))
  have hz1 : (flat (l.take i)).length = i * 2 := by rw [flat_len, List.length_take, Nat.min_eq_left (by omega)]
  have hold : Hid (∀ b, (some ad) = some b → ∀ j u, (flat (l.take i))[j]? = some u → (w1.drew.alloc (.cells #[.int .u64 x.f0, .string x.f1] 46)).cell? (b.add j) = some u) := Lib.hid fun b hb j u hu => by
   obtain rfl := Option.some.inj hb
   exact flat_cells HW.out j u (flat_take l i j u hu)
  have hone : Hid (∀ u ∈ [Value.int .u64 x.f0, Value.string x.f1], u.oneCell' = true) := Lib.hid (flat_one [x])
  have hfull : i < i + 1 := by omega
  have hb1 : i + 1 ≤ maxLen := by simp only [maxLen]; omega
  have hb2 : (i + 1) * 24 ≤ 140737488355328 := by omega
  have hxx0 := X0.out
  have hxx1 := X1.out
  have HL2 := Aside0.mk (And.intro hn hlt)
  clear hn hlt
  go_region_law (first | (refine step_append_grows rfl (.tmp 44) (.tmp 46) 36 rfl 46 i0 (.agg #[.int .u64 0, .string ⟨#[]⟩]) 2 24 Tryd.underlying36 hi hiz hs hb rfl (by decide) (some ad) i i (flat (l.take i)) (by simp [Act.eval, Act.put]) (fun h => by cases h) hz1 hold.out ⟨w1.heap.size, 0, none⟩ 1 1 [.int .u64 x.f0, .string x.f1] (by simp [Act.eval, Act.put]) rfl (two_new w1.drew x.f0 x.f1) hone.out hfull hb1 hb2 ?_; intro v1 w2 hown1 hgrow1; obtain ⟨g1, cap1, rfl, hcap1⟩ := own_succ2 hown1) | (refine step_append_nothing rfl (.tmp 47) (.tmp 48) 36 rfl 46 i0 Tryd.underlying36 hi (some ⟨g1, 0, none⟩) (i + 1) cap1 (by simp [Act.eval, Act.put]) hcap1 _ rfl (src_nothing _ _ _ _) ?_))
  obtain ⟨hn, hlt⟩ := HL2.out
  have hlen : (l.take i ++ [x]).length = i + 1 := by rw [List.length_append, List.length_take, Nat.min_eq_left (by omega)]; rfl
  have hfl : flat (l.take i ++ [x]) = flat (l.take i) ++ [.int .u64 x.f0, .string x.f1] := by rw [flat_app]; rfl
  all_goals go_wp2
  all_goals go_ret2
  all_goals exact ⟨_, rfl, own_row (by rw [hlen, hfl]; exact own_mono3 hown1 (by have := HB.out.size; simp; omega)), (below_alloc (below_drew HB.out) _).grown hgrow1 (by have := HB.out.size; simp; omega) (fun k e => by cases e)⟩
end Go.Proofs.YtolbhliepkcihaaDoor.Skip
end
section
namespace Go.Proofs.YtolbhliepkcihaaDoor.Skip
set_option linter.unusedSimpArgs false
set_option linter.unusedVariables false
open Go.RowKit Go.Proofs.YtolbhliepkcihaaDoor.Kinds Go.Proofs.YtolbhliepkcihaaDoor.QSF Go.Proofs.YtolbhliepkcihaaDoorW.PrintWords Go.Proofs.YtolbhliepkcihaaDoorW.PrintLast Go.Proofs.YtolbhliepkcihaaDoorW.PrintMore Go.Proofs.YtolbhliepkcihaaDoor.Sha Go.Proofs.YtolbhliepkcihaaDoor.Mac Go.Proofs.YtolbhliepkcihaaDoor.Codec Go.Proofs.YtolbhliepkcihaaDoor.Tower
set_option maxRecDepth 100000 in
set_option maxHeartbeats 4000000 in
theorem put_nil (c0 : Nat) (l : List S46) (x : S46) (k : Nat) (w : World) (hr0 : Kd.C k46 w none l.length l) (hc0 : l.length ≤ c0) (hn : l.length ≤ 100000) (hR : skip_Right.f k l = some true) (hz : ¬64 < x.f1.size) (his : placeIs l x.f0 = false) (h64 : ¬l.length = 64) (hlt : placeN l x.f0 = l.length) :
  Calls Tryd.prog 36 #[.slice none l.length c0, .agg #[.int .u64 x.f0, .string x.f1]] w fun e w' => ∃ v, e = .returned (.tuple #[v, .int .i64 0]) ∧ Kd.R k46 46 w' w.heap.size (fun _ => True) v (l.take (placeN l x.f0) ++ [x]) ∧ Below w.heap.size w w' := by
 obtain ⟨i0, hi, hiz, hs, hb⟩ := info_parts item_info
 have HP := Lib.hid (fun W (hW : Below w.heap.size w W) => place_any none c0 l x.f0 W (Kd.C_below hr0 hW) hc0 (by omega))
 have HQ := Lib.hid (fun W (hW : Below w.heap.size w W) => skip_Right.calls k none c0 l true W (Kd.C_below hr0 hW) hc0 hR)
 rw [his] at HP
 have hl0 : l.length = 0 := by
  rcases Nat.eq_zero_or_pos l.length with h | h
  ·exact h
  ·obtain ⟨ad, e, _⟩ := hr0.2.2 h
   cases e
 have HC := Lib.hid hr0
 clear hr0
 have HI0 : Hid (placeN l x.f0 = 0) := Lib.hid (by omega)
 clear hl0
 generalize placeN l x.f0 = i at *
 have hz2 : decide (64 < (x.f1.size : Int)) = false := decide_eq_false (by omega)
 have hz3 : decide (64 < x.f1.size) = false := decide_eq_false hz
 have h65 : ((l.length : Int) == 64) = false := by rw [beq_eq_false_iff_ne]; omega
 have h66 : (l.length == 64) = false := by rw [beq_eq_false_iff_ne]; omega
 have HL := Aside0.mk (And.intro h64 (And.intro hn hlt))
 have hp0 : (0 : Int) ≤ (i : Int) := by omega
 have hp1 : (i : Int) ≤ (l.length : Int) := by omega
 have hp4 : l.length - i = 0 := by omega
 have hp5 : i ≤ c0 := by omega
 have hp6 : i ≤ l.length := by omega
 clear h64 hn his hz hR hlt
 have HB := Aside0.mk (below_alloc (Below.refl w.heap.size w) (.cells #[.int .u64 x.f0, .string x.f1] 46))
 have X0 := Aside0.mk (two_new w x.f0 x.f1 0 _ rfl)
 have X1 := Aside0.mk (two_new w x.f0 x.f1 1 _ rfl)
 simp only [Addr.add_lit] at X0 X1
 go_enter Tryd.func36, Tryd.ntmps36
 go_wp2_with (first | (go_at_call 71; refine (HP.out _ (below_step (below_alloc (Below.refl _ _) _) (Below.refl _ _))).mono ?_; rintro e w1 ⟨rfl, hb1⟩; replace X0 := Aside0.mk ((hb1.cell (World.block_lt_of_cell? _ _ X0.out)).trans X0.out); replace X1 := Aside0.mk ((hb1.cell (World.block_lt_of_cell? _ _ X1.out)).trans X1.out); (try clear hx0 hx1); have hx0 := X0.out; have hx1 := X1.out; replace HB := Aside0.mk (below_step HB.out hb1); clear hb1) | (go_at_call 38; refine (HQ.out _ HB.out).mono ?_; rintro e w1 ⟨rfl, hb1⟩; replace X0 := Aside0.mk ((hb1.cell (World.block_lt_of_cell? _ _ X0.out)).trans X0.out); replace X1 := Aside0.mk ((hb1.cell (World.block_lt_of_cell? _ _ X1.out)).trans X1.out); (try clear hx0 hx1); have hx0 := X0.out; have hx1 := X1.out; replace HB := Aside0.mk (below_step HB.out hb1); clear hb1))
 all_goals
  obtain ⟨h64, hn, hlt⟩ := HL.out
  have HW := Aside0.mk (Kd.C_alloc (Kd.C_drew (Kd.C_below HC.out HB.out)) (.cells #[.int .u64 x.f0, .string x.f1] 46))
  have hz1 : (flat (l.take i)).length = i * 2 := by rw [flat_len, List.length_take, Nat.min_eq_left (by omega)]
  have hold : Hid (∀ b : Addr, none = some b → ∀ j u, (flat (l.take i))[j]? = some u → (w1.drew.alloc (.cells #[.int .u64 x.f0, .string x.f1] 46)).cell? (b.add j) = some u) := Lib.hid fun b hb j u hu => by
   cases hb
  have hone : Hid (∀ u ∈ [Value.int .u64 x.f0, Value.string x.f1], u.oneCell' = true) := Lib.hid (flat_one [x])
  have hfull : i < i + 1 := by omega
  have hb1 : i + 1 ≤ maxLen := by simp only [maxLen]; omega
  have hb2 : (i + 1) * 24 ≤ 140737488355328 := by omega
  have hxx0 := X0.out
  have hxx1 := X1.out
  have HL2 := Aside0.mk (And.intro h64 (And.intro hn hlt))
  clear h64 hn hlt
  go_region_law (first | (refine step_append_grows rfl (.tmp 44) (.tmp 46) 36 rfl 46 i0 (.agg #[.int .u64 0, .string ⟨#[]⟩]) 2 24 Tryd.underlying36 hi hiz hs hb rfl (by decide) none i i (flat (l.take i)) (by simp [Act.eval, Act.put]) (fun _ => ⟨HI0.out, HI0.out⟩) hz1 hold.out ⟨w1.heap.size, 0, none⟩ 1 1 [.int .u64 x.f0, .string x.f1] (by simp [Act.eval, Act.put]) rfl (two_new w1.drew x.f0 x.f1) hone.out hfull hb1 hb2 ?_; intro v1 w2 hown1 hgrow1; obtain ⟨g1, cap1, rfl, hcap1⟩ := own_succ2 hown1) | (refine step_append_nothing rfl (.tmp 47) (.tmp 48) 36 rfl 46 i0 Tryd.underlying36 hi (some ⟨g1, 0, none⟩) (i + 1) cap1 (by simp [Act.eval, Act.put]) hcap1 _ rfl (src_nothing _ _ _ _) ?_))
  obtain ⟨h64, hn, hlt⟩ := HL2.out
  have hlen : (l.take i ++ [x]).length = i + 1 := by rw [List.length_append, List.length_take, Nat.min_eq_left (by omega)]; rfl
  have hfl : flat (l.take i ++ [x]) = flat (l.take i) ++ [.int .u64 x.f0, .string x.f1] := by rw [flat_app]; rfl
  all_goals go_wp2
  all_goals go_ret2
  all_goals exact ⟨_, rfl, own_row (by rw [hlen, hfl]; exact own_mono3 hown1 (by have := HB.out.size; simp; omega)), (below_alloc (below_drew HB.out) _).grown hgrow1 (by have := HB.out.size; simp; omega) (fun k e => by cases e)⟩
end Go.Proofs.YtolbhliepkcihaaDoor.Skip
end
section
namespace Go.Proofs.YtolbhliepkcihaaDoor.QSF
open Go.RowKit Go.Proofs.YtolbhliepkcihaaDoor.Kinds Go.Proofs.YtolbhliepkcihaaDoorW.PrintWords Go.Proofs.YtolbhliepkcihaaDoorW.PrintLast Go.Proofs.YtolbhliepkcihaaDoorW.PrintMore
attribute [local go_sem] max2_int min2_int max_two min_two max_three min_three max_four min_four   -- for this text's walks alone
set_option linter.unusedVariables false
set_option linter.unusedSimpArgs false
theorem eqA48 (d : Nat) (w : World) (x0 y0 : Int) (x1 y1 : Int) :
  (Op.equalIn (d + 2) 48 (.agg #[.int .i64 x0, .int .i64 x1]) (.agg #[.int .i64 y0, .int .i64 y1])).run Tryd.prog w = .ok (x0 == y0 && (x1 == y1)) w := by
 refine eqA_of Tryd.underlying48 (by kernel_rfl) ?_
 refine eqf_cons (by rfl) (by go_simp; rfl) (by go_simp; rfl) (by go_simp) ?_
 exact eqf_last (by rfl) (by go_simp; rfl) (by go_simp; rfl) (by go_simp)
end Go.Proofs.YtolbhliepkcihaaDoor.QSF
end
section
namespace Go.Proofs.YtolbhliepkcihaaDoor.QSF
open Go.RowKit Go.Proofs.YtolbhliepkcihaaDoor.Kinds Go.Proofs.YtolbhliepkcihaaDoorW.PrintWords Go.Proofs.YtolbhliepkcihaaDoorW.PrintLast Go.Proofs.YtolbhliepkcihaaDoorW.PrintMore
attribute [local go_sem] max2_int min2_int max_two min_two max_three min_three max_four min_four   -- for this text's walks alone
set_option linter.unusedVariables false
set_option linter.unusedSimpArgs false
attribute [local go_sem high] eqA48
/-! ### saltusref16_Right: function 25 -/
mutual
def saltusref16_Right.l0 : Nat → List (S46) → List (S46) → Int → Int → Option (Bool)
 | 0, _, _, _, _ => none
 | k + 1, x0, x7, x8, x9 => if x9 < x8 then (if 0 ≤ x9 then (if x9 < (x7.length : Int) then (if (((rd_T46 x7 x9).f1).size : Int) > 64 then (some false) else (if x9 ≤ (x0.length : Int) then ((some (x0.take (x9 : Int).toNat : List (S46))).bind fun y119 => (saltusref16_Right.l1 k x0 x7 x8 x9 y119 (y119.length : Int) 0 ((rd_T46 x7 x9).f0) ((rd_T46 x7 x9).f1))) else (none))) else (none)) else (none)) else (some (decide ((x0.length : Int) ≤ 64)))
def saltusref16_Right.l1 : Nat → List (S46) → List (S46) → Int → Int → List (S46) → Int → Int → Int → ByteArray → Option (Bool)
 | 0, _, _, _, _, _, _, _, _, _ => none
 | k + 1, x0, x7, x8, x9, x20, x21, x22, x119000, x119001 => if x22 < x21 then (if 0 ≤ x22 then (if x22 < (x20.length : Int) then (if ((rd_T46 x20 x22).f0) ≥ x119000 then (some false) else (saltusref16_Right.l1 k x0 x7 x8 x9 x20 x21 (wrap64 (x22 + 1)) x119000 x119001)) else (none)) else (none)) else (saltusref16_Right.l0 k x0 x7 x8 (wrap64 (x9 + 1)))
end
def saltusref16_Right.f (k : Nat) (l0 : List (S46)) : Option (Bool) := saltusref16_Right.l0 k l0 l0 (l0.length : Int) 0
theorem saltusref16_Right.mono_l : ∀ k, (∀ y0 y1 y2 y3, LeO (saltusref16_Right.l0 k y0 y1 y2 y3) (saltusref16_Right.l0 (k + 1) y0 y1 y2 y3)) ∧ (∀ y0 y1 y2 y3 y4 y5 y6 y7 y8, LeO (saltusref16_Right.l1 k y0 y1 y2 y3 y4 y5 y6 y7 y8) (saltusref16_Right.l1 (k + 1) y0 y1 y2 y3 y4 y5 y6 y7 y8))
 | 0 => ⟨fun _ _ _ _ r h => by simp [saltusref16_Right.l0] at h, fun _ _ _ _ _ _ _ _ _ r h => by simp [saltusref16_Right.l1] at h⟩
 | k + 1 => by
  obtain ⟨ih0, ih1⟩ := saltusref16_Right.mono_l k
  refine ⟨?_, ?_⟩
  ·intro y0 y1 y2 y3
   unfold saltusref16_Right.l0
   repeat' first
   | (with_reducible exact ih0 _ _ _ _)
   | (with_reducible exact ih1 _ _ _ _ _ _ _ _ _)
   | (with_reducible exact LeO.refl _)
   | (with_reducible exact LeO.none _)
   | (with_reducible refine LeO.ite ?_ ?_)
   | (with_reducible refine LeO.bind ?_ (fun _ => ?_))
   | exact ih0 _ _ _ _
   | exact ih1 _ _ _ _ _ _ _ _ _
   | exact LeO.none _
   | refine LeO.ite ?_ ?_
   | refine LeO.bind ?_ (fun _ => ?_)
  ·intro y0 y1 y2 y3 y4 y5 y6 y7 y8
   unfold saltusref16_Right.l1
   repeat' first
   | (with_reducible exact ih0 _ _ _ _)
   | (with_reducible exact ih1 _ _ _ _ _ _ _ _ _)
   | (with_reducible exact LeO.refl _)
   | (with_reducible exact LeO.none _)
   | (with_reducible refine LeO.ite ?_ ?_)
   | (with_reducible refine LeO.bind ?_ (fun _ => ?_))
   | exact ih0 _ _ _ _
   | exact ih1 _ _ _ _ _ _ _ _ _
   | exact LeO.none _
   | refine LeO.ite ?_ ?_
   | refine LeO.bind ?_ (fun _ => ?_)
theorem saltusref16_Right.mono : ∀ a0 k, LeO (saltusref16_Right.f k a0) (saltusref16_Right.f (k + 1) a0) := by
 intro a0 k
 obtain ⟨ih0, ih1⟩ := saltusref16_Right.mono_l k
 unfold saltusref16_Right.f
 repeat' first
   | (with_reducible exact ih0 _ _ _ _)
   | (with_reducible exact ih1 _ _ _ _ _ _ _ _ _)
   | (with_reducible exact LeO.refl _)
   | (with_reducible exact LeO.none _)
   | (with_reducible refine LeO.ite ?_ ?_)
   | (with_reducible refine LeO.bind ?_ (fun _ => ?_))
   | exact ih0 _ _ _ _
   | exact ih1 _ _ _ _ _ _ _ _ _
   | exact LeO.none _
   | refine LeO.ite ?_ ?_
   | refine LeO.bind ?_ (fun _ => ?_)
set_option maxHeartbeats 8000000 in
set_option maxRecDepth 100000 in
theorem saltusref16_Right.calls (k : Nat) (A0 : Option Addr) (c0 : Nat) (l0 : List (S46)) (r : Bool) (w : World) (hr0 : Kd.C k46 w A0 l0.length l0) (hc0 : l0.length ≤ c0) (h : saltusref16_Right.f k l0 = some r) :
  Calls Tryd.prog 25 #[.slice A0 l0.length c0] w fun e w' => e = .returned (.bool r) ∧ Below w.heap.size w w' := by
 have hu46 := Tryd.underlying46
 have HR0 := Aside0.mk hr0
 have HC0 := Aside0.mk hc0
 clear hr0 hc0
 have HB := Aside0.mk (Below.refl w.heap.size w)
 have H : (saltusref16_Right.l0 k l0 l0 (l0.length : Int) 0) = some r := h
 clear h
 have H' := Aside0.mk H
 clear H
 go_enter Tryd.func25, Tryd.ntmps25
 go_wp2
 go_loopg [9] k (fun kq v9 w' => ∃ (x9_1 : Int), v9 = .int .i64 x9_1 ∧ Aside0 (saltusref16_Right.l0 kq l0 l0 (l0.length : Int) x9_1 = some r) ∧ Aside0 (kq ≤ k) ∧ Aside0 (Below w.heap.size w w'))
 case atStart => exact ⟨(0), (by first | rfl | (simp; done) | (simp [*]; done)), H', ⟨Nat.le_refl _⟩, ⟨by repeat (first | (with_reducible first | exact HB.out | apply below_alloc | apply pw_below_drewN | apply below_drew1) | exact HB.out)⟩⟩
 case round =>
  clear H'
  obtain ⟨x9_1, rfl, HA, HK1, HB⟩ := hrel
  cases gk with
  | zero => exact absurd HA.out (by simp [saltusref16_Right.l0])
  | succ k1 =>
   have H := HA.out
   clear HA
   simp only [saltusref16_Right.l0] at H
   by_cases c2 : x9_1 < (l0.length : Int)
   ·rw [if_pos c2] at H
    have c2b0 : decide (x9_1 < (l0.length : Int)) = true := decide_eq_true c2
    clear c2
    by_cases c3 : 0 ≤ x9_1
    ·rw [if_pos c3] at H
     have c3b0 : decide (0 ≤ x9_1) = true := decide_eq_true c3
     clear c3
     by_cases c4 : x9_1 < (l0.length : Int)
     ·rw [if_pos c4] at H
      have c4b0 : decide (x9_1 < (l0.length : Int)) = true := decide_eq_true c4
      clear c4
      by_cases c5 : (((rd_T46 l0 x9_1).f1).size : Int) > 64
      ·rw [if_pos c5] at H
       have c5b0 : decide (64 < (((rd_T46 l0 x9_1).f1).size : Int)) = true := decide_eq_true c5
       have c5b1 : decide (64 < ((rd_T46 l0 x9_1).f1).size) = true := decide_eq_true (by omega)
       clear c5
       obtain rfl := Option.some.inj H
       have p117 : 0 ≤ (x9_1 : Int) := of_decide_eq_true (by first | (with_reducible assumption) | assumption)
       have q117 : x9_1 < (l0.length : Int) := of_decide_eq_true (by first | (with_reducible assumption) | assumption)
       obtain ⟨ad117, e117, hx117_0, hx117_1⟩ := at_T46 HR0.out x9_1 p117 q117
       cases e117
       replace hx117_0 := (HB.out.cell (World.block_lt_of_cell? w _ hx117_0)).trans hx117_0
       replace hx117_1 := (HB.out.cell (World.block_lt_of_cell? w _ hx117_1)).trans hx117_1
       replace p117 := eq_true p117
       replace q117 := eq_true q117
       go_wp2_with (first | ((with_reducible refine gate_dst (N := 4) rfl ?_); refine box_event ?hg (N := 4) ?hd (cs := #[.int .u64 0, .string (⟨#[]⟩ : ByteArray)]) (t := 46) ?hr ?_; (case hd => rfl); (case hg => rfl); (case hr => first | (go_simp; done) | (go_simp; rfl)); intro gb118 hg w6 hbox hb; have n0_ := Aside0.mk (below_step (by repeat (first | (with_reducible first | exact HB.out | apply below_alloc | apply pw_below_drewN | apply below_drew1) | exact HB.out)) hb); have n1_ := Aside0.mk (hbox); have n2_ := Aside0.mk ((by rw [hg]; exact (below_size (by repeat (first | (with_reducible first | exact HB.out | apply below_alloc | apply pw_below_drewN | apply below_drew1) | exact HB.out))) : w.heap.size ≤ gb118)); have n3_ := Aside0.mk ((by rw [hg]; exact (below_size (by repeat (first | (with_reducible first | exact HB.out | apply below_alloc | apply pw_below_drewN | apply below_drew1) | exact HB.out))) : w.heap.size ≤ gb118)); clear HB; have HB := n0_; have BK118 := n1_; have GW118 := n2_; have GE118 := n3_; clear n0_ n1_ n2_ n3_; clear hb hbox hg; have hcz7_0 : w6.cell? ⟨gb118, 0, none⟩ = some (.int .u64 0) := (blk_cell BK118.out 0).trans rfl; have hcz7_1 : w6.cell? ⟨gb118, 1, none⟩ = some (.string (⟨#[]⟩ : ByteArray)) := (blk_cell BK118.out 1).trans rfl; have hfz7_0 := blk_frozen BK118.out 0; have hfz7_1 := blk_frozen BK118.out 1))
       go_ret
       exact ⟨by first | rfl | (simp [errW_none, errW_some] <;> rfl) | (simp [*, errW_none, errW_some] <;> rfl), by repeat (first | (with_reducible first | exact HB.out | apply below_alloc | apply pw_below_drewN | apply below_drew1 | refine below_set ?_ GE118.out) | exact HB.out)⟩
      ·rw [if_neg c5] at H
       have c5b0 : decide (64 < (((rd_T46 l0 x9_1).f1).size : Int)) = false := decide_eq_false c5
       have c5b1 : decide (64 < ((rd_T46 l0 x9_1).f1).size) = false := decide_eq_false (by omega)
       clear c5
       have c8b0 := eq_true (of_decide_eq_true (by first | (with_reducible assumption) | assumption) : 0 ≤ x9_1)
       by_cases c9 : x9_1 ≤ (l0.length : Int)
       ·rw [if_pos c9] at H
        have c9b0 := eq_true c9
        have c9b1 : decide (x9_1 ≤ (l0.length : Int)) = true := decide_eq_true c9
        clear c9
        obtain ⟨y119, hy119⟩ : ∃ y_ : List (S46), y_ = (l0.take (x9_1 : Int).toNat) := ⟨_, rfl⟩
        replace H : (saltusref16_Right.l1 k1 l0 l0 (l0.length : Int) x9_1 y119 (y119.length : Int) 0 ((rd_T46 l0 x9_1).f0) ((rd_T46 l0 x9_1).f1)) = some r := by first | (rw [hy119]; with_reducible exact H) | (have H2_ := (Option.bind_some _ _).symm.trans H; rw [hy119]; with_reducible exact H2_) | (have H2_ := (Option.bind_some _ _).symm.trans H; with_reducible exact H2_) | with_reducible exact H | (rw [hy119]; exact H) | exact H
        have Ny119 := Aside0.mk hy119
        clear hy119
        have H' := Aside0.mk H
        clear H
        have p117 : 0 ≤ (x9_1 : Int) := of_decide_eq_true (by first | (with_reducible assumption) | assumption)
        have q117 : x9_1 < (l0.length : Int) := of_decide_eq_true (by first | (with_reducible assumption) | assumption)
        obtain ⟨ad117, e117, hx117_0, hx117_1⟩ := at_T46 HR0.out x9_1 p117 q117
        cases e117
        replace hx117_0 := (HB.out.cell (World.block_lt_of_cell? w _ hx117_0)).trans hx117_0
        replace hx117_1 := (HB.out.cell (World.block_lt_of_cell? w _ hx117_1)).trans hx117_1
        replace p117 := eq_true p117
        replace q117 := eq_true q117
        go_wp2_with (first | ((with_reducible refine gate_dst (N := 4) rfl ?_); refine box_event ?hg (N := 4) ?hd (cs := #[.int .u64 0, .string (⟨#[]⟩ : ByteArray)]) (t := 46) ?hr ?_; (case hd => rfl); (case hg => rfl); (case hr => first | (go_simp; done) | (go_simp; rfl)); intro gb118 hg w10 hbox hb; have n0_ := Aside0.mk (below_step (by repeat (first | (with_reducible first | exact HB.out | apply below_alloc | apply pw_below_drewN | apply below_drew1) | exact HB.out)) hb); have n1_ := Aside0.mk (hbox); have n2_ := Aside0.mk ((by rw [hg]; exact (below_size (by repeat (first | (with_reducible first | exact HB.out | apply below_alloc | apply pw_below_drewN | apply below_drew1) | exact HB.out))) : w.heap.size ≤ gb118)); have n3_ := Aside0.mk ((by rw [hg]; exact (below_size (by repeat (first | (with_reducible first | exact HB.out | apply below_alloc | apply pw_below_drewN | apply below_drew1) | exact HB.out))) : w.heap.size ≤ gb118)); clear HB; have HB := n0_; have BK118 := n1_; have GW118 := n2_; have GE118 := n3_; clear n0_ n1_ n2_ n3_; clear hb hbox hg; have hcz11_0 : w10.cell? ⟨gb118, 0, none⟩ = some (.int .u64 0) := (blk_cell BK118.out 0).trans rfl; have hcz11_1 : w10.cell? ⟨gb118, 1, none⟩ = some (.string (⟨#[]⟩ : ByteArray)) := (blk_cell BK118.out 1).trans rfl; have hfz11_0 := blk_frozen BK118.out 0; have hfz11_1 := blk_frozen BK118.out 1) | ((with_reducible refine gate_store (t := 46) (p := 4) rfl ?_); refine store_event (t := 46) (p := 4) (v := ?vo_w12) (w1 := ((w10.setCell ⟨gb118, 0, none⟩ (.int .u64 ((rd_T46 l0 x9_1).f0))).setCell ⟨gb118, 1, none⟩ (.string ((rd_T46 l0 x9_1).f1)))) ?hg ?ho ?hn ?hr ?_; (case ho => rfl); (case hg => rfl); (case hn => rfl); (case hr => first | (go_simp; done) | (go_simp; rfl)); intro w12 hw; have n0_ : Aside0 (w12.heap[gb118]? = some (.cells #[.int .u64 ((rd_T46 l0 x9_1).f0), .string ((rd_T46 l0 x9_1).f1)] 46 (0, 0))) := ⟨(by rw [hw]; exact (by (with_reducible repeat (first | refine blk_drewN ?_ _ | refine blk_drew ?_ | refine blk_alloc ?_ _)); refine blk_put (cs := #[.int .u64 ((rd_T46 l0 x9_1).f0), .string (⟨#[]⟩ : ByteArray)]) ?_ 1 _ rfl; (with_reducible repeat (first | refine blk_drewN ?_ _ | refine blk_drew ?_ | refine blk_alloc ?_ _)); refine blk_put (cs := #[.int .u64 0, .string (⟨#[]⟩ : ByteArray)]) ?_ 0 _ rfl; (with_reducible repeat (first | refine blk_drewN ?_ _ | refine blk_drew ?_ | refine blk_alloc ?_ _)); exact BK118.out))⟩; have n1_ : Aside0 (Below w.heap.size w w12) := ⟨(by rw [hw]; exact (by repeat (first | (with_reducible first | exact HB.out | apply below_alloc | apply pw_below_drewN | apply below_drew1 | refine below_set ?_ GE118.out) | exact HB.out)))⟩; clear hw; clear BK118; clear HB; have BK118 := n0_; have HB := n1_; clear n0_ n1_; have hcz13_0 : w12.cell? ⟨gb118, 0, none⟩ = some (.int .u64 ((rd_T46 l0 x9_1).f0)) := (blk_cell BK118.out 0).trans rfl; have hcz13_1 : w12.cell? ⟨gb118, 1, none⟩ = some (.string ((rd_T46 l0 x9_1).f1)) := (blk_cell BK118.out 1).trans rfl; have hfz13_0 := blk_frozen BK118.out 0; have hfz13_1 := blk_frozen BK118.out 1; have q14 : (x9_1 : Int) ≤ ((l0.length : Int) : Int) := of_decide_eq_true (by first | (with_reducible assumption) | assumption); obtain ⟨i014, hi014, _, hsz14, _⟩ := info_parts info46; have hroom14 : l0.length ≤ c0 := HC0.out; have hC14 : Kd.C k46 _ (some ad117) l0.length l0 := HR0.out; have hcut14 := cut_to (P := Tryd.prog) 36 46 .i64 Tryd.underlying36 hi014 (some ad117) l0.length c0 x9_1 (of_decide_eq_true (by first | (with_reducible assumption) | assumption)) q14 hroom14; have hr14 := Kd.C_take (m := (x9_1 : Int).toNat) hC14 (by omega); have hy14 : y119.length = (x9_1 : Int).toNat := (by rw [Ny119.out, List.length_take]; omega); rw [← Ny119.out] at hr14; rw [← hy14] at hcut14; have HR122 := Aside0.mk hr14; have HC122 := Aside0.mk (show y119.length ≤ c0 from by omega); clear hr14 hC14 hroom14 hi014 hsz14; have KY14 := Aside0.mk hy14; clear hy14; replace q14 := eq_true q14))
        go_loopg [22] k1 (fun kq v22 w' => ∃ (x22_2 : Int), v22 = .int .i64 x22_2 ∧ Aside0 (saltusref16_Right.l1 kq l0 l0 (l0.length : Int) x9_1 y119 (y119.length : Int) x22_2 ((rd_T46 l0 x9_1).f0) ((rd_T46 l0 x9_1).f1) = some r) ∧ Aside0 (kq ≤ k1) ∧ Aside0 (w'.heap[gb118]? = some (.cells #[.int .u64 ((rd_T46 l0 x9_1).f0), .string ((rd_T46 l0 x9_1).f1)] 46 (0, 0))) ∧ Aside0 (Below w.heap.size w w'))
        case atStart => exact ⟨(0), (by first | rfl | (simp; done) | (simp [*]; done)), H', ⟨Nat.le_refl _⟩, ⟨by (with_reducible repeat (first | refine blk_drewN ?_ _ | refine blk_drew ?_ | refine blk_alloc ?_ _)); exact BK118.out⟩, ⟨by repeat (first | (with_reducible first | exact HB.out | apply below_alloc | apply pw_below_drewN | apply below_drew1 | refine below_set ?_ GE118.out) | exact HB.out)⟩⟩
        case round =>
         clear H'
         try clear p1
         try clear q1
         try clear hx1
         try clear c2
         try clear c2b0
         try clear p2
         try clear c3
         try clear c3b0
         try clear c4
         try clear c4b0
         try clear c5
         try clear c5b0
         try clear c5b1
         try clear c8
         try clear c8b0
         try clear c9
         try clear c9b0
         try clear c9b1
         try clear p11
         try clear q11
         try clear hx11
         try clear q14
         try clear hcz11_0
         try clear hcz11_1
         try clear hcz13_0
         try clear hcz13_1
         try clear hcz7_0
         try clear hcz7_1
         try clear hfz11_0
         try clear hfz11_1
         try clear hfz13_0
         try clear hfz13_1
         try clear hfz7_0
         try clear hfz7_1
         try clear hx117_0
         try clear hx117_1
         try clear p117
         try clear q117
         try clear q14
         obtain ⟨x22_2, rfl, HA, HK2, BK118, HB⟩ := hrel
         cases gk with
         | zero => exact absurd HA.out (by simp [saltusref16_Right.l1])
         | succ k2 =>
          have H := HA.out
          clear HA
          simp only [saltusref16_Right.l1] at H
          by_cases c15 : x22_2 < (y119.length : Int)
          ·rw [if_pos c15] at H
           have c15b0 : decide (x22_2 < (y119.length : Int)) = true := decide_eq_true c15
           clear c15
           by_cases c16 : 0 ≤ x22_2
           ·rw [if_pos c16] at H
            have c16b0 : decide (0 ≤ x22_2) = true := decide_eq_true c16
            clear c16
            by_cases c17 : x22_2 < (y119.length : Int)
            ·rw [if_pos c17] at H
             have c17b0 : decide (x22_2 < (y119.length : Int)) = true := decide_eq_true c17
             clear c17
             by_cases c18 : ((rd_T46 y119 x22_2).f0) ≥ ((rd_T46 l0 x9_1).f0)
             ·rw [if_pos c18] at H
              have c18b0 : decide (((rd_T46 l0 x9_1).f0) ≤ ((rd_T46 y119 x22_2).f0)) = true := decide_eq_true c18
              clear c18
              obtain rfl := Option.some.inj H
              have p123 : 0 ≤ (x22_2 : Int) := of_decide_eq_true (by first | (with_reducible assumption) | assumption)
              have q123 : x22_2 < (y119.length : Int) := of_decide_eq_true (by first | (with_reducible assumption) | assumption)
              obtain ⟨ad123, e123, hx123_0, hx123_1⟩ := at_T46 HR122.out x22_2 p123 q123
              obtain rfl : ad117 = ad123 := (by injection e123)
              replace hx123_0 := (HB.out.cell (World.block_lt_of_cell? w _ hx123_0)).trans hx123_0
              replace hx123_1 := (HB.out.cell (World.block_lt_of_cell? w _ hx123_1)).trans hx123_1
              replace p123 := eq_true p123
              replace q123 := eq_true q123
              go_wp2_with (first | ((with_reducible refine gate_dst (N := 6) rfl ?_); refine box_event ?hg (N := 6) ?hd (cs := #[.int .u64 0, .string (⟨#[]⟩ : ByteArray)]) (t := 46) ?hr ?_; (case hd => rfl); (case hg => rfl); (case hr => first | (go_simp; done) | (go_simp; rfl)); intro gb124 hg w19 hbox hb; have n0_ := Aside0.mk (blk_below (g := gb118) (o := .cells #[.int .u64 ((rd_T46 l0 x9_1).f0), .string ((rd_T46 l0 x9_1).f1)] 46 (0, 0)) (by (with_reducible repeat (first | refine blk_drewN ?_ _ | refine blk_drew ?_ | refine blk_alloc ?_ _)); exact BK118.out) hb); have n1_ := Aside0.mk (below_step (by repeat (first | (with_reducible first | exact HB.out | apply below_alloc | apply pw_below_drewN | apply below_drew1 | refine below_set ?_ GE118.out) | exact HB.out)) hb); have n2_ := Aside0.mk (hbox); have n3_ := Aside0.mk ((by rw [hg]; exact (below_size (by repeat (first | (with_reducible first | exact HB.out | apply below_alloc | apply pw_below_drewN | apply below_drew1 | refine below_set ?_ GE118.out) | exact HB.out))) : w.heap.size ≤ gb124)); have n4_ := Aside0.mk ((by rw [hg]; exact (below_size (by repeat (first | (with_reducible first | exact HB.out | apply below_alloc | apply pw_below_drewN | apply below_drew1 | refine below_set ?_ GE118.out) | exact HB.out))) : w.heap.size ≤ gb124)); have n5_ := Aside0.mk ((by rw [hg]; exact Nat.ne_of_lt (blk_lt (g := gb118) (o := .cells #[.int .u64 ((rd_T46 l0 x9_1).f0), .string ((rd_T46 l0 x9_1).f1)] 46 (0, 0)) (by (with_reducible repeat (first | refine blk_drewN ?_ _ | refine blk_drew ?_ | refine blk_alloc ?_ _)); exact BK118.out)) : gb118 ≠ gb124)); have n6_ := Aside0.mk ((by rw [hg]; exact Nat.ne_of_gt (blk_lt (g := gb118) (o := .cells #[.int .u64 ((rd_T46 l0 x9_1).f0), .string ((rd_T46 l0 x9_1).f1)] 46 (0, 0)) (by (with_reducible repeat (first | refine blk_drewN ?_ _ | refine blk_drew ?_ | refine blk_alloc ?_ _)); exact BK118.out)) : gb124 ≠ gb118)); clear BK118; clear HB; have BK118 := n0_; have HB := n1_; have BK124 := n2_; have GW124 := n3_; have GE124 := n4_; have NB118_124 := n5_; have NB124_118 := n6_; clear n0_ n1_ n2_ n3_ n4_ n5_ n6_; clear hb hbox hg; have hnb20 := NB124_118.out; have hnc20 := NB118_124.out; have hcz21_0 : w19.cell? ⟨gb124, 0, none⟩ = some (.int .u64 0) := (blk_cell BK124.out 0).trans rfl; have hcz21_1 : w19.cell? ⟨gb124, 1, none⟩ = some (.string (⟨#[]⟩ : ByteArray)) := (blk_cell BK124.out 1).trans rfl; have hfz21_0 := blk_frozen BK124.out 0; have hfz21_1 := blk_frozen BK124.out 1; have hcz22_0 : w19.cell? ⟨gb118, 0, none⟩ = some (.int .u64 ((rd_T46 l0 x9_1).f0)) := (blk_cell BK118.out 0).trans rfl; have hcz22_1 : w19.cell? ⟨gb118, 1, none⟩ = some (.string ((rd_T46 l0 x9_1).f1)) := (blk_cell BK118.out 1).trans rfl; have hfz22_0 := blk_frozen BK118.out 0; have hfz22_1 := blk_frozen BK118.out 1))
              go_ret
              exact ⟨by first | rfl | (simp [errW_none, errW_some] <;> rfl) | (simp [*, errW_none, errW_some] <;> rfl), by repeat (first | (with_reducible first | exact HB.out | apply below_alloc | apply pw_below_drewN | apply below_drew1 | refine below_set ?_ GE118.out | refine below_set ?_ GE124.out) | exact HB.out)⟩
             ·rw [if_neg c18] at H
              have c18b0 : decide (((rd_T46 l0 x9_1).f0) ≤ ((rd_T46 y119 x22_2).f0)) = false := decide_eq_false c18
              clear c18
              have H' := Aside0.mk H
              clear H
              have p123 : 0 ≤ (x22_2 : Int) := of_decide_eq_true (by first | (with_reducible assumption) | assumption)
              have q123 : x22_2 < (y119.length : Int) := of_decide_eq_true (by first | (with_reducible assumption) | assumption)
              obtain ⟨ad123, e123, hx123_0, hx123_1⟩ := at_T46 HR122.out x22_2 p123 q123
              obtain rfl : ad117 = ad123 := (by injection e123)
              replace hx123_0 := (HB.out.cell (World.block_lt_of_cell? w _ hx123_0)).trans hx123_0
              replace hx123_1 := (HB.out.cell (World.block_lt_of_cell? w _ hx123_1)).trans hx123_1
              replace p123 := eq_true p123
              replace q123 := eq_true q123
              go_wp2_with (first | ((with_reducible refine gate_dst (N := 6) rfl ?_); refine box_event ?hg (N := 6) ?hd (cs := #[.int .u64 0, .string (⟨#[]⟩ : ByteArray)]) (t := 46) ?hr ?_; (case hd => rfl); (case hg => rfl); (case hr => first | (go_simp; done) | (go_simp; rfl)); intro gb124 hg w23 hbox hb; have n0_ := Aside0.mk (blk_below (g := gb118) (o := .cells #[.int .u64 ((rd_T46 l0 x9_1).f0), .string ((rd_T46 l0 x9_1).f1)] 46 (0, 0)) (by (with_reducible repeat (first | refine blk_drewN ?_ _ | refine blk_drew ?_ | refine blk_alloc ?_ _)); exact BK118.out) hb); have n1_ := Aside0.mk (below_step (by repeat (first | (with_reducible first | exact HB.out | apply below_alloc | apply pw_below_drewN | apply below_drew1 | refine below_set ?_ GE118.out) | exact HB.out)) hb); have n2_ := Aside0.mk (hbox); have n3_ := Aside0.mk ((by rw [hg]; exact (below_size (by repeat (first | (with_reducible first | exact HB.out | apply below_alloc | apply pw_below_drewN | apply below_drew1 | refine below_set ?_ GE118.out) | exact HB.out))) : w.heap.size ≤ gb124)); have n4_ := Aside0.mk ((by rw [hg]; exact (below_size (by repeat (first | (with_reducible first | exact HB.out | apply below_alloc | apply pw_below_drewN | apply below_drew1 | refine below_set ?_ GE118.out) | exact HB.out))) : w.heap.size ≤ gb124)); have n5_ := Aside0.mk ((by rw [hg]; exact Nat.ne_of_lt (blk_lt (g := gb118) (o := .cells #[.int .u64 ((rd_T46 l0 x9_1).f0), .string ((rd_T46 l0 x9_1).f1)] 46 (0, 0)) (by (with_reducible repeat (first | refine blk_drewN ?_ _ | refine blk_drew ?_ | refine blk_alloc ?_ _)); exact BK118.out)) : gb118 ≠ gb124)); have n6_ := Aside0.mk ((by rw [hg]; exact Nat.ne_of_gt (blk_lt (g := gb118) (o := .cells #[.int .u64 ((rd_T46 l0 x9_1).f0), .string ((rd_T46 l0 x9_1).f1)] 46 (0, 0)) (by (with_reducible repeat (first | refine blk_drewN ?_ _ | refine blk_drew ?_ | refine blk_alloc ?_ _)); exact BK118.out)) : gb124 ≠ gb118)); clear BK118; clear HB; have BK118 := n0_; have HB := n1_; have BK124 := n2_; have GW124 := n3_; have GE124 := n4_; have NB118_124 := n5_; have NB124_118 := n6_; clear n0_ n1_ n2_ n3_ n4_ n5_ n6_; clear hb hbox hg; have hnb24 := NB124_118.out; have hnc24 := NB118_124.out; have hcz25_0 : w23.cell? ⟨gb124, 0, none⟩ = some (.int .u64 0) := (blk_cell BK124.out 0).trans rfl; have hcz25_1 : w23.cell? ⟨gb124, 1, none⟩ = some (.string (⟨#[]⟩ : ByteArray)) := (blk_cell BK124.out 1).trans rfl; have hfz25_0 := blk_frozen BK124.out 0; have hfz25_1 := blk_frozen BK124.out 1; have hcz26_0 : w23.cell? ⟨gb118, 0, none⟩ = some (.int .u64 ((rd_T46 l0 x9_1).f0)) := (blk_cell BK118.out 0).trans rfl; have hcz26_1 : w23.cell? ⟨gb118, 1, none⟩ = some (.string ((rd_T46 l0 x9_1).f1)) := (blk_cell BK118.out 1).trans rfl; have hfz26_0 := blk_frozen BK118.out 0; have hfz26_1 := blk_frozen BK118.out 1))
              go_roundg k2
              case measure => have := HK1.out; have := HK2.out; omega
              case rel => exact ⟨(wrap64 (x22_2 + 1)), (by first | rfl | (simp; done) | (simp [*]; done)), H', ⟨by have := HK1.out; have := HK2.out; omega⟩, ⟨by (with_reducible repeat (first | refine blk_drewN ?_ _ | refine blk_drew ?_ | refine blk_alloc ?_ _)); refine blk_far ?_ NB118_124.out _; (with_reducible repeat (first | refine blk_drewN ?_ _ | refine blk_drew ?_ | refine blk_alloc ?_ _)); refine blk_far ?_ NB118_124.out _; (with_reducible repeat (first | refine blk_drewN ?_ _ | refine blk_drew ?_ | refine blk_alloc ?_ _)); exact BK118.out⟩, ⟨by repeat (first | (with_reducible first | exact HB.out | apply below_alloc | apply pw_below_drewN | apply below_drew1 | refine below_set ?_ GE118.out | refine below_set ?_ GE124.out) | exact HB.out)⟩⟩
            ·rw [if_neg c17] at H
             exact absurd H (by simp)
           ·rw [if_neg c16] at H
            exact absurd H (by simp)
          ·rw [if_neg c15] at H
           have c15b0 : decide (x22_2 < (y119.length : Int)) = false := decide_eq_false c15
           clear c15
           have H' := Aside0.mk H
           clear H
           go_wp2
           go_roundg k2
           case measure => have := HK1.out; have := HK2.out; omega
           case rel => exact ⟨(wrap64 (x9_1 + 1)), (by first | rfl | (simp; done) | (simp [*]; done)), H', ⟨by have := HK1.out; have := HK2.out; omega⟩, ⟨by repeat (first | (with_reducible first | exact HB.out | apply below_alloc | apply pw_below_drewN | apply below_drew1 | refine below_set ?_ GE118.out) | exact HB.out)⟩⟩
       ·rw [if_neg c9] at H
        exact absurd H (by simp)
     ·rw [if_neg c4] at H
      exact absurd H (by simp)
    ·rw [if_neg c3] at H
     exact absurd H (by simp)
   ·rw [if_neg c2] at H
    have c2b0 : decide (x9_1 < (l0.length : Int)) = false := decide_eq_false c2
    clear c2
    obtain rfl := Option.some.inj H
    go_wp2
    go_ret
    exact ⟨by first | rfl | (simp [errW_none, errW_some] <;> rfl) | (simp [*, errW_none, errW_some] <;> rfl), by repeat (first | (with_reducible first | exact HB.out | apply below_alloc | apply pw_below_drewN | apply below_drew1) | exact HB.out)⟩
/-! ### saltuslaw16_alive: function 26 -/
/-! ### saltusref16_Floor: function 27 -/
/-! ### saltusref16_HopsSame: function 28 -/
/-! ### saltusref15_Height: function 18 -/
/-! ### saltusref15_Heights: function 21 -/
end Go.Proofs.YtolbhliepkcihaaDoor.QSF
end
section
namespace Go.Proofs.YtolbhliepkcihaaDoor.QSF
open Go.RowKit Go.Proofs.YtolbhliepkcihaaDoor.Kinds Go.Proofs.YtolbhliepkcihaaDoorW.PrintWords Go.Proofs.YtolbhliepkcihaaDoorW.PrintLast Go.Proofs.YtolbhliepkcihaaDoorW.PrintMore
attribute [local go_sem] max2_int min2_int max_two min_two max_three min_three max_four min_four   -- for this text's walks alone
set_option linter.unusedVariables false
set_option linter.unusedSimpArgs false
/-! ### saltusref16_Keys: function 66 -/
/-! ### saltusref16_next: function 67 -/
/-! ### saltusref16_Hops: function 29 -/
/-! ### saltuslaw16_SkipFinds: function 6 -/
end Go.Proofs.YtolbhliepkcihaaDoor.QSF
end
section
namespace Go.Proofs.YtolbhliepkcihaaDoor.QSF
open Go.RowKit Go.Proofs.YtolbhliepkcihaaDoor.Kinds Go.Proofs.YtolbhliepkcihaaDoorW.PrintWords Go.Proofs.YtolbhliepkcihaaDoorW.PrintLast Go.Proofs.YtolbhliepkcihaaDoorW.PrintMore
attribute [local go_sem] max2_int min2_int max_two min_two max_three min_three max_four min_four   -- for this text's walks alone
set_option linter.unusedVariables false
set_option linter.unusedSimpArgs false
/-! ### saltuslaw16_SkipHops: function 7 -/
end Go.Proofs.YtolbhliepkcihaaDoor.QSF
end
section
namespace Go.Proofs.YtolbhliepkcihaaDoor.SkipPure
open Go.RowKit Go.Proofs.YtolbhliepkcihaaDoor.Kinds Go.Proofs.YtolbhliepkcihaaDoor.QSF Go.Proofs.YtolbhliepkcihaaDoorW.PrintWords Go.Proofs.YtolbhliepkcihaaDoorW.PrintLast Go.Proofs.YtolbhliepkcihaaDoorW.PrintMore Go.Proofs.YtolbhliepkcihaaDoor.Sha Go.Proofs.YtolbhliepkcihaaDoor.Mac Go.Proofs.YtolbhliepkcihaaDoor.Codec Go.Proofs.YtolbhliepkcihaaDoor.Tower
abbrev Item := S46
abbrev Hop := S48
def it (l : List Item) (i : Nat) : Item := rd_T46 l (i : Int)
def ky (l : List Item) (i : Nat) : Int := (it l i).f0
theorem w_succ (i n : Nat) (h : i < n) (hn : n ≤ 1000000000) : wrap64 ((i : Int) + 1) = ((i + 1 : Nat) : Int) := by unfold wrap64; omega
/-! ### a tower's height, by halving -/
/-! ### a list that may be -/
def okAt (l : List Item) (i : Nat) : Prop := (it l i).f1.size ≤ 64 ∧ (0 < i → ky l (i - 1) < ky l i)
def RightP (l : List Item) : Prop := (∀ i, i < l.length → okAt l i) ∧ l.length ≤ 64
theorem right_l0 (l : List Item) (hn : l.length ≤ 100000) (d : Nat) : ∀ i, i + d = l.length → (∀ j, j < i → okAt l j) →
  (RightP l ∧ Ev (fun k => skip_Right.l0 k l l (l.length : Int) (i : Int)) true) ∨ (¬RightP l ∧ Ev (fun k => skip_Right.l0 k l l (l.length : Int) (i : Int)) false) := by
 induction d with
 | zero =>
  intro i hi hp
  obtain rfl : i = l.length := by omega
  by_cases h : l.length ≤ 64
  ·refine .inl ⟨⟨hp, h⟩, Ev.step (fun k => ?_) (Ev.now true)⟩
   rw [skip_Right.l0, if_neg (by omega), decide_eq_true (show (l.length : Int) ≤ 64 by omega)]
  ·refine .inr ⟨fun hr => h hr.2, Ev.step (fun k => ?_) (Ev.now false)⟩
   rw [skip_Right.l0, if_neg (by omega), decide_eq_false (show ¬ (l.length : Int) ≤ 64 by omega)]
 | succ d ih =>
  intro i hi hp
  by_cases hs : (it l i).f1.size ≤ 64
  ·by_cases h0 : i = 0
   ·subst h0
    have hok : okAt l 0 := ⟨hs, fun h => absurd h (by omega)⟩
    have st : ∀ k, skip_Right.l0 (k + 1) l l (l.length : Int) ((0 : Nat) : Int) = skip_Right.l0 k l l (l.length : Int) ((0 + 1 : Nat) : Int) := fun k => by
     rw [skip_Right.l0, if_pos (by omega), if_pos (by omega), if_pos (by omega), if_neg (show ¬ ((((rd_T46 l ((0 : Nat) : Int)).f1).size : Int) > 64) by have := hs; unfold it at this; omega), if_neg (by omega), w_succ 0 l.length (by omega) (by omega)]
    rcases ih 1 (by omega) (fun j hj => by
     obtain rfl : j = 0 := (by omega)
     exact hok) with ⟨h1, h2⟩ | ⟨h1, h2⟩
    ·exact .inl ⟨h1, Ev.step st h2⟩
    ·exact .inr ⟨h1, Ev.step st h2⟩
   ·have ew : wrap64 ((i : Int) - 1) = ((i - 1 : Nat) : Int) := by unfold wrap64; omega
    by_cases hk : ky l (i - 1) < ky l i
    ·have hok : okAt l i := ⟨hs, fun _ => hk⟩
     have st : ∀ k, skip_Right.l0 (k + 1) l l (l.length : Int) (i : Int) = skip_Right.l0 k l l (l.length : Int) ((i + 1 : Nat) : Int) := fun k => by
      rw [skip_Right.l0, if_pos (by omega), if_pos (by omega), if_pos (by omega), if_neg (show ¬ ((((rd_T46 l (i : Int)).f1).size : Int) > 64) by have := hs; unfold it at this; omega), if_pos (by omega), ew, if_pos (by omega), if_pos (by omega),
       if_neg (show ¬ ((rd_T46 l ((i - 1 : Nat) : Int)).f0 ≥ (rd_T46 l (i : Int)).f0) by have := hk; unfold ky it at this; omega), w_succ i l.length (by omega) (by omega)]
     rcases ih (i + 1) (by omega) (fun j hj => by
      by_cases e : j = i
      ·subst e; exact hok
      ·exact hp j (by omega)) with ⟨h1, h2⟩ | ⟨h1, h2⟩
     ·exact .inl ⟨h1, Ev.step st h2⟩
     ·exact .inr ⟨h1, Ev.step st h2⟩
    ·refine .inr ⟨fun hr => hk ((hr.1 i (by omega)).2 (by omega)), Ev.step (fun k => ?_) (Ev.now false)⟩
     rw [skip_Right.l0, if_pos (by omega), if_pos (by omega), if_pos (by omega), if_neg (show ¬ ((((rd_T46 l (i : Int)).f1).size : Int) > 64) by have := hs; unfold it at this; omega), if_pos (by omega), ew, if_pos (by omega), if_pos (by omega),
       if_pos (show ((rd_T46 l ((i - 1 : Nat) : Int)).f0 ≥ (rd_T46 l (i : Int)).f0) by have := hk; unfold ky it at this; omega)]
  ·refine .inr ⟨fun hr => hs (hr.1 i (by omega)).1, Ev.step (fun k => ?_) (Ev.now false)⟩
   rw [skip_Right.l0, if_pos (by omega), if_pos (by omega), if_pos (by omega), if_pos (show ((((rd_T46 l (i : Int)).f1).size : Int) > 64) by have := hs; unfold it at this; omega)]
theorem right_ev (l : List Item) (hn : l.length ≤ 100000) : (RightP l ∧ Ev (fun k => skip_Right.f k l) true) ∨ (¬RightP l ∧ Ev (fun k => skip_Right.f k l) false) :=
 right_l0 l hn l.length 0 (by omega) (fun j hj => absurd hj (by omega))
theorem asc (l : List Item) (n : Nat) (h : ∀ j, j < n → okAt l j) (b : Nat) : ∀ a, a < b → b < n → ky l a < ky l b := by
 induction b with
 | zero => intro a ha; omega
 | succ b ih =>
  intro a ha hb
  have h1 := (h (b + 1) hb).2 (by omega)
  rw [show b + 1 - 1 = b from rfl] at h1
  by_cases e : a = b
  ·subst e; exact h1
  ·have := ih a (by omega) (by omega)
   omega
theorem it_take (l : List Item) (i j : Nat) (h : j < i) (_ : i ≤ l.length) : rd_T46 (l.take i) (j : Int) = it l j := by
 unfold it rd_T46
 rw [Int.toNat_natCast, List.getD_eq_getElem?_getD, List.getD_eq_getElem?_getD, List.getElem?_take, if_pos h]
theorem refright_l1 (l : List Item) (hn : l.length ≤ 100000) (i : Nat) (hi : i < l.length) (x : Int) (v : ByteArray) (e : Nat) : ∀ j, j + e = i →
  ((∀ q, j ≤ q → q < i → ky l q < x) → ∀ r, Ev (fun k => saltusref16_Right.l0 k l l (l.length : Int) ((i + 1 : Nat) : Int)) r → Ev (fun k => saltusref16_Right.l1 k l l (l.length : Int) (i : Int) (l.take i) ((l.take i).length : Int) (j : Int) x v) r) ∧
  ((∃ q, j ≤ q ∧ q < i ∧ ¬ky l q < x) → Ev (fun k => saltusref16_Right.l1 k l l (l.length : Int) (i : Int) (l.take i) ((l.take i).length : Int) (j : Int) x v) false) := by
 have hz : (l.take i).length = i := by rw [List.length_take]; omega
 induction e with
 | zero =>
  intro j hj
  obtain rfl : j = i := by omega
  refine ⟨fun _ r hr => Ev.step (fun k => ?_) hr, fun ⟨q, h1, h2, _⟩ => by omega⟩
  rw [saltusref16_Right.l1, if_neg (by omega), w_succ j l.length hi (by omega)]
 | succ e ih =>
  intro j hj
  obtain ⟨ih1, ih2⟩ := ih (j + 1) (by omega)
  by_cases hk : ky l j < x
  ·have st : ∀ k, saltusref16_Right.l1 (k + 1) l l (l.length : Int) (i : Int) (l.take i) ((l.take i).length : Int) (j : Int) x v = saltusref16_Right.l1 k l l (l.length : Int) (i : Int) (l.take i) ((l.take i).length : Int) ((j + 1 : Nat) : Int) x v := fun k => by
    rw [saltusref16_Right.l1, if_pos (by omega), if_pos (by omega), if_pos (by omega), it_take l i j (by omega) (by omega), if_neg (show ¬ ((it l j).f0 ≥ x) by have := hk; unfold ky at this; omega), w_succ j l.length (by omega) (by omega)]
   refine ⟨fun h r hr => Ev.step st (ih1 (fun q h1 h2 => h q (by omega) h2) r hr), fun ⟨q, h1, h2, h3⟩ => Ev.step st (ih2 ⟨q, ?_, h2, h3⟩)⟩
   by_cases e : q = j
   ·subst e; exact absurd hk h3
   ·omega
  ·refine ⟨fun h => absurd (h j (Nat.le_refl _) (by omega)) hk, fun _ => Ev.step (fun k => ?_) (Ev.now false)⟩
   rw [saltusref16_Right.l1, if_pos (by omega), if_pos (by omega), if_pos (by omega), it_take l i j (by omega) (by omega), if_pos (show ((it l j).f0 ≥ x) by have := hk; unfold ky at this; omega)]
theorem refright_l0 (l : List Item) (hn : l.length ≤ 100000) (d : Nat) : ∀ i, i + d = l.length → (∀ j, j < i → okAt l j) →
  (RightP l ∧ Ev (fun k => saltusref16_Right.l0 k l l (l.length : Int) (i : Int)) true) ∨ (¬RightP l ∧ Ev (fun k => saltusref16_Right.l0 k l l (l.length : Int) (i : Int)) false) := by
 induction d with
 | zero =>
  intro i hi hp
  obtain rfl : i = l.length := by omega
  by_cases h : l.length ≤ 64
  ·refine .inl ⟨⟨hp, h⟩, Ev.step (fun k => ?_) (Ev.now true)⟩
   rw [saltusref16_Right.l0, if_neg (by omega), decide_eq_true (show (l.length : Int) ≤ 64 by omega)]
  ·refine .inr ⟨fun hr => h hr.2, Ev.step (fun k => ?_) (Ev.now false)⟩
   rw [saltusref16_Right.l0, if_neg (by omega), decide_eq_false (show ¬ (l.length : Int) ≤ 64 by omega)]
 | succ d ih =>
  intro i hi hp
  by_cases hs : (it l i).f1.size ≤ 64
  ·have st : ∀ k, saltusref16_Right.l0 (k + 1) l l (l.length : Int) (i : Int) = saltusref16_Right.l1 k l l (l.length : Int) (i : Int) (l.take i) ((l.take i).length : Int) ((0 : Nat) : Int) (ky l i) (it l i).f1 := fun k => by
    rw [saltusref16_Right.l0, if_pos (by omega), if_pos (by omega), if_pos (by omega), if_neg (show ¬ ((((rd_T46 l (i : Int)).f1).size : Int) > 64) by have := hs; unfold it at this; omega), if_pos (by omega), Int.toNat_natCast, Option.bind_some]
    rfl
   obtain ⟨g1, g2⟩ := refright_l1 l hn i (by omega) (ky l i) (it l i).f1 i 0 (by omega)
   by_cases hk : 0 < i → ky l (i - 1) < ky l i
   ·have hok : okAt l i := ⟨hs, hk⟩
    have hp2 : ∀ j, j < i + 1 → okAt l j := fun j hj => by
     by_cases e : j = i
     ·subst e; exact hok
     ·exact hp j (by omega)
    have hall : ∀ q, 0 ≤ q → q < i → ky l q < ky l i := fun q _ hq => asc l (i + 1) hp2 i q hq (by omega)
    rcases ih (i + 1) (by omega) hp2 with ⟨h1, h2⟩ | ⟨h1, h2⟩
    ·exact .inl ⟨h1, Ev.step st (g1 hall true h2)⟩
    ·exact .inr ⟨h1, Ev.step st (g1 hall false h2)⟩
   ·refine .inr ⟨fun hr => hk (hr.1 i (by omega)).2, Ev.step st (g2 ⟨i - 1, by omega, ?_, fun h => hk fun _ => h⟩)⟩
    rcases Nat.eq_zero_or_pos i with e | e
    ·exact absurd (fun h => absurd h (by omega)) hk
    ·omega
  ·refine .inr ⟨fun hr => hs (hr.1 i (by omega)).1, Ev.step (fun k => ?_) (Ev.now false)⟩
   rw [saltusref16_Right.l0, if_pos (by omega), if_pos (by omega), if_pos (by omega), if_pos (show ((((rd_T46 l (i : Int)).f1).size : Int) > 64) by have := hs; unfold it at this; omega)]
theorem refright_ev (l : List Item) (hn : l.length ≤ 100000) : (RightP l ∧ Ev (fun k => saltusref16_Right.f k l) true) ∨ (¬RightP l ∧ Ev (fun k => saltusref16_Right.f k l) false) :=
 refright_l0 l hn l.length 0 (by omega) (fun j hj => absurd hj (by omega))
end Go.Proofs.YtolbhliepkcihaaDoor.SkipPure
end
section
namespace Go.Proofs.YtolbhliepkcihaaDoor.SkipPure
open Go.RowKit Go.Proofs.YtolbhliepkcihaaDoor.Kinds Go.Proofs.YtolbhliepkcihaaDoor.QSF Go.Proofs.YtolbhliepkcihaaDoorW.PrintWords Go.Proofs.YtolbhliepkcihaaDoorW.PrintLast Go.Proofs.YtolbhliepkcihaaDoorW.PrintMore Go.Proofs.YtolbhliepkcihaaDoor.Sha Go.Proofs.YtolbhliepkcihaaDoor.Mac Go.Proofs.YtolbhliepkcihaaDoor.Codec Go.Proofs.YtolbhliepkcihaaDoor.Tower
def keysOk (l : List Item) : Prop := ∀ y, y ∈ l → 0 ≤ y.f0 ∧ y.f0 ≤ 18446744073709551615
def htsL (key : ByteArray) (l : List Item) : List Int := l.map fun x => ((heightN key x.f0.toNat : Nat) : Int)
theorem hts_len (key : ByteArray) (l : List Item) : (htsL key l).length = l.length := by unfold htsL; rw [List.length_map]
theorem it_mem (l : List Item) (i : Nat) (h : i < l.length) : it l i = l[i] := by
 unfold it rd_T46
 rw [Int.toNat_natCast, List.getD_eq_getElem?_getD, List.getElem?_eq_getElem h]
 rfl
/-! ### the array of heights is filled -/
/-! ### the next one that is above a level -/
def nxF (h : List Int) (L : Int) : Nat → Nat → Nat
 | 0, i => i
 | d + 1, i => if rd h (i : Int) ≤ L then nxF h L d (i + 1) else i
def nx (h : List Int) (L : Int) (i : Nat) : Nat := nxF h L (h.length - i) i
/-! ### the search -/
def goS (l : List Item) (q : Int) (h : List Int) : Nat → Nat → Nat → List Hop → Nat × List Hop
 | 0, s, _, hops => (s, hops)
 | _ + 1, s, 0, hops => (s, hops)
 | f + 1, s, L + 1, hops => if nx h L s < l.length ∧ ky l (nx h L s) ≤ q then goS l q h f (nx h L s + 1) (L + 1) (hops ++ [⟨(L : Int), ((nx h L s : Nat) : Int)⟩]) else goS l q h f s L hops
def fin (r : Nat × List Hop) : Int × List Hop × Int := if r.1 = 0 then (0, [], 3) else (((r.1 - 1 : Nat) : Int), r.2, 0)
end Go.Proofs.YtolbhliepkcihaaDoor.SkipPure
end
section
namespace Go.Proofs.YtolbhliepkcihaaDoor.SkipPure
open Go.RowKit Go.Proofs.YtolbhliepkcihaaDoor.Kinds Go.Proofs.YtolbhliepkcihaaDoor.QSF Go.Proofs.YtolbhliepkcihaaDoorW.PrintWords Go.Proofs.YtolbhliepkcihaaDoorW.PrintLast Go.Proofs.YtolbhliepkcihaaDoorW.PrintMore Go.Proofs.YtolbhliepkcihaaDoor.Sha Go.Proofs.YtolbhliepkcihaaDoor.Mac Go.Proofs.YtolbhliepkcihaaDoor.Codec Go.Proofs.YtolbhliepkcihaaDoor.Tower
def hp (hops : List Hop) (i : Nat) : Hop := rd_T48 hops (i : Int)
theorem hp_old (hops : List Hop) (z : Hop) (i : Nat) (h : i < hops.length) : hp (hops ++ [z]) i = hp hops i := by
 unfold hp rd_T48
 rw [Int.toNat_natCast, List.getD_eq_getElem?_getD, List.getD_eq_getElem?_getD, List.getElem?_append_left h]
theorem hp_new (hops : List Hop) (z : Hop) : hp (hops ++ [z]) hops.length = z := by
 unfold hp rd_T48
 rw [Int.toNat_natCast, List.getD_eq_getElem?_getD, List.getElem?_append_right (Nat.le_refl _), Nat.sub_self]
 rfl
structure GoodH (s L1 : Nat) (hops : List Hop) : Prop where
 some_ : 0 < s → 0 < hops.length
 none_ : s = 0 → hops = []
 last_ : 0 < hops.length → (hp hops (hops.length - 1)).f1 = (s : Int) - 1
 levels : ∀ i, i < hops.length → 0 ≤ (hp hops i).f0 ∧ (hp hops i).f0 < 8 ∧ (L1 : Int) - 1 ≤ (hp hops i).f0
 chain : ∀ i, 0 < i → i < hops.length → (hp hops (i - 1)).f1 < (hp hops i).f1 ∧ (hp hops i).f0 ≤ (hp hops (i - 1)).f0
theorem GoodH.hop {s L x : Nat} {hops : List Hop} (h : GoodH s (L + 1) hops) (hL : L < 8) (hx : s ≤ x) : GoodH (x + 1) (L + 1) (hops ++ [⟨(L : Int), (x : Int)⟩]) := by
 have hz : (hops ++ [(⟨(L : Int), (x : Int)⟩ : Hop)]).length = hops.length + 1 := by simp
 refine ⟨fun _ => by omega, fun h0 => by omega, fun _ => ?_, fun i hi => ?_, fun i h0 hi => ?_⟩
 ·rw [hz, show hops.length + 1 - 1 = hops.length from rfl, hp_new]
  show (x : Int) = ((x + 1 : Nat) : Int) - 1
  omega
 ·by_cases e : i = hops.length
  ·subst e
   rw [hp_new]
   show 0 ≤ (L : Int) ∧ (L : Int) < 8 ∧ ((L + 1 : Nat) : Int) - 1 ≤ (L : Int)
   omega
  ·rw [hp_old _ _ _ (by omega)]
   exact h.levels i (by omega)
 ·by_cases e : i = hops.length
  ·subst e
   rw [hp_new, hp_old _ _ _ (by omega)]
   have h1 := h.last_ h0
   have h2 := h.levels (hops.length - 1) (by omega)
   show (hp hops (hops.length - 1)).f1 < (x : Int) ∧ (L : Int) ≤ (hp hops (hops.length - 1)).f0
   omega
  ·rw [hp_old _ _ _ (by omega), hp_old _ _ _ (by omega)]
   exact h.chain i h0 (by omega)
/-! ### a known search -/
/-! ### the laws -/
theorem take_keys {l : List Item} (h : keysOk l) (n : Nat) : keysOk (l.take n) := fun y hy => h y (List.mem_of_mem_take hy)
end Go.Proofs.YtolbhliepkcihaaDoor.SkipPure
end
section
namespace Go.Proofs.YtolbhliepkcihaaDoor.QSQ
open Go.RowKit Go.Proofs.YtolbhliepkcihaaDoor.Kinds Go.Proofs.YtolbhliepkcihaaDoorW.PrintWords Go.Proofs.YtolbhliepkcihaaDoorW.PrintLast Go.Proofs.YtolbhliepkcihaaDoorW.PrintMore
attribute [local go_sem] max2_int min2_int max_two min_two max_three min_three max_four min_four   -- for this text's walks alone
set_option linter.unusedVariables false
set_option linter.unusedSimpArgs false
def errW : Option Int → Value
 | none => .nilIface
 | some c => .iface 0 (.int .i64 c)
theorem errW_none : errW none = .nilIface := rfl
theorem errW_some (c : Int) : errW (some c) = .iface 0 (.int .i64 c) := rfl
theorem info46 : (Tryd.prog.info? 46).map (fun i => (i.zero, i.size, i.bytes)) = some (some (.agg #[(.int .u64 0), (.string ⟨#[]⟩)]), 2, 24) := by kernel_rfl
end Go.Proofs.YtolbhliepkcihaaDoor.QSQ
end
section
namespace Go.Proofs.YtolbhliepkcihaaDoor.QSQ
open Go.RowKit Go.Proofs.YtolbhliepkcihaaDoor.Kinds Go.Proofs.YtolbhliepkcihaaDoorW.PrintWords Go.Proofs.YtolbhliepkcihaaDoorW.PrintLast Go.Proofs.YtolbhliepkcihaaDoorW.PrintMore
attribute [local go_sem] max2_int min2_int max_two min_two max_three min_three max_four min_four   -- for this text's walks alone
set_option linter.unusedVariables false
set_option linter.unusedSimpArgs false
/-! ### saltusref16_Put: function 51 -/
end Go.Proofs.YtolbhliepkcihaaDoor.QSQ
end
section
namespace Go.Proofs.YtolbhliepkcihaaDoor.QSQ
open Go.RowKit Go.Proofs.YtolbhliepkcihaaDoor.Kinds Go.Proofs.YtolbhliepkcihaaDoorW.PrintWords Go.Proofs.YtolbhliepkcihaaDoorW.PrintLast Go.Proofs.YtolbhliepkcihaaDoorW.PrintMore
attribute [local go_sem] max2_int min2_int max_two min_two max_three min_three max_four min_four   -- for this text's walks alone
set_option linter.unusedVariables false
set_option linter.unusedSimpArgs false
theorem eqA46 (d : Nat) (w : World) (x0 y0 : Int) (x1 y1 : ByteArray) :
  (Op.equalIn (d + 2) 46 (.agg #[.int .u64 x0, .string x1]) (.agg #[.int .u64 y0, .string y1])).run Tryd.prog w = .ok (x0 == y0 && (x1.toList == y1.toList)) w := by
 refine eqA_of Tryd.underlying46 (by kernel_rfl) ?_
 refine eqf_cons (by rfl) (by go_simp; rfl) (by go_simp; rfl) (by go_simp) ?_
 exact eqf_last (by rfl) (by go_simp; rfl) (by go_simp; rfl) (by go_simp)
end Go.Proofs.YtolbhliepkcihaaDoor.QSQ
end
section
namespace Go.Proofs.YtolbhliepkcihaaDoor.QSQ
open Go.RowKit Go.Proofs.YtolbhliepkcihaaDoor.Kinds Go.Proofs.YtolbhliepkcihaaDoorW.PrintWords Go.Proofs.YtolbhliepkcihaaDoorW.PrintLast Go.Proofs.YtolbhliepkcihaaDoorW.PrintMore
attribute [local go_sem] max2_int min2_int max_two min_two max_three min_three max_four min_four   -- for this text's walks alone
set_option linter.unusedVariables false
set_option linter.unusedSimpArgs false
attribute [local go_sem high] eqA46
/-! ### saltusref16_Same: function 39 -/
/-! ### api_Item: function 81 -/
/-! ### skip_Like: function 48 -/
/-! ### saltusref16_At: function 49 -/
/-! ### saltusref16_Drop: function 50 -/
end Go.Proofs.YtolbhliepkcihaaDoor.QSQ
end
section
namespace Go.Proofs.YtolbhliepkcihaaDoor.SkipOps
open Go.RowKit Go.Proofs.YtolbhliepkcihaaDoor.Kinds Go.Proofs.YtolbhliepkcihaaDoor.QSF Go.Proofs.YtolbhliepkcihaaDoorW.PrintWords Go.Proofs.YtolbhliepkcihaaDoorW.PrintLast Go.Proofs.YtolbhliepkcihaaDoorW.PrintMore Go.Proofs.YtolbhliepkcihaaDoor.Sha Go.Proofs.YtolbhliepkcihaaDoor.Mac Go.Proofs.YtolbhliepkcihaaDoor.Codec Go.Proofs.YtolbhliepkcihaaDoor.Tower Go.Proofs.YtolbhliepkcihaaDoor.Skip Go.Proofs.YtolbhliepkcihaaDoor.SkipPure
abbrev It := S46
def Asc (l : List It) : Prop := l.Pairwise fun a b => a.f0 < b.f0
def has (l : List It) (q : Int) : Bool := l.any fun y => y.f0 == q
def insF (l : List It) (x : It) : List It := l.filter (fun y => decide (y.f0 < x.f0)) ++ [x] ++ l.filter (fun y => decide (x.f0 < y.f0))
def delF (l : List It) (q : Int) : List It := l.filter fun y => !(y.f0 == q)
theorem right_iff (l : List It) : RightP l ↔ Asc l ∧ (∀ y, y ∈ l → y.f1.size ≤ 64) ∧ l.length ≤ 64 := by
 constructor
 ·rintro ⟨h1, h2⟩
  refine ⟨?_, fun y hy => ?_, h2⟩
  ·refine List.pairwise_iff_getElem.2 fun i j hi hj hij => ?_
   have := asc l l.length h1 j i hij hj
   unfold ky at this
   rwa [it_mem l i hi, it_mem l j hj] at this
  ·obtain ⟨i, hi, rfl⟩ := List.mem_iff_getElem.1 hy
   have := (h1 i hi).1
   rwa [it_mem l i hi] at this
 ·rintro ⟨h1, h2, h3⟩
  refine ⟨fun i hi => ⟨?_, fun h0 => ?_⟩, h3⟩
  ·rw [it_mem l i hi]; exact h2 _ (List.getElem_mem _)
  ·unfold ky
   rw [it_mem l i hi, it_mem l (i - 1) (by omega)]
   exact List.pairwise_iff_getElem.1 h1 (i - 1) i (by omega) hi (by omega)
theorem has_iff (l : List It) (q : Int) : has l q = true ↔ ∃ y, y ∈ l ∧ y.f0 = q := by
 unfold has
 rw [List.any_eq_true]
 constructor
 ·rintro ⟨y, hy, e⟩; exact ⟨y, hy, by simpa using e⟩
 ·rintro ⟨y, hy, e⟩; exact ⟨y, hy, by simpa using e⟩
theorem not_has (l : List It) (q : Int) (h : has l q = false) (y : It) (hy : y ∈ l) : y.f0 ≠ q := by
 intro e
 have := (has_iff l q).2 ⟨y, hy, e⟩
 rw [h] at this
 cases this
/-! ### where the search by halves ends -/
theorem bs_spec (l : List It) (ha : Asc l) (q : Int) : ∀ (f i j : Nat), i ≤ j → j ≤ l.length → j - i ≤ f → (∀ a, a < i → ky l a < q) → (∀ a, j ≤ a → a < l.length → ¬ky l a < q) →
  (∀ a, a < bsI l q f i j → ky l a < q) ∧ (∀ a, bsI l q f i j ≤ a → a < l.length → ¬ky l a < q)
 | 0, i, j, hij, hj, hf, h1, h2 => by
  obtain rfl : i = j := by omega
  exact ⟨h1, h2⟩
 | f + 1, i, j, hij, hj, hf, h1, h2 => by
  have up : ∀ a b, a < b → b < l.length → ky l a < ky l b := fun a b hab hb => by
   unfold ky
   rw [it_mem l a (by omega), it_mem l b hb]
   exact List.pairwise_iff_getElem.1 ha a b (by omega) hb hab
  unfold bsI
  by_cases c : i < j
  ·rw [if_pos c]
   by_cases d : (rd_T46 l (((i + j) / 2 : Nat) : Int)).f0 < q
   ·rw [if_pos d]
    refine bs_spec l ha q f _ _ (by omega) hj (by omega) (fun a ha2 => ?_) h2
    by_cases e : a = (i + j) / 2
    ·subst e; exact d
    ·exact Int.lt_trans (up a ((i + j) / 2) (by omega) (by omega)) d
   ·rw [if_neg d]
    refine bs_spec l ha q f _ _ (by omega) (by omega) (by omega) h1 (fun a ha1 ha2 => ?_)
    by_cases e : a = (i + j) / 2
    ·subst e; exact d
    ·have := up ((i + j) / 2) a (by omega) ha2
     have d' : ¬ky l ((i + j) / 2) < q := d
     omega
  ·rw [if_neg c]
   obtain rfl : i = j := by omega
   exact ⟨h1, h2⟩
theorem place_spec (l : List It) (ha : Asc l) (q : Int) : (∀ a, a < placeN l q → ky l a < q) ∧ (∀ a, placeN l q ≤ a → a < l.length → ¬ky l a < q) :=
 bs_spec l ha q l.length 0 l.length (by omega) (Nat.le_refl _) (by omega) (fun a h => by omega) (fun a h1 h2 => by omega)
theorem take_lt (l : List It) (n : Nat) (q : Int) (h : ∀ a, a < n → ky l a < q) (y : It) (hy : y ∈ l.take n) : y.f0 < q := by
 obtain ⟨i, hi, rfl⟩ := List.mem_iff_getElem.1 hy
 rw [List.length_take] at hi
 have := h i (by omega)
 unfold ky at this
 rw [it_mem l i (by omega)] at this
 rwa [List.getElem_take]
theorem drop_ge (l : List It) (n : Nat) (q : Int) (h : ∀ a, n ≤ a → a < l.length → ¬ky l a < q) (y : It) (hy : y ∈ l.drop n) : ¬y.f0 < q := by
 obtain ⟨i, hi, rfl⟩ := List.mem_iff_getElem.1 hy
 rw [List.length_drop] at hi
 have := h (n + i) (by omega) (by omega)
 unfold ky at this
 rw [it_mem l (n + i) (by omega)] at this
 rwa [List.getElem_drop]
theorem place_take (l : List It) (ha : Asc l) (q : Int) : l.take (placeN l q) = l.filter fun y => decide (y.f0 < q) := by
 obtain ⟨h1, h2⟩ := place_spec l ha q
 conv => rhs; rw [← List.take_append_drop (placeN l q) l]
 rw [List.filter_append, List.filter_eq_self.2 (fun y hy => decide_eq_true (take_lt l _ q h1 y hy)), List.filter_eq_nil_iff.2 (fun y hy => by simpa using drop_ge l _ q h2 y hy), List.append_nil]
theorem place_is (l : List It) (ha : Asc l) (q : Int) : placeIs l q = has l q := by
 obtain ⟨h1, h2⟩ := place_spec l ha q
 rw [Bool.eq_iff_iff, has_iff]
 unfold placeIs
 rw [decide_eq_true_iff]
 constructor
 ·rintro ⟨h3, h4⟩
  exact ⟨it l (placeN l q), by rw [it_mem l _ h3]; exact List.getElem_mem _, h4⟩
 ·rintro ⟨y, hy, e⟩
  obtain ⟨i, hi, rfl⟩ := List.mem_iff_getElem.1 hy
  have hk : ky l i = q := by unfold ky; rw [it_mem l i hi]; exact e
  have hn : placeN l q ≤ i := by
   rcases Nat.lt_or_ge i (placeN l q) with h | h
   ·have := h1 i h; omega
   ·exact h
  refine ⟨by omega, ?_⟩
  show ky l (placeN l q) = q
  by_cases hin : placeN l q = i
  ·rw [hin]; exact hk
  ·have h5 := h2 (placeN l q) (Nat.le_refl _) (by omega)
   have h6 : ky l (placeN l q) < ky l i := by
    unfold ky
    rw [it_mem l i hi, it_mem l (placeN l q) (by omega)]
    exact List.pairwise_iff_getElem.1 ha _ i (by omega) hi (by omega)
   omega
theorem place_drop_no (l : List It) (ha : Asc l) (q : Int) (h : has l q = false) : l.drop (placeN l q) = l.filter fun y => decide (q < y.f0) := by
 obtain ⟨h1, h2⟩ := place_spec l ha q
 conv => rhs; rw [← List.take_append_drop (placeN l q) l]
 rw [List.filter_append, List.filter_eq_nil_iff.2 (fun y hy => by have := take_lt l _ q h1 y hy; simp; omega), List.nil_append, List.filter_eq_self.2]
 intro y hy
 have h3 := drop_ge l _ q h2 y hy
 have h4 := not_has l q h y (List.mem_of_mem_drop hy)
 exact decide_eq_true (by omega)
theorem place_drop_yes (l : List It) (ha : Asc l) (q : Int) (h : has l q = true) : placeN l q < l.length ∧ l.drop (placeN l q + 1) = l.filter fun y => decide (q < y.f0) := by
 have h0 := place_is l ha q
 rw [h] at h0
 unfold placeIs at h0
 rw [decide_eq_true_iff] at h0
 obtain ⟨h3, h4⟩ := h0
 obtain ⟨h1, h2⟩ := place_spec l ha q
 refine ⟨h3, ?_⟩
 have e : l.drop (placeN l q) = l[placeN l q] :: l.drop (placeN l q + 1) := List.drop_eq_getElem_cons h3
 have h5 : l[placeN l q].f0 = q := by rw [← it_mem l _ h3]; exact h4
 conv => rhs; rw [← List.take_append_drop (placeN l q) l, e]
 rw [List.filter_append, List.filter_eq_nil_iff.2 (fun y hy => by have := take_lt l _ q h1 y hy; simp; omega), List.nil_append, List.filter_cons_of_neg (by simp; omega), List.filter_eq_self.2]
 intro y hy
 have hp := List.pairwise_cons.1 (e ▸ (List.Pairwise.drop ha : (l.drop (placeN l q)).Pairwise _))
 have := hp.1 y hy
 exact decide_eq_true (by omega)
/-! ### put and drop -/
theorem put_yes (l : List It) (ha : Asc l) (x : It) (h : has l x.f0 = true) : l.take (placeN l x.f0) ++ [x] ++ l.drop (placeN l x.f0 + 1) = insF l x := by
 rw [place_take l ha, (place_drop_yes l ha _ h).2]; rfl
theorem put_no (l : List It) (ha : Asc l) (x : It) (h : has l x.f0 = false) : l.take (placeN l x.f0) ++ [x] ++ l.drop (placeN l x.f0) = insF l x := by
 rw [place_take l ha, place_drop_no l ha _ h]; rfl
theorem del_split (l : List It) (ha : Asc l) (q : Int) : delF l q = l.filter (fun y => decide (y.f0 < q)) ++ l.filter (fun y => decide (q < y.f0)) := by
 induction l with
 | nil => rfl
 | cons x l ih =>
  obtain ⟨hx, hl⟩ := List.pairwise_cons.1 ha
  have ih := ih hl
  unfold delF at ih ⊢
  by_cases h1 : x.f0 < q
  ·rw [List.filter_cons_of_pos (by simp; omega), List.filter_cons_of_pos (by simpa using h1), List.filter_cons_of_neg (by simp; omega), ih]; rfl
  ·have hz : l.filter (fun y => decide (y.f0 < q)) = [] := List.filter_eq_nil_iff.2 (fun y hy => by have := hx y hy; simp; omega)
   by_cases h2 : q < x.f0
   ·rw [List.filter_cons_of_pos (by simp; omega), List.filter_cons_of_neg (by simpa using h1), List.filter_cons_of_pos (by simpa using h2), ih, hz]; rfl
   ·rw [List.filter_cons_of_neg (by simp; omega), List.filter_cons_of_neg (by simpa using h1), List.filter_cons_of_neg (by simpa using h2), ih]
theorem drop_yes (l : List It) (ha : Asc l) (q : Int) (h : has l q = true) : l.take (placeN l q) ++ l.drop (placeN l q + 1) = delF l q := by
 rw [place_take l ha, (place_drop_yes l ha _ h).2, del_split l ha]
theorem ins_asc (l : List It) (ha : Asc l) (x : It) : Asc (insF l x) := by
 unfold insF Asc
 rw [List.append_assoc, List.pairwise_append]
 refine ⟨List.Pairwise.filter _ ha, ?_, ?_⟩
 ·rw [List.singleton_append, List.pairwise_cons]
  exact ⟨fun y hy => by simpa using (List.mem_filter.1 hy).2, List.Pairwise.filter _ ha⟩
 ·intro a h1 b h2
  have h1 := (List.mem_filter.1 h1).2
  simp only [decide_eq_true_eq] at h1
  rw [List.singleton_append, List.mem_cons] at h2
  rcases h2 with rfl | h2
  ·exact h1
  ·have h2 := (List.mem_filter.1 h2).2
   simp only [decide_eq_true_eq] at h2
   omega
theorem ins_mem (l : List It) (x y : It) (h : y ∈ insF l x) : y ∈ l ∨ y = x := by
 unfold insF at h
 rw [List.append_assoc, List.mem_append, List.singleton_append, List.mem_cons] at h
 rcases h with h | rfl | h
 ·exact .inl (List.mem_filter.1 h).1
 ·exact .inr rfl
 ·exact .inl (List.mem_filter.1 h).1
theorem del_asc (l : List It) (ha : Asc l) (q : Int) : Asc (delF l q) := List.Pairwise.filter _ ha
theorem ins_has (l : List It) (x : It) : has (insF l x) x.f0 = true := (has_iff _ _).2 ⟨x, by unfold insF; simp, rfl⟩
theorem ins_len (l : List It) (ha : Asc l) (x : It) : (insF l x).length = if has l x.f0 = true then l.length else l.length + 1 := by
 cases h : has l x.f0 with
 | true =>
  rw [if_pos rfl, ← put_yes l ha x h]
  have := (place_drop_yes l ha _ h).1
  rw [List.length_append, List.length_append, List.length_take, List.length_drop, List.length_singleton]; omega
 | false =>
  rw [if_neg (by decide), ← put_no l ha x h]
  have := placeN_le l x.f0
  rw [List.length_append, List.length_append, List.length_take, List.length_drop, List.length_singleton]; omega
theorem ins_le (l : List It) (ha : Asc l) (x : It) : (insF l x).length ≤ l.length + 1 := by
 rw [ins_len l ha]; split <;> omega
theorem del_le (l : List It) (q : Int) : (delF l q).length ≤ l.length := List.length_filter_le _ _
theorem ins_right (l : List It) (hr : RightP l) (x : It) (hx : ¬64 < x.f1.size) (hl : (insF l x).length ≤ 64) : RightP (insF l x) := by
 obtain ⟨h1, h2, h3⟩ := (right_iff l).1 hr
 refine (right_iff _).2 ⟨ins_asc l h1 x, fun y hy => ?_, hl⟩
 rcases ins_mem l x y hy with h | rfl
 ·exact h2 y h
 ·omega
theorem del_right (l : List It) (hr : RightP l) (q : Int) : RightP (delF l q) := by
 obtain ⟨h1, h2, h3⟩ := (right_iff l).1 hr
 exact (right_iff _).2 ⟨del_asc l h1 q, fun y hy => h2 y (List.mem_filter.1 hy).1, Nat.le_trans (del_le l q) h3⟩
theorem ins_keys (l : List It) (hk : keysOk l) (x : It) (hx : 0 ≤ x.f0 ∧ x.f0 ≤ 18446744073709551615) : keysOk (insF l x) := fun y hy => by
 rcases ins_mem l x y hy with h | rfl
 ·exact hk y h
 ·exact hx
theorem del_keys (l : List It) (hk : keysOk l) (q : Int) : keysOk (delF l q) := fun y hy => hk y (List.mem_filter.1 hy).1
theorem filter_no (l : List It) : l.filter (fun _ => false) = [] := List.filter_eq_nil_iff.2 (by simp)
theorem ins_comm_lt (l : List It) (x y : It) (h : x.f0 < y.f0) : insF (insF l x) y = insF (insF l y) x := by
 unfold insF
 simp only [List.filter_append, List.filter_filter]
 have a1 : (fun z : It => decide (z.f0 < y.f0) && decide (z.f0 < x.f0)) = fun z => decide (z.f0 < x.f0) := by funext z; rw [Bool.eq_iff_iff]; simp; omega
 have a2 : (fun z : It => decide (y.f0 < z.f0) && decide (z.f0 < x.f0)) = fun _ => false := by funext z; simp; omega
 have a3 : (fun z : It => decide (y.f0 < z.f0) && decide (x.f0 < z.f0)) = fun z => decide (y.f0 < z.f0) := by funext z; rw [Bool.eq_iff_iff]; simp; omega
 have a4 : (fun z : It => decide (z.f0 < x.f0) && decide (z.f0 < y.f0)) = fun z => decide (z.f0 < x.f0) := by funext z; rw [Bool.eq_iff_iff]; simp; omega
 have a5 : (fun z : It => decide (z.f0 < x.f0) && decide (y.f0 < z.f0)) = fun _ => false := by funext z; simp; omega
 have a6 : (fun z : It => decide (x.f0 < z.f0) && decide (y.f0 < z.f0)) = fun z => decide (y.f0 < z.f0) := by funext z; rw [Bool.eq_iff_iff]; simp; omega
 have a7 : (fun z : It => decide (z.f0 < y.f0) && decide (x.f0 < z.f0)) = (fun z : It => decide (x.f0 < z.f0) && decide (z.f0 < y.f0)) := by funext z; rw [Bool.and_comm]
 have b1 : decide (x.f0 < y.f0) = true := decide_eq_true h
 have b2 : decide (y.f0 < x.f0) = false := decide_eq_false (by omega)
 simp only [a1, a2, a3, a4, a5, a6, a7, b1, b2, filter_no, List.filter_cons, List.filter_nil, Bool.false_eq_true, if_false, if_true, List.append_nil, List.nil_append, List.append_assoc, List.cons_append]
theorem ins_comm (l : List It) (x y : It) (h : x.f0 ≠ y.f0) : insF (insF l x) y = insF (insF l y) x := by
 rcases Int.lt_or_lt_of_ne h with h | h
 ·exact ins_comm_lt l x y h
 ·exact (ins_comm_lt l y x h).symm
end Go.Proofs.YtolbhliepkcihaaDoor.SkipOps
end
section
namespace Go.Proofs.YtolbhliepkcihaaDoor.SkipOps
open Go.RowKit Go.Proofs.YtolbhliepkcihaaDoor.Kinds Go.Proofs.YtolbhliepkcihaaDoor.QSF Go.Proofs.YtolbhliepkcihaaDoor.QSQ Go.Proofs.YtolbhliepkcihaaDoorW.PrintWords Go.Proofs.YtolbhliepkcihaaDoorW.PrintLast Go.Proofs.YtolbhliepkcihaaDoorW.PrintMore Go.Proofs.YtolbhliepkcihaaDoor.Sha Go.Proofs.YtolbhliepkcihaaDoor.Mac Go.Proofs.YtolbhliepkcihaaDoor.Codec Go.Proofs.YtolbhliepkcihaaDoor.Tower Go.Proofs.YtolbhliepkcihaaDoor.Skip Go.Proofs.YtolbhliepkcihaaDoor.SkipPure
/-! ### the callees, at plain functions -/
theorem c_right (A : Option Addr) (c : Nat) (l : List It) (hn : l.length ≤ 100000) : ∃ r, (r = true ↔ RightP l) ∧
  (∀ w, Kd.C k46 w A l.length l → l.length ≤ c → Calls Tryd.prog 38 #[.slice A l.length c] w fun e w' => e = .returned (.bool r) ∧ Below w.heap.size w w') ∧
  (∀ w, Kd.C k46 w A l.length l → l.length ≤ c → Calls Tryd.prog 25 #[.slice A l.length c] w fun e w' => e = .returned (.bool r) ∧ Below w.heap.size w w') := by
 rcases right_ev l hn with ⟨p1, h1⟩ | ⟨p1, h1⟩
 ·rcases refright_ev l hn with ⟨p2, h2⟩ | ⟨p2, h2⟩
  ·obtain ⟨k1, e1⟩ := h1.rounds
   obtain ⟨k2, e2⟩ := h2.rounds
   exact ⟨true, ⟨fun _ => p1, fun _ => rfl⟩, fun w q1 q2 => skip_Right.calls k1 A c l true w q1 q2 e1, fun w q1 q2 => saltusref16_Right.calls k2 A c l true w q1 q2 e2⟩
  ·exact absurd p1 p2
 ·rcases refright_ev l hn with ⟨p2, h2⟩ | ⟨p2, h2⟩
  ·exact absurd p2 p1
  ·obtain ⟨k1, e1⟩ := h1.rounds
   obtain ⟨k2, e2⟩ := h2.rounds
   exact ⟨false, ⟨(fun h => by cases h), fun h => absurd h p1⟩, fun w q1 q2 => skip_Right.calls k1 A c l false w q1 q2 e1, fun w q1 q2 => saltusref16_Right.calls k2 A c l false w q1 q2 e2⟩
def Lft (w w' : World) (v : Value) (l : List It) : Prop := ∃ A c, v = .slice A l.length c ∧ l.length ≤ c ∧ Kd.C k46 w' A l.length l ∧ Below w.heap.size w w'
theorem lft_of {w w' : World} {base : Nat} {v : Value} {l : List It} (h : Kd.R k46 46 w' base (fun _ => True) v l) (hb : Below w.heap.size w w') : Lft w w' v l := by
 obtain ⟨A, c, rfl⟩ := Kd.R_slice h
 have h2 := Kd.R_reads' h
 exact ⟨A, c, rfl, h2.2.1, h2.2.2, hb⟩
theorem lft_nil {w w' : World} (hb : Below w.heap.size w w') : Lft w w' (.slice none 0 0) [] := ⟨none, 0, rfl, Nat.le_refl _, Kd.C_nil _ _, hb⟩
theorem c_put (A : Option Addr) (c : Nat) (l : List It) (hn : l.length ≤ 100000) (x : It) (pl : List It) (er : Int)
  (hc : (¬RightP l ∧ pl = [] ∧ er = 1) ∨ (RightP l ∧ 64 < x.f1.size ∧ pl = [] ∧ er = 4) ∨ (RightP l ∧ ¬64 < x.f1.size ∧ (has l x.f0 = false ∧ l.length = 64) ∧ pl = [] ∧ er = 6) ∨ (RightP l ∧ ¬64 < x.f1.size ∧ ¬(has l x.f0 = false ∧ l.length = 64) ∧ pl = insF l x ∧ er = 0))
  (w : World) (q1 : Kd.C k46 w A l.length l) (q2 : l.length ≤ c) :
  Calls Tryd.prog 36 #[.slice A l.length c, .agg #[.int .u64 x.f0, .string x.f1]] w fun e w' => ∃ v, e = .returned (.tuple #[v, .int .i64 er]) ∧ Lft w w' v pl := by
 rcases right_ev l hn with ⟨p1, h1⟩ | ⟨p1, h1⟩
 ·obtain ⟨k1, e1⟩ := h1.rounds
  have ha := ((right_iff l).1 p1).1
  have hpi := place_is l ha x.f0
  rcases hc with ⟨p2, _⟩ | ⟨_, hz, rfl, rfl⟩ | ⟨_, hz, ⟨hh, h64⟩, rfl, rfl⟩ | ⟨_, hz, hh, rfl, rfl⟩
  ·exact absurd p1 p2
  ·exact (put_size A c l x k1 w q1 q2 hn e1 hz).mono fun e w' ⟨h1, h2⟩ => ⟨_, h1, lft_nil h2⟩
  ·exact (put_space A c l x k1 w q1 q2 hn e1 hz (hpi.trans hh) h64).mono fun e w' ⟨h1, h2⟩ => ⟨_, h1, lft_nil h2⟩
  ·cases hs : has l x.f0 with
   | true =>
    rw [hs] at hpi
    obtain ⟨g1, g2⟩ := place_drop_yes l ha _ hs
    obtain ⟨ad, rfl⟩ : ∃ ad, A = some ad := by
     obtain ⟨ad, e, _⟩ := q1.2.2 (by omega)
     exact ⟨ad, e⟩
    have e0 := put_yes l ha x hs
    by_cases hl : placeN l x.f0 + 1 = l.length
    ·rw [hl, List.drop_eq_nil_of_le (Nat.le_refl _), List.append_nil] at e0
     rw [← e0]
     exact (put_overend ad c l x k1 w q1 q2 hn e1 hz hpi hl).mono fun e w' ⟨v, h1, h2, h3⟩ => ⟨v, h1, lft_of h2 h3⟩
    ·rw [← e0]
     exact (put_over ad c l x k1 w q1 q2 hn e1 hz hpi (by omega)).mono fun e w' ⟨v, h1, h2, h3⟩ => ⟨v, h1, lft_of h2 h3⟩
   | false =>
    rw [hs] at hpi
    have h64 : ¬l.length = 64 := fun h => hh ⟨hs, h⟩
    have hle := placeN_le l x.f0
    have e0 := put_no l ha x hs
    by_cases hl : placeN l x.f0 = l.length
    ·rw [hl, List.drop_eq_nil_of_le (Nat.le_refl _), List.append_nil, ← hl] at e0
     rw [← e0]
     cases A with
     | none => exact (put_nil c l x k1 w q1 q2 hn e1 hz hpi h64 hl).mono fun e w' ⟨v, h1, h2, h3⟩ => ⟨v, h1, lft_of h2 h3⟩
     | some ad => exact (put_end ad c l x k1 w q1 q2 hn e1 hz hpi h64 hl).mono fun e w' ⟨v, h1, h2, h3⟩ => ⟨v, h1, lft_of h2 h3⟩
    ·obtain ⟨ad, rfl⟩ : ∃ ad, A = some ad := by
      obtain ⟨ad, e, _⟩ := q1.2.2 (by omega)
      exact ⟨ad, e⟩
     rw [← e0]
     exact (put_new ad c l x k1 w q1 q2 hn e1 hz hpi h64 (by omega)).mono fun e w' ⟨v, h1, h2, h3⟩ => ⟨v, h1, lft_of h2 h3⟩
 ·obtain ⟨k1, e1⟩ := h1.rounds
  rcases hc with ⟨_, rfl, rfl⟩ | ⟨p2, _⟩ | ⟨p2, _⟩ | ⟨p2, _⟩
  ·exact (put_bad A c l x k1 w q1 q2 hn e1).mono fun e w' ⟨h1, h2⟩ => ⟨_, h1, lft_nil h2⟩
  ·exact absurd p2 p1
  ·exact absurd p2 p1
  ·exact absurd p2 p1
theorem lft_take {w w' : World} {ad : Addr} {n : Nat} {l : List It} (hn : n ≤ l.length) (q1 : Kd.C k46 w (some ad) l.length l) (hb : Below w.heap.size w w') : Lft w w' (.slice (some ad) n n) (l.take n) := by
 have hz : (l.take n).length = n := by rw [List.length_take]; omega
 have h := Kd.C_below q1 hb
 refine ⟨some ad, n, by rw [hz], by omega, ?_, hb⟩
 refine ⟨rfl, by have := h.2.1; omega, fun h0 => ?_⟩
 obtain ⟨ad', e, hc⟩ := h.2.2 (by omega)
 refine ⟨ad', e, fun j p hp => hc j p ?_⟩
 rw [List.getElem?_take] at hp
 split at hp
 ·exact hp
 ·cases hp
theorem c_drop (A : Option Addr) (c : Nat) (l : List It) (hn : l.length ≤ 100000) (q : Int) (dl : List It) (er : Int)
  (hc : (¬RightP l ∧ dl = [] ∧ er = 1) ∨ (RightP l ∧ has l q = false ∧ dl = [] ∧ er = 3) ∨ (RightP l ∧ has l q = true ∧ dl = delF l q ∧ er = 0))
  (w : World) (q1 : Kd.C k46 w A l.length l) (q2 : l.length ≤ c) :
  Calls Tryd.prog 37 #[.slice A l.length c, .int .u64 q] w fun e w' => ∃ v, e = .returned (.tuple #[v, .int .i64 er]) ∧ Lft w w' v dl := by
 rcases right_ev l hn with ⟨p1, h1⟩ | ⟨p1, h1⟩
 ·obtain ⟨k1, e1⟩ := h1.rounds
  have ha := ((right_iff l).1 p1).1
  have hpi := place_is l ha q
  rcases hc with ⟨p2, _⟩ | ⟨_, hs, rfl, rfl⟩ | ⟨_, hs, rfl, rfl⟩
  ·exact absurd p1 p2
  ·exact (drop_none A c l q k1 w q1 q2 hn e1 (hpi.trans hs)).mono fun e w' ⟨h1, h2⟩ => ⟨_, h1, lft_nil h2⟩
  ·rw [hs] at hpi
   obtain ⟨g1, g2⟩ := place_drop_yes l ha _ hs
   obtain ⟨ad, rfl⟩ : ∃ ad, A = some ad := by
    obtain ⟨ad, e, _⟩ := q1.2.2 (by omega)
    exact ⟨ad, e⟩
   have e0 := drop_yes l ha q hs
   by_cases hl : placeN l q + 1 = l.length
   ·rw [hl, List.drop_eq_nil_of_le (Nat.le_refl _), List.append_nil] at e0
    rw [← e0]
    exact (drop_last ad c l q k1 w q1 q2 hn e1 hpi hl).mono fun e w' ⟨h1, h2⟩ => ⟨_, h1, lft_take (by omega) q1 h2⟩
   ·rw [← e0]
    exact (drop_grow ad c l q k1 w q1 q2 hn e1 hpi (by omega)).mono fun e w' ⟨v, h1, h2, h3⟩ => ⟨v, h1, lft_of h2 h3⟩
 ·obtain ⟨k1, e1⟩ := h1.rounds
  rcases hc with ⟨_, rfl, rfl⟩ | ⟨p2, _⟩ | ⟨p2, _⟩
  ·exact (drop_bad A c l q k1 w q1 q2 hn e1).mono fun e w' ⟨h1, h2⟩ => ⟨_, h1, lft_nil h2⟩
  ·exact absurd p2 p1
  ·exact absurd p2 p1
end Go.Proofs.YtolbhliepkcihaaDoor.SkipOps
end
section
namespace Go.Proofs.YtolbhliepkcihaaDoor.Lab
open Go.RowKit Go.Proofs.YtolbhliepkcihaaDoorW.PrintWords Go.Proofs.YtolbhliepkcihaaDoor.Kinds Go.Proofs.YtolbhliepkcihaaDoor.Build Go.Proofs.YtolbhliepkcihaaDoor.Sha Go.Proofs.YtolbhliepkcihaaDoor.Mac Go.Proofs.YtolbhliepkcihaaDoor.Codec Go.Proofs.YtolbhliepkcihaaDoor.Tower Go.Proofs.YtolbhliepkcihaaDoor.Mem Go.Proofs.YtolbhliepkcihaaDoor.SkipOps Go.Proofs.YtolbhliepkcihaaDoor.SkipPure
theorem Row_bad (key : ByteArray) (A0 : Option Addr) (c0 : Nat) (l : List S46) (lv : Int) (w : World) (hr0 : Kd.C k46 w A0 l.length l) (hc0 : l.length ≤ c0) (hl : l.length ≤ 1000) (hb : ¬RightP l) :
  Calls Tryd.prog 30 #[.string key, .slice A0 l.length c0, .int .i64 lv] w fun e w' => e = .returned (.tuple #[.slice none 0 0, .int .i64 1]) ∧ Below w.heap.size w w' := by
 obtain ⟨r, hr, hA, _⟩ := c_right A0 c0 l (by omega)
 obtain rfl : r = false := by
  cases r
  ·rfl
  ·exact absurd (hr.1 rfl) hb
 have HA := Lib.hid (hA w hr0 hc0)
 clear hr hA
 go_enter Tryd.func30, Tryd.ntmps30
 go_wp2_with (go_at_call 38; refine (HA.out).mono ?_; rintro e w1 ⟨rfl, hb1⟩)
 go_ret2
 exact ⟨rfl, hb1⟩
theorem Root_bad (key : ByteArray) (A0 : Option Addr) (c0 : Nat) (l : List S46) (w : World) (hr0 : Kd.C k46 w A0 l.length l) (hc0 : l.length ≤ c0) (hl : l.length ≤ 1000) (hb : ¬RightP l) :
  Calls Tryd.prog 31 #[.string key, .slice A0 l.length c0] w fun e w' => e = .returned (.tuple #[.string ⟨#[]⟩, .int .i64 1]) ∧ Below w.heap.size w w' := by
 obtain ⟨r, hr, hA, _⟩ := c_right A0 c0 l (by omega)
 obtain rfl : r = false := by
  cases r
  ·rfl
  ·exact absurd (hr.1 rfl) hb
 have HA := Lib.hid (hA w hr0 hc0)
 clear hr hA
 go_enter Tryd.func31, Tryd.ntmps31
 go_wp2_with (go_at_call 38; refine (HA.out).mono ?_; rintro e w1 ⟨rfl, hb1⟩)
 go_ret2
 exact ⟨rfl, hb1⟩
theorem Row_range (key : ByteArray) (A0 : Option Addr) (c0 : Nat) (l : List S46) (lv : Int) (w : World) (hr0 : Kd.C k46 w A0 l.length l) (hc0 : l.length ≤ c0) (hl : l.length ≤ 1000) (hb : RightP l) (hlv : lv < 0 ∨ 8 < lv) :
  Calls Tryd.prog 30 #[.string key, .slice A0 l.length c0, .int .i64 lv] w fun e w' => e = .returned (.tuple #[.slice none 0 0, .int .i64 2]) ∧ Below w.heap.size w w' := by
 obtain ⟨r, hr, hA, _⟩ := c_right A0 c0 l (by omega)
 obtain rfl := hr.2 hb
 have HA := Lib.hid (hA w hr0 hc0)
 clear hr hA
 by_cases g : lv < 0
 ·have d1 : decide (lv < 0) = true := decide_eq_true g
  go_enter Tryd.func30, Tryd.ntmps30
  go_wp2_with (go_at_call 38; refine (HA.out).mono ?_; rintro e w1 ⟨rfl, hb1⟩)
  go_ret2
  exact ⟨rfl, hb1⟩
 ·have d1 : decide (lv < 0) = false := decide_eq_false g
  have d2 : decide ((8 : Int) < lv) = true := decide_eq_true (by omega)
  go_enter Tryd.func30, Tryd.ntmps30
  go_wp2_with (go_at_call 38; refine (HA.out).mono ?_; rintro e w1 ⟨rfl, hb1⟩)
  go_ret2
  exact ⟨rfl, hb1⟩
theorem Row_ok (key : ByteArray) (A0 : Option Addr) (c0 : Nat) (l : List S46) (lv : Nat) (w : World) (hr0 : Kd.C k46 w A0 l.length l) (hc0 : l.length ≤ c0) (hl : l.length ≤ 1000) (hkey : key.size ≤ 1000000000) (hok : ∀ x, x ∈ l → x.f1.size ≤ 4096 ∧ 0 ≤ x.f0 ∧ x.f0 < 18446744073709551616) (hlv : lv ≤ 8) (hT : TabW w) (hb : RightP l) :
  Calls Tryd.prog 30 #[.string key, .slice A0 l.length c0, .int .i64 (lv : Int)] w fun e w' => ∃ v, e = .returned (.tuple #[v, .int .i64 0]) ∧ w'.ownsRow w.heap.size 9 1 v (rowL key l lv).length (strV (rowL key l lv)) ∧ Below w.heap.size w w' := by
 obtain ⟨r, hr, hA, _⟩ := c_right A0 c0 l (by omega)
 obtain rfl := hr.2 hb
 have HA := Lib.hid (hA w hr0 hc0)
 have HR := Lib.hid (fun W (h : Below w.heap.size w W) => row_walk key A0 c0 l lv W (Kd.C_below hr0 h) hl hkey hok hlv (tab_below hT h (Nat.le_refl _)))
 clear hr hA hr0 hok hT hb
 have d1 : decide ((lv : Int) < 0) = false := decide_eq_false (by omega)
 have d2 : decide ((8 : Int) < (lv : Int)) = false := decide_eq_false (by omega)
 go_enter Tryd.func30, Tryd.ntmps30
 go_wp2_with (first | (go_at_call 38; refine (HA.out).mono ?_; rintro e w1 ⟨rfl, hb1⟩) | (go_at_call 68; refine (HR.out _ hb1).mono ?_; rintro e w2 ⟨v, rfl, ho, hb2⟩; have HS := hb1.size; have ho' := Aside0.mk (own_le ho HS); have hb' := Aside0.mk (below_step hb1 hb2); clear ho hb2 HS))
 go_ret2
 exact ⟨_, rfl, ho'.out, hb'.out⟩
theorem rootL_row (key : ByteArray) (l : List S46) : rowL key l 8 = [rootL key l] := by
 have h : ∀ s : List S46, rowF (lab 8) 8 (s.map (ent key)) = [] := fun s => by
  induction s with
  | nil => rfl
  | cons x r ih =>
   have := height_hi key x.f0.toNat
   rw [List.map_cons, rowF, if_neg (by show ¬8 < heightN key x.f0.toNat; omega), ih]
 unfold rowL ents rootL
 rw [rowF, if_pos (by decide), h]
 rfl
theorem Root_ok (key : ByteArray) (A0 : Option Addr) (c0 : Nat) (l : List S46) (w : World) (hr0 : Kd.C k46 w A0 l.length l) (hc0 : l.length ≤ c0) (hl : l.length ≤ 1000) (hkey : key.size ≤ 1000000000) (hok : ∀ x, x ∈ l → x.f1.size ≤ 4096 ∧ 0 ≤ x.f0 ∧ x.f0 < 18446744073709551616) (hT : TabW w) (hb : RightP l) :
  Calls Tryd.prog 31 #[.string key, .slice A0 l.length c0] w fun e w' => e = .returned (.tuple #[.string (rootL key l), .int .i64 0]) ∧ Below w.heap.size w w' := by
 obtain ⟨r, hr, hA, _⟩ := c_right A0 c0 l (by omega)
 obtain rfl := hr.2 hb
 have HA := Lib.hid (hA w hr0 hc0)
 have HR := Lib.hid (fun W (h : Below w.heap.size w W) => row_walk key A0 c0 l 8 W (Kd.C_below hr0 h) hl hkey hok (by decide) (tab_below hT h (Nat.le_refl _)))
 rw [rootL_row] at HR
 clear hr hA hr0 hok hT hb
 generalize rootL key l = y at *
 go_enter Tryd.func31, Tryd.ntmps31
 go_wp2_with (first | (go_at_call 38; refine (HA.out).mono ?_; rintro e w1 ⟨rfl, hb1⟩) | (go_at_call 68; refine (HR.out _ hb1).mono ?_; rintro e w2 ⟨v, rfl, ho, hb2⟩; obtain ⟨g, cp, rfl, _⟩ := own_succ3 (k := 0) ho; have hcc : w2.cell? ⟨g, 0, none⟩ = some (.string y) := ho.cellAt 0 (by decide); have hb' := Aside0.mk (below_step hb1 hb2); clear ho hb2))
 go_ret2
 exact ⟨rfl, hb'.out⟩
end Go.Proofs.YtolbhliepkcihaaDoor.Lab
end
section
namespace Go.Proofs.YtolbhliepkcihaaDoor.Lab
open Go.RowKit Go.Proofs.YtolbhliepkcihaaDoorW.PrintWords Go.Proofs.YtolbhliepkcihaaDoor.Kinds Go.Proofs.YtolbhliepkcihaaDoor.Build Go.Proofs.YtolbhliepkcihaaDoor.Sha Go.Proofs.YtolbhliepkcihaaDoor.Mac Go.Proofs.YtolbhliepkcihaaDoor.Codec Go.Proofs.YtolbhliepkcihaaDoor.Tower Go.Proofs.YtolbhliepkcihaaDoor.Mem Go.Proofs.YtolbhliepkcihaaDoor.SkipOps Go.Proofs.YtolbhliepkcihaaDoor.SkipPure
def okL (l : List S46) : Prop := ∀ x, x ∈ l → x.f1.size ≤ 4096 ∧ 0 ≤ x.f0 ∧ x.f0 < 18446744073709551616
end Go.Proofs.YtolbhliepkcihaaDoor.Lab
end
section
namespace Go.Proofs.YtolbhliepkcihaaDoor
open Go.RowKit Go.Proofs.YtolbhliepkcihaaDoorW.PrintWords Go.Proofs.YtolbhliepkcihaaDoor.Kinds Go.Proofs.YtolbhliepkcihaaDoor.Build Go.Proofs.YtolbhliepkcihaaDoor.Lab Go.Proofs.YtolbhliepkcihaaDoor.Sha Go.Proofs.YtolbhliepkcihaaDoor.Mac Go.Proofs.YtolbhliepkcihaaDoor.Codec Go.Proofs.YtolbhliepkcihaaDoor.Tower Go.Proofs.YtolbhliepkcihaaDoor.SkipOps Go.Proofs.YtolbhliepkcihaaDoor.SkipPure
def keysB (l : List S46) : Bool := l.all fun x => decide (0 ≤ x.f0) && decide (x.f0 < 18446744073709551616)
def rightB (l : List S46) : Bool := (List.range l.length).all (fun i => decide ((it l i).f1.size ≤ 64) && (decide (i = 0) || decide (ky l (i - 1) < ky l i))) && decide (l.length ≤ 64)
theorem rightB_iff (l : List S46) : rightB l = true ↔ RightP l := by
 unfold rightB RightP okAt
 simp only [Bool.and_eq_true, List.all_eq_true, List.mem_range, decide_eq_true_eq, Bool.or_eq_true]
 constructor
 ·rintro ⟨h1, h2⟩
  refine ⟨fun i hi => ⟨(h1 i hi).1, fun h0 => ?_⟩, h2⟩
  rcases (h1 i hi).2 with h | h
  ·omega
  ·exact h
 ·rintro ⟨h1, h2⟩
  refine ⟨fun i hi => ⟨(h1 i hi).1, ?_⟩, h2⟩
  rcases Nat.eq_zero_or_pos i with h | h
  ·exact .inl h
  ·exact .inr ((h1 i hi).2 h)
theorem keysB_all (l : List S46) (h : keysB l = true) : ∀ x, x ∈ l → 0 ≤ x.f0 ∧ x.f0 < 18446744073709551616 := fun x hx => by
 have := List.all_eq_true.1 h x hx
 simpa [Bool.and_eq_true] using this
theorem right_size (l : List S46) (h : RightP l) : ∀ x, x ∈ l → x.f1.size ≤ 64 := fun x hx => by
 obtain ⟨i, hi, rfl⟩ := List.mem_iff_getElem.1 hx
 have := (h.1 i hi).1
 rw [it_mem l i hi] at this
 exact this
theorem okL_of (l : List S46) (h : RightP l) (hk : keysB l = true) : okL l := fun x hx => by
 have h1 := right_size l h x hx
 have h2 := keysB_all l hk x hx
 exact ⟨by omega, h2.1, h2.2⟩
def domB (key : ByteArray) (l : List S46) : Bool := decide (key.size ≤ 1000000000) && decide (l.length ≤ 1000) && keysB l
theorem domB_of {key : ByteArray} {l : List S46} (h : domB key l = true) : key.size ≤ 1000000000 ∧ l.length ≤ 1000 ∧ keysB l = true := by
 unfold domB at h
 simp only [Bool.and_eq_true, decide_eq_true_eq] at h
 exact ⟨h.1.1, h.1.2, h.2⟩
def label_Row.f (a0 : ByteArray) (l1 : List S46) (a2 : Int) : Option (List ByteArray × Int) :=
 if domB a0 l1 = true then some (if rightB l1 = true then (if a2 < 0 ∨ 8 < a2 then ([], 2) else (rowL a0 l1 a2.toNat, 0)) else ([], 1)) else none
theorem R_of_strV {w : World} {base : Nat} {v : Value} {l : List ByteArray} (h : w.ownsRow base 9 1 v l.length (strV l)) : Kd.R Kd.string 9 w base (fun _ => True) v l := Kd.R_of_own h (fun _ _ => trivial)
theorem label_Row.calls (a0 : ByteArray) (A1 : Option Addr) (c1 : Nat) (l1 : List S46) (a2 : Int) (r1 : List ByteArray) (r2 : Int) (w : World) (hr1 : Kd.C k46 w A1 l1.length l1) (hc1 : l1.length ≤ c1) (h : label_Row.f a0 l1 a2 = some (r1, r2)) (hT0 : TabW w) :
  Calls Tryd.prog 30 #[.string a0, .slice A1 l1.length c1, .int .i64 a2] w fun e w' => ∃ v0_ : Value, e = .returned (.tuple #[v0_, .int .i64 r2]) ∧ Kd.R Kd.string 9 w' w.heap.size (fun _ => True) v0_ r1 ∧ Below w.heap.size w w' := by
 unfold label_Row.f at h
 split at h
 ·rename_i hd
  obtain ⟨h1, h2, h3⟩ := domB_of hd
  have h := Option.some.inj h
  by_cases g1 : rightB l1 = true
  ·have hp := (rightB_iff l1).1 g1
   rw [if_pos g1] at h
   by_cases g2 : a2 < 0 ∨ 8 < a2
   ·rw [if_pos g2] at h
    obtain ⟨rfl, rfl⟩ := Prod.mk.inj h
    exact (Row_range a0 A1 c1 l1 a2 w hr1 hc1 h2 hp g2).mono fun e w' q => ⟨_, q.1, Kd.R_nil _ _ _ _ _, q.2⟩
   ·rw [if_neg g2] at h
    obtain ⟨rfl, rfl⟩ := Prod.mk.inj h
    obtain ⟨m, rfl⟩ : ∃ m : Nat, a2 = (m : Int) := ⟨a2.toNat, by omega⟩
    exact (Row_ok a0 A1 c1 l1 m w hr1 hc1 h2 h1 (okL_of l1 hp h3) (by omega) hT0 hp).mono fun e w' ⟨v, q1, q2, q3⟩ => ⟨v, q1, R_of_strV q2, q3⟩
  ·rw [if_neg g1] at h
   obtain ⟨rfl, rfl⟩ := Prod.mk.inj h
   exact (Row_bad a0 A1 c1 l1 a2 w hr1 hc1 h2 (fun hp => g1 ((rightB_iff l1).2 hp))).mono fun e w' q => ⟨_, q.1, Kd.R_nil _ _ _ _ _, q.2⟩
 ·cases h
def saltusref16_Right.f (l0 : List S46) : Option Bool := if l0.length ≤ 100000 then some (rightB l0) else none
theorem saltusref16_Right.calls (A0 : Option Addr) (c0 : Nat) (l0 : List S46) (r : Bool) (w : World) (hr0 : Kd.C k46 w A0 l0.length l0) (hc0 : l0.length ≤ c0) (h : saltusref16_Right.f l0 = some r) :
  Calls Tryd.prog 25 #[.slice A0 l0.length c0] w fun e w' => e = .returned (.bool r) ∧ Below w.heap.size w w' := by
 unfold saltusref16_Right.f at h
 split at h
 ·rename_i hn
  obtain rfl := Option.some.inj h
  obtain ⟨r, hr, _, hB⟩ := c_right A0 c0 l0 hn
  have e : r = rightB l0 := by
   by_cases g : RightP l0
   ·rw [hr.2 g, (rightB_iff l0).2 g]
   ·have g1 : r = false := by
     cases r
     ·rfl
     ·exact absurd (hr.1 rfl) g
    have g2 : rightB l0 = false := by
     cases hb : rightB l0
     ·rfl
     ·exact absurd ((rightB_iff l0).1 hb) g
    rw [g1, g2]
  rw [← e]
  exact hB w hr0 hc0
 ·cases h
def leafB (a0 : Int) (a1 : ByteArray) : Bool := decide (0 ≤ a0) && decide (a0 < 18446744073709551616) && decide (a1.size ≤ 4096)
theorem leafB_of {a0 : Int} {a1 : ByteArray} (h : leafB a0 a1 = true) : 0 ≤ a0 ∧ a0 < 18446744073709551616 ∧ a1.size ≤ 4096 := by
 unfold leafB at h
 simp only [Bool.and_eq_true, decide_eq_true_eq] at h
 exact ⟨h.1.1, h.1.2, h.2⟩
def saltusref17_Leaf.f (a0 : Int) (a1 : ByteArray) : Option ByteArray := if leafB a0 a1 = true then some (sumS (itemT ⟨a0, a1⟩)) else none
theorem saltusref17_Leaf.calls (a0_0 : Int) (a0_1 : ByteArray) (r : ByteArray) (w : World) (h : saltusref17_Leaf.f a0_0 a0_1 = some r) :
  Calls Tryd.prog 43 #[.agg #[.int .u64 a0_0, .string a0_1]] w fun e w' => e = .returned (.string r) ∧ Below w.heap.size w w' := by
 unfold saltusref17_Leaf.f at h
 split at h
 ·rename_i hd
  obtain ⟨h1, h2, h3⟩ := leafB_of hd
  obtain rfl := Option.some.inj h
  exact QLA.saltusref17_Leaf.calls a0_0 a0_1 _ w (leaf_f ⟨a0_0, a0_1⟩ h1 h2 h3)
 ·cases h
def saltusref17_Text.f (a0 : Int) (l1 : List ByteArray) : Option ByteArray := if 0 ≤ a0 ∧ a0 ≤ 1000 ∧ l1.length ≤ 1000000 ∧ (catS l1).size ≤ 1000000000000 then some (joinT a0.toNat l1) else none
theorem saltusref17_Text.calls (a0 : Int) (A1 : Option Addr) (c1 : Nat) (l1 : List ByteArray) (r : ByteArray) (w : World) (hr1 : Kd.C Kd.string w A1 l1.length l1) (hc1 : l1.length ≤ c1) (h : saltusref17_Text.f a0 l1 = some r) :
  Calls Tryd.prog 46 #[.int .i64 a0, .slice A1 l1.length c1] w fun e w' => e = .returned (.string r) ∧ Below w.heap.size w w' := by
 unfold saltusref17_Text.f at h
 split at h
 ·rename_i hd
  obtain rfl := Option.some.inj h
  obtain ⟨m, rfl⟩ : ∃ m : Nat, a0 = (m : Int) := ⟨a0.toNat, by omega⟩
  obtain ⟨k, hk⟩ := (text_ev m (by omega) l1 hd.2.2.1 hd.2.2.2).rounds
  exact QLA.saltusref17_Text.calls k (m : Int) A1 c1 l1 _ w hr1 hc1 hk
 ·cases h
theorem labels_l0 (l : List ByteArray) (hn : l.length ≤ 1000000) (d : Nat) : ∀ i, i + d = l.length → Ev (fun k => QLA.saltusref17_Labels.l0 k l (l.length : Int) (i : Int)) (!odds (l.drop i)) := by
 induction d with
 | zero =>
  intro i hi
  refine Ev.step (fun k => ?_) (Ev.now _)
  rw [QLA.saltusref17_Labels.l0, if_neg (by omega), List.drop_eq_nil_of_le (by omega)]
  rfl
 | succ d ih =>
  intro i hi
  have hlt : i < l.length := by omega
  have hrd : rdOf ByteArray.empty l (i : Int) = l[i] := by
   unfold rdOf
   rw [Int.toNat_natCast, List.getD_eq_getElem?_getD, List.getElem?_eq_getElem hlt]
   rfl
  have ed : l.drop i = l[i] :: l.drop (i + 1) := List.drop_eq_getElem_cons hlt
  by_cases c : l[i].size = 32
  ·have e : odds (l.drop i) = odds (l.drop (i + 1)) := by
    rw [ed]
    unfold odds
    rw [List.any_cons]
    have : odd l[i] = false := by unfold odd; simp [c]
    rw [this, Bool.false_or]
   rw [e]
   refine Ev.step (fun k => ?_) (ih (i + 1) (by omega))
   rw [QLA.saltusref17_Labels.l0, if_pos (by omega), if_pos (by omega), if_pos (by omega), hrd, if_pos (by omega), SkipPure.w_succ i l.length (by omega) (by omega)]
  ·have e : odds (l.drop i) = true := by
    rw [ed]
    unfold odds
    rw [List.any_cons]
    have : odd l[i] = true := by unfold odd; simp; omega
    rw [this, Bool.true_or]
   rw [e]
   refine Ev.step (fun k => ?_) (Ev.now _)
   rw [QLA.saltusref17_Labels.l0, if_pos (by omega), if_pos (by omega), if_pos (by omega), hrd, if_neg (by omega)]
   rfl
def saltusref17_Labels.f (l0 : List ByteArray) : Option Bool := if l0.length ≤ 1000000 then some (!odds l0) else none
theorem saltusref17_Labels.calls (A0 : Option Addr) (c0 : Nat) (l0 : List ByteArray) (r : Bool) (w : World) (hr0 : Kd.C Kd.string w A0 l0.length l0) (hc0 : l0.length ≤ c0) (h : saltusref17_Labels.f l0 = some r) :
  Calls Tryd.prog 44 #[.slice A0 l0.length c0] w fun e w' => e = .returned (.bool r) ∧ Drawn0 w w' := by
 unfold saltusref17_Labels.f at h
 split at h
 ·rename_i hn
  obtain rfl := Option.some.inj h
  obtain ⟨k, hk⟩ := (labels_l0 l0 hn l0.length 0 (by omega)).rounds
  exact QLA.saltusref17_Labels.calls k A0 c0 l0 _ w hr0 hc0 hk
 ·cases h
end Go.Proofs.YtolbhliepkcihaaDoor
end
section
namespace Go.Proofs.YtolbhliepkcihaaDoor.QLR
open Go.RowKit Go.Proofs.YtolbhliepkcihaaDoor.Kinds Go.Proofs.YtolbhliepkcihaaDoorW.PrintWords Go.Proofs.YtolbhliepkcihaaDoorW.PrintLast Go.Proofs.YtolbhliepkcihaaDoorW.PrintMore
attribute [local go_sem] max2_int min2_int max_two min_two max_three min_three max_four min_four   -- for this text's walks alone
set_option linter.unusedVariables false
set_option linter.unusedSimpArgs false
def errW : Option Int → Value
 | none => .nilIface
 | some c => .iface 0 (.int .i64 c)
theorem errW_none : errW none = .nilIface := rfl
theorem errW_some (c : Int) : errW (some c) = .iface 0 (.int .i64 c) := rfl
theorem info9 : (Tryd.prog.info? 9).map (fun i => (i.zero, i.size, i.bytes)) = some (some (.string ⟨#[]⟩), 1, 16) := by kernel_rfl
theorem info46 : (Tryd.prog.info? 46).map (fun i => (i.zero, i.size, i.bytes)) = some (some (.agg #[(.int .u64 0), (.string ⟨#[]⟩)]), 2, 24) := by kernel_rfl
end Go.Proofs.YtolbhliepkcihaaDoor.QLR
end
section
namespace Go.Proofs.YtolbhliepkcihaaDoor.QLR
open Go.RowKit Go.Proofs.YtolbhliepkcihaaDoor.Kinds Go.Proofs.YtolbhliepkcihaaDoorW.PrintWords Go.Proofs.YtolbhliepkcihaaDoorW.PrintLast Go.Proofs.YtolbhliepkcihaaDoorW.PrintMore
attribute [local go_sem] max2_int min2_int max_two min_two max_three min_three max_four min_four   -- for this text's walks alone
set_option linter.unusedVariables false
set_option linter.unusedSimpArgs false
/-! ### saltuslaw17_alive: function 32 -/
def saltuslaw17_alive.f  : Option (Bool) := (label_Row.f (⟨#[107]⟩ : ByteArray) ([] : List (S46)) 0).bind fun bt101 => (if bt101.2 = 0 then (if (bt101.1.length : Int) = 1 then (if 0 < (bt101.1.length : Int) then (some (((rdOf ByteArray.empty bt101.1 0).size : Int) == 32)) else (none)) else (some false)) else (some false))
set_option maxHeartbeats 8000000 in
set_option maxRecDepth 100000 in
theorem saltuslaw17_alive.calls  (r : Bool) (w : World) (h : saltuslaw17_alive.f  = some r) (hT0 : Tower.TabW w) :
  Calls Tryd.prog 32 #[] w fun e w' => e = .returned (.bool r) ∧ Below w.heap.size w w' := by
 have HT := Aside0.mk hT0
 clear hT0
 have HB := Aside0.mk (Below.refl w.heap.size w)
 have H : ((label_Row.f (⟨#[107]⟩ : ByteArray) ([] : List (S46)) 0).bind fun bt101 => (if bt101.2 = 0 then (if (bt101.1.length : Int) = 1 then (if 0 < (bt101.1.length : Int) then (some (((rdOf ByteArray.empty bt101.1 0).size : Int) == 32)) else (none)) else (some false)) else (some false))) = some r := h
 clear h
 replace H := Option.bind_eq_some_iff.mp H
 obtain ⟨⟨t101, t102⟩, A10, H⟩ := H
 (try dsimp only at H)
 have A1 := Aside0.mk A10
 clear A10
 by_cases c2 : t102 = 0
 ·rw [if_pos c2] at H
  have c2b0 : (t102 == 0) = true := beq_iff_eq.mpr c2
  have c2b1 : (t102 != 0) = false := bne_eq_false_iff_eq.mpr c2
  clear c2
  by_cases c3 : (t101.length : Int) = 1
  ·rw [if_pos c3] at H
   have c3b0 : ((t101.length : Int) == 1) = true := beq_iff_eq.mpr c3
   have c3b1 : ((t101.length : Int) != 1) = false := bne_eq_false_iff_eq.mpr c3
   clear c3
   by_cases c4 : 0 < (t101.length : Int)
   ·rw [if_pos c4] at H
    have c4b0 : decide (0 < (t101.length : Int)) = true := decide_eq_true c4
    have c4b1 : decide (0 < t101.length) = true := decide_eq_true (by omega)
    clear c4
    obtain rfl := Option.some.inj H
    go_enter Tryd.func32, Tryd.ntmps32
    go_wp2_with (first | ((with_reducible refine gate_callee (f := 30) rfl ?_); refine goesL_ (some 4) rfl rfl Tryd.func30 (by kernel_rfl) rfl #[.string (⟨#[107]⟩ : ByteArray), .slice none 0 0, .int .i64 0] rfl (by (try simp only [List.map_toArray, List.map_cons, List.map_nil]); first | done | rfl | (simp only [List.length_drop, List.length_take]; rfl)) ?_; (refine (label_Row.calls (⟨#[107]⟩ : ByteArray) _ _ ([] : List (S46)) 0 t101 t102 _ ?side1 ?side2 A1.out (Tower.tab_below HT.out (by repeat (first | (with_reducible first | exact HB.out | apply below_alloc | apply pw_below_drewN | apply below_drew1) | exact HB.out)) (Nat.le_refl _))).mono ?_); (case side1 => exact Kd.C_nil _ _); (case side2 => exact Nat.le_refl _); rintro e w5 ⟨v103, rfl, ho0, hb⟩; refine ⟨_, rfl, ?_⟩; have n0_ := Aside0.mk (Kd.R_lower ho0 (below_size (by repeat (first | (with_reducible first | exact HB.out | apply below_alloc | apply pw_below_drewN | apply below_drew1) | exact HB.out)))); have n1_ := Aside0.mk (below_step (by repeat (first | (with_reducible first | exact HB.out | apply below_alloc | apply pw_below_drewN | apply below_drew1) | exact HB.out)) hb); clear HB; have HO104 := n0_; have HB := n1_; clear n0_ n1_; (try clear hb); (try clear hb2); (try clear hk); (try clear hi); (try clear ho0); obtain ⟨Ao6, co6, eo6⟩ := Kd.R_slice HO104.out; subst eo6; have p105 : 0 ≤ (0 : Int) := (by omega); have q105 : 0 < (t101.length : Int) := of_decide_eq_true (by first | (with_reducible assumption) | assumption); obtain ⟨ad105, e105, hx105_0⟩ := Kd.at_string (Kd.R_reads' HO104.out).2.2 0 p105 q105; cases e105; have qi105 : (0 < t101.length) = True := eq_true (by omega); (try rw [show ((0 : Int)).toNat = 0 from rfl] at hx105_0); (try rw [Addr.add_zero'] at hx105_0); replace p105 := eq_true p105; replace q105 := eq_true q105))
    go_ret
    exact ⟨by first | rfl | (simp [errW_none, errW_some] <;> rfl) | (simp [*, errW_none, errW_some] <;> rfl), by repeat (first | (with_reducible first | exact HB.out | apply below_alloc | apply pw_below_drewN | apply below_drew1) | exact HB.out)⟩
   ·rw [if_neg c4] at H
    exact absurd H (by simp)
  ·rw [if_neg c3] at H
   have c3b0 : ((t101.length : Int) == 1) = false := beq_eq_false_iff_ne.mpr c3
   have c3b1 : ((t101.length : Int) != 1) = true := bne_iff_ne.mpr c3
   obtain rfl := Option.some.inj H
   go_enter Tryd.func32, Tryd.ntmps32
   go_wp2_with (first | ((with_reducible refine gate_callee (f := 30) rfl ?_); refine goesL_ (some 4) rfl rfl Tryd.func30 (by kernel_rfl) rfl #[.string (⟨#[107]⟩ : ByteArray), .slice none 0 0, .int .i64 0] rfl (by (try simp only [List.map_toArray, List.map_cons, List.map_nil]); first | done | rfl | (simp only [List.length_drop, List.length_take]; rfl)) ?_; (refine (label_Row.calls (⟨#[107]⟩ : ByteArray) _ _ ([] : List (S46)) 0 t101 t102 _ ?side1 ?side2 A1.out (Tower.tab_below HT.out (by repeat (first | (with_reducible first | exact HB.out | apply below_alloc | apply pw_below_drewN | apply below_drew1) | exact HB.out)) (Nat.le_refl _))).mono ?_); (case side1 => exact Kd.C_nil _ _); (case side2 => exact Nat.le_refl _); rintro e w7 ⟨v103, rfl, ho0, hb⟩; refine ⟨_, rfl, ?_⟩; have n0_ := Aside0.mk (Kd.R_lower ho0 (below_size (by repeat (first | (with_reducible first | exact HB.out | apply below_alloc | apply pw_below_drewN | apply below_drew1) | exact HB.out)))); have n1_ := Aside0.mk (below_step (by repeat (first | (with_reducible first | exact HB.out | apply below_alloc | apply pw_below_drewN | apply below_drew1) | exact HB.out)) hb); clear HB; have HO104 := n0_; have HB := n1_; clear n0_ n1_; (try clear hb); (try clear hb2); (try clear hk); (try clear hi); (try clear ho0); obtain ⟨Ao8, co8, eo8⟩ := Kd.R_slice HO104.out; subst eo8))
   go_ret
   exact ⟨by first | rfl | (simp [errW_none, errW_some] <;> rfl) | (simp [*, errW_none, errW_some] <;> rfl), by repeat (first | (with_reducible first | exact HB.out | apply below_alloc | apply pw_below_drewN | apply below_drew1) | exact HB.out)⟩
 ·rw [if_neg c2] at H
  have c2b0 : (t102 == 0) = false := beq_eq_false_iff_ne.mpr c2
  have c2b1 : (t102 != 0) = true := bne_iff_ne.mpr c2
  obtain rfl := Option.some.inj H
  go_enter Tryd.func32, Tryd.ntmps32
  go_wp2_with (first | ((with_reducible refine gate_callee (f := 30) rfl ?_); refine goesL_ (some 4) rfl rfl Tryd.func30 (by kernel_rfl) rfl #[.string (⟨#[107]⟩ : ByteArray), .slice none 0 0, .int .i64 0] rfl (by (try simp only [List.map_toArray, List.map_cons, List.map_nil]); first | done | rfl | (simp only [List.length_drop, List.length_take]; rfl)) ?_; (refine (label_Row.calls (⟨#[107]⟩ : ByteArray) _ _ ([] : List (S46)) 0 t101 t102 _ ?side1 ?side2 A1.out (Tower.tab_below HT.out (by repeat (first | (with_reducible first | exact HB.out | apply below_alloc | apply pw_below_drewN | apply below_drew1) | exact HB.out)) (Nat.le_refl _))).mono ?_); (case side1 => exact Kd.C_nil _ _); (case side2 => exact Nat.le_refl _); rintro e w9 ⟨v103, rfl, ho0, hb⟩; refine ⟨_, rfl, ?_⟩; have n0_ := Aside0.mk (Kd.R_lower ho0 (below_size (by repeat (first | (with_reducible first | exact HB.out | apply below_alloc | apply pw_below_drewN | apply below_drew1) | exact HB.out)))); have n1_ := Aside0.mk (below_step (by repeat (first | (with_reducible first | exact HB.out | apply below_alloc | apply pw_below_drewN | apply below_drew1) | exact HB.out)) hb); clear HB; have HO104 := n0_; have HB := n1_; clear n0_ n1_; (try clear hb); (try clear hb2); (try clear hk); (try clear hi); (try clear ho0)))
  go_ret
  exact ⟨by first | rfl | (simp [errW_none, errW_some] <;> rfl) | (simp [*, errW_none, errW_some] <;> rfl), by repeat (first | (with_reducible first | exact HB.out | apply below_alloc | apply pw_below_drewN | apply below_drew1) | exact HB.out)⟩
/-! ### saltusref04_Same: function 34 -/
/-! ### saltuslaw17_LabelRows: function 8 -/
/-! ### saltuslaw17_few: function 40 -/
end Go.Proofs.YtolbhliepkcihaaDoor.QLR
end
section
namespace Go.Proofs.YtolbhliepkcihaaDoor.LabLaw
open Go.RowKit Go.Proofs.YtolbhliepkcihaaDoor.QLR Go.Proofs.YtolbhliepkcihaaDoorW.PrintWords Go.Proofs.YtolbhliepkcihaaDoor.Kinds Go.Proofs.YtolbhliepkcihaaDoor.Build Go.Proofs.YtolbhliepkcihaaDoor.Lab Go.Proofs.YtolbhliepkcihaaDoor.Sha Go.Proofs.YtolbhliepkcihaaDoor.Mac Go.Proofs.YtolbhliepkcihaaDoor.Codec Go.Proofs.YtolbhliepkcihaaDoor.Tower Go.Proofs.YtolbhliepkcihaaDoor.SkipOps Go.Proofs.YtolbhliepkcihaaDoor.SkipPure
theorem alive17 : saltuslaw17_alive.f = some true := by
 have e1 : label_Row.f (⟨#[107]⟩ : ByteArray) [] 0 = some ([sumS (ofNats [1])], 0) := by
  unfold label_Row.f
  rw [if_pos (by decide), if_pos (by decide), if_neg (by decide)]
  rfl
 have hz : (rdOf ByteArray.empty [sumS (ofNats [1])] 0).size = 32 := sumS_size _
 unfold saltuslaw17_alive.f
 rw [e1, Option.bind_some]
 show (if (0 : Int) = 0 then (if (1 : Int) = 1 then (if (0 : Int) < 1 then some (((rdOf ByteArray.empty [sumS (ofNats [1])] 0).size : Int) == 32) else none) else some false) else some false) = some true
 rw [if_pos rfl, if_pos rfl, if_pos (by decide), hz]
 rfl
end Go.Proofs.YtolbhliepkcihaaDoor.LabLaw
end
section
namespace Go.Proofs.YtolbhliepkcihaaDoor.SkipOps
open Go.RowKit Go.Proofs.YtolbhliepkcihaaDoor.Kinds Go.Proofs.YtolbhliepkcihaaDoor.QSF Go.Proofs.YtolbhliepkcihaaDoor.QSQ Go.Proofs.YtolbhliepkcihaaDoorW.PrintWords Go.Proofs.YtolbhliepkcihaaDoorW.PrintLast Go.Proofs.YtolbhliepkcihaaDoorW.PrintMore Go.Proofs.YtolbhliepkcihaaDoor.Sha Go.Proofs.YtolbhliepkcihaaDoor.Mac Go.Proofs.YtolbhliepkcihaaDoor.Codec Go.Proofs.YtolbhliepkcihaaDoor.Tower Go.Proofs.YtolbhliepkcihaaDoor.Skip Go.Proofs.YtolbhliepkcihaaDoor.SkipPure
set_option linter.unusedVariables false
set_option linter.unusedSimpArgs false
theorem c_put_err (A : Option Addr) (c : Nat) (l : List It) (hn : l.length ≤ 100000) (x : It) (er : Int)
  (hc : (¬RightP l ∧ er = 1) ∨ (RightP l ∧ 64 < x.f1.size ∧ er = 4) ∨ (RightP l ∧ ¬64 < x.f1.size ∧ (has l x.f0 = false ∧ l.length = 64) ∧ er = 6))
  (w : World) (q1 : Kd.C k46 w A l.length l) (q2 : l.length ≤ c) :
  Calls Tryd.prog 36 #[.slice A l.length c, .agg #[.int .u64 x.f0, .string x.f1]] w fun e w' => ∃ A' c', e = .returned (.tuple #[.slice A' 0 c', .int .i64 er]) ∧ Below w.heap.size w w' := by
 refine (c_put A c l hn x [] er ?_ w q1 q2).mono fun e w' ⟨v, h1, A', c', h2, _, _, h3⟩ => ⟨A', c', by rw [h1, h2]; rfl, h3⟩
 rcases hc with ⟨h1, h2⟩ | ⟨h1, h2, h3⟩ | ⟨h1, h2, h3, h4⟩
 ·exact .inl ⟨h1, rfl, h2⟩
 ·exact .inr (.inl ⟨h1, h2, rfl, h3⟩)
 ·exact .inr (.inr (.inl ⟨h1, h2, h3, rfl, h4⟩))
theorem itbox (w : World) (x : It) : ∀ (j : Nat) (u : Value), [Value.int .u64 x.f0, Value.string x.f1][j]? = some u → (w.alloc (.cells #[.int .u64 x.f0, .string x.f1] 46)).cell? ((⟨w.heap.size, 0, none⟩ : Addr).add j) = some u := two_new w x.f0 x.f1
end Go.Proofs.YtolbhliepkcihaaDoor.SkipOps
end
section
namespace Go.Proofs.YtolbhliepkcihaaDoor.SkipOps
open Go.RowKit Go.Proofs.YtolbhliepkcihaaDoor.Kinds Go.Proofs.YtolbhliepkcihaaDoor.QSF Go.Proofs.YtolbhliepkcihaaDoor.QSQ Go.Proofs.YtolbhliepkcihaaDoorW.PrintWords Go.Proofs.YtolbhliepkcihaaDoorW.PrintLast Go.Proofs.YtolbhliepkcihaaDoorW.PrintMore Go.Proofs.YtolbhliepkcihaaDoor.Sha Go.Proofs.YtolbhliepkcihaaDoor.Mac Go.Proofs.YtolbhliepkcihaaDoor.Codec Go.Proofs.YtolbhliepkcihaaDoor.Tower Go.Proofs.YtolbhliepkcihaaDoor.Skip Go.Proofs.YtolbhliepkcihaaDoor.SkipPure
set_option linter.unusedVariables false
set_option linter.unusedSimpArgs false
theorem itbox2 (w : World) (x y : It) : ∀ (j : Nat) (u : Value), [Value.int .u64 x.f0, Value.string x.f1][j]? = some u → ((w.alloc (.cells #[.int .u64 x.f0, .string x.f1] 46)).alloc (.cells #[.int .u64 y.f0, .string y.f1] 46)).cell? ((⟨w.heap.size, 0, none⟩ : Addr).add j) = some u := fun j u h => by
  have h1 := itbox w x j u h
  rw [World.cell?_alloc_lt]
  · exact h1
  · have := World.block_lt_of_cell? _ _ h1
    have e : ((⟨w.heap.size, 0, none⟩ : Addr).add j).block = w.heap.size := by unfold Addr.add; split <;> rfl
    rw [e] at this ⊢
    exact this
end Go.Proofs.YtolbhliepkcihaaDoor.SkipOps
end
section
namespace Go.Proofs.YtolbhliepkcihaaDoor.LabLaw
open Go.RowKit Go.Proofs.YtolbhliepkcihaaDoorW.PrintWords Go.Proofs.YtolbhliepkcihaaDoorW.PrintLast Go.Proofs.YtolbhliepkcihaaDoorW.PrintMore Go.Proofs.YtolbhliepkcihaaDoor.Kinds Go.Proofs.YtolbhliepkcihaaDoor.Build Go.Proofs.YtolbhliepkcihaaDoor.Lab Go.Proofs.YtolbhliepkcihaaDoor.Sha Go.Proofs.YtolbhliepkcihaaDoor.Mac Go.Proofs.YtolbhliepkcihaaDoor.Codec Go.Proofs.YtolbhliepkcihaaDoor.Tower Go.Proofs.YtolbhliepkcihaaDoor.SkipOps Go.Proofs.YtolbhliepkcihaaDoor.SkipPure
structure Tok (w wr : World) (A0 : Option Addr) (l : List S46) (x y : S46) : Prop where
 hl : Kd.C k46 wr A0 l.length l
 x0 : wr.cell? ⟨w.heap.size, 0, none⟩ = some (.int .u64 x.f0)
 x1 : wr.cell? ⟨w.heap.size, 1, none⟩ = some (.string x.f1)
 y0 : wr.cell? ⟨w.heap.size + 1, 0, none⟩ = some (.int .u64 y.f0)
 y1 : wr.cell? ⟨w.heap.size + 1, 1, none⟩ = some (.string y.f1)
 hb : Below w.heap.size w wr
theorem Tok.below {w wr w' : World} {A0 : Option Addr} {l : List S46} {x y : S46} (h : Tok w wr A0 l x y) (hb : Below wr.heap.size wr w') : Tok w w' A0 l x y :=
 ⟨Kd.C_below h.hl hb, (hb.cell (World.block_lt_of_cell? _ _ h.x0)).trans h.x0, (hb.cell (World.block_lt_of_cell? _ _ h.x1)).trans h.x1, (hb.cell (World.block_lt_of_cell? _ _ h.y0)).trans h.y0, (hb.cell (World.block_lt_of_cell? _ _ h.y1)).trans h.y1, below_step h.hb hb⟩
theorem Tok.drewN {w wr : World} {A0 : Option Addr} {l : List S46} {x y : S46} (h : Tok w wr A0 l x y) (n : Nat) : Tok w (wr.drewN n) A0 l x y := h.below (pw_below_drewN (Below.refl _ _) n)
theorem tok_start (w : World) (A0 : Option Addr) (l : List S46) (x y : S46) (h : Kd.C k46 w A0 l.length l) : Tok w ((w.alloc (.cells #[.int .u64 x.f0, .string x.f1] 46)).alloc (.cells #[.int .u64 y.f0, .string y.f1] 46)) A0 l x y := by
 have X0 := itbox2 w x y 0 _ rfl
 have X1 := itbox2 w x y 1 _ rfl
 have Y0 := itbox (w.alloc (.cells #[.int .u64 x.f0, .string x.f1] 46)) y 0 _ rfl
 have Y1 := itbox (w.alloc (.cells #[.int .u64 x.f0, .string x.f1] 46)) y 1 _ rfl
 simp only [Addr.add_lit, World.size_alloc] at X0 X1 Y0 Y1
 exact ⟨Kd.C_alloc (Kd.C_alloc h _) _, X0, X1, Y0, Y1, below_alloc (below_alloc (Below.refl w.heap.size w) _) _⟩
theorem str_C {w : World} {base : Nat} {A : Option Addr} {n c : Nat} {rr : List ByteArray} (h : w.ownsRow base 9 1 (.slice A n c) n (strV rr)) (hl : rr.length = n) : Kd.C Kd.string w A n rr ∧ n ≤ c := by
 subst hl
 have q := Kd.R_reads' (R_of_strV h)
 exact ⟨q.2.2, q.2.1⟩
theorem own_form {w : World} {base : Nat} {e : TypeId} {size : Nat} {v : Value} {N : Nat} {xs : List Value} (h : w.ownsRow base e size v N xs) (h0 : 0 < N) : ∃ g cap, v = .slice (some ⟨g, 0, none⟩) N cap ∧ N ≤ cap := by
 obtain ⟨k, rfl⟩ : ∃ k, N = k + 1 := ⟨N - 1, by omega⟩
 exact own_succ3 h
theorem okL_keys {l : List S46} (h : RightP l) (hk : keysOk l) : okL l := fun z hz => by
 have h1 := right_size l h z hz
 have h2 := hk z hz
 omega
theorem del_insF (m : List S46) (ha : Asc m) (y : S46) : delF (insF m y) y.f0 = delF m y.f0 := by
 rw [del_split m ha]
 unfold delF insF
 rw [List.filter_append, List.filter_append, List.filter_filter, List.filter_filter]
 have e1 : [y].filter (fun z => !(z.f0 == y.f0)) = [] := by simp
 rw [e1, List.append_nil]
 congr 1
 ·congr 1
  funext z
  by_cases c : z.f0 < y.f0
  ·have : (z.f0 == y.f0) = false := beq_eq_false_iff_ne.2 (by omega)
   simp [c, this]
  ·simp [c]
 ·congr 1
  funext z
  by_cases c : y.f0 < z.f0
  ·have : (z.f0 == y.f0) = false := beq_eq_false_iff_ne.2 (by omega)
   simp [c, this]
  ·simp [c]
theorem del_swap (m : List S46) (p q : Int) : delF (delF m p) q = delF (delF m q) p := by
 unfold delF
 rw [List.filter_filter, List.filter_filter]
 congr 1
 funext z
 exact Bool.and_comm _ _
theorem del_del (l : List S46) (ha : Asc l) (x y : S46) : delF (delF (insF (insF l x) y) x.f0) y.f0 = l ∨ (delF (delF (insF (insF l x) y) x.f0) y.f0).length ≠ l.length := by
 have e : delF (delF (insF (insF l x) y) x.f0) y.f0 = delF (delF l x.f0) y.f0 := by
  rw [del_swap, del_insF _ (ins_asc l ha x), del_swap, del_insF l ha]
 rw [e]
 by_cases h : (delF (delF l x.f0) y.f0).length = l.length
 ·left
  unfold delF at h ⊢
  rw [List.filter_filter] at h ⊢
  exact List.filter_eq_self.2 (List.length_filter_eq_length_iff.1 h)
 ·exact .inr h
theorem c_alive17 (w : World) (hT : TabW w) : Calls Tryd.prog 32 #[] w fun e w' => e = .returned (.bool true) ∧ Below w.heap.size w w' := QLR.saltuslaw17_alive.calls true w alive17 hT
set_option maxRecDepth 100000 in
set_option maxHeartbeats 8000000 in
theorem made_bad (a0 : ByteArray) (A1 : Option Addr) (c1 : Nat) (l0 : List S46) (x y : S46) (w : World) (hr0 : Kd.C k46 w A1 l0.length l0) (hc0 : l0.length ≤ c1) (hT0 : TabW w) (hR : ¬RightP (l0.take 12)) :
  Calls Tryd.prog 12 #[.string a0, .slice A1 l0.length c1, .agg #[.int .u64 x.f0, .string x.f1], .agg #[.int .u64 y.f0, .string y.f1]] w fun e w' => e = .returned (.bool true) ∧ Below w.heap.size w w' := by
 have zm : (l0.take 12).length = min l0.length 12 := by rw [List.length_take, Nat.min_comm]
 have hm : (min (l0.length : Int) 12) = ((l0.take 12).length : Int) := by omega
 have z0 : (l0.take 12).length ≤ 12 := by omega
 have y0 : (l0.take 12).length ≤ c1 := by omega
 have HL := Kd.C_take (m := min l0.length 12) hr0 (by omega)
 have e12 : l0.take (min l0.length 12) = l0.take 12 := by
  rcases Nat.le_total l0.length 12 with h | h
  ·rw [Nat.min_eq_left h, List.take_length, List.take_of_length_le h]
  ·rw [Nat.min_eq_right h]
 rw [e12] at HL
 have T := Aside0.mk (tok_start w A1 (l0.take 12) x y HL)
 have hk0 : (min (a0.size : Int) 80) = ((min a0.size 80 : Nat) : Int) := by omega
 have hk1 : min a0.size 80 ≤ a0.size := Nat.min_le_left _ _
 have hkz : (a0.extract 0 (min a0.size 80)).size ≤ 80 := by rw [ByteArray.size_extract]; omega
 have HT := Lib.hid hT0
 have GA := Lib.hid c_alive17
 clear hr0 hc0 zm e12 HL hT0
 generalize l0.take 12 = l at *
 obtain ⟨K, hK⟩ : ∃ K, a0.extract 0 (min a0.size 80) = K := ⟨_, rfl⟩
 rw [hK] at hkz
 have GR := Lib.hid (fun w q1 => Root_bad K A1 c1 l w q1 y0 (by omega) hR)
 clear hR z0
 go_enter Tryd.func12, Tryd.ntmps12
 go_upto_region 1 with (fail)
 generalize (w.alloc (.cells #[.int .u64 x.f0, .string x.f1] 46)).alloc (.cells #[.int .u64 y.f0, .string y.f1] 46) = ws at *
 go_quiet (fail)
 rename_i nq
 replace T := Aside0.mk (T.out.drewN nq)
 generalize ws.drewN nq = wt at *
 go_wp2_with (first | (go_at_call 31; ((with_reducible refine (GR.out _ T.out.hl).mono ?_); rintro e w1 ⟨rfl, hb1⟩; replace T := Aside0.mk (T.out.below hb1); (try replace HP := Aside0.mk (Kd.C_below HP.out hb1)); (try replace HQ := Aside0.mk (Kd.C_below HQ.out hb1)); (try replace HP2 := Aside0.mk (Kd.C_below HP2.out hb1)); (try replace HQ2 := Aside0.mk (Kd.C_below HQ2.out hb1)); (try replace HD := Aside0.mk (Kd.C_below HD.out hb1)); (try replace HD2 := Aside0.mk (Kd.C_below HD2.out hb1)); (try clear hx0 hx1 hy0 hy1); have hx0 := T.out.x0; have hx1 := T.out.x1; have hy0 := T.out.y0; have hy1 := T.out.y1; clear hb1)) | (go_at_call 32; ((with_reducible refine (GA.out _ (tab_below HT.out T.out.hb (Nat.le_refl _))).mono ?_); rintro e w1 ⟨rfl, hb1⟩; replace T := Aside0.mk (T.out.below hb1); (try replace HP := Aside0.mk (Kd.C_below HP.out hb1)); (try replace HQ := Aside0.mk (Kd.C_below HQ.out hb1)); (try replace HP2 := Aside0.mk (Kd.C_below HP2.out hb1)); (try replace HQ2 := Aside0.mk (Kd.C_below HQ2.out hb1)); (try replace HD := Aside0.mk (Kd.C_below HD.out hb1)); (try replace HD2 := Aside0.mk (Kd.C_below HD2.out hb1)); (try clear hx0 hx1 hy0 hy1); have hx0 := T.out.x0; have hx1 := T.out.x1; have hy0 := T.out.y0; have hy1 := T.out.y1; clear hb1)))
 go_ret
 exact ⟨by first | rfl | (simp; done) | (simp [*]; done), T.out.hb⟩
def lastN (K : ByteArray) (l : List S46) : Nat → Nat
 | 0 => l.length + 1
 | m + 1 => (rowL K l m).length
theorem rowL_last (K : ByteArray) (l : List S46) (m : Nat) : (rowL K l m).length ≤ lastN K l m := by
 cases m with
 | zero =>
  have := row_len 0 (ents K l)
  unfold ents at this
  rw [List.length_cons, List.length_map] at this
  exact this
 | succ m =>
  show (rowF (lab (m + 1)) (m + 1) (ents K l)).length ≤ (rowF (lab m) m (ents K l)).length
  rw [← Lab.hts_len, ← Lab.hts_len, ← hts_up]
  exact List.length_filter_le _ _
theorem rowL_odds (K : ByteArray) (l : List S46) (m : Nat) : odds (rowL K l m) = false := by
 cases h : odds (rowL K l m) with
 | false => rfl
 | true =>
  unfold odds at h
  obtain ⟨s, hs, ho⟩ := List.any_eq_true.1 h
  have h32 : s.size = 32 := row_size m (ents K l) s hs
  unfold odd at ho
  rw [h32] at ho
  exact absurd ho (by decide)
set_option maxRecDepth 100000 in
set_option maxHeartbeats 16000000 in
theorem made_ok (a0 : ByteArray) (A1 : Option Addr) (c1 : Nat) (l0 : List S46) (x y : S46) (w : World) (hr0 : Kd.C k46 w A1 l0.length l0) (hc0 : l0.length ≤ c1) (hk0 : keysOk l0) (hxk : 0 ≤ x.f0 ∧ x.f0 ≤ 18446744073709551615) (hyk : 0 ≤ y.f0 ∧ y.f0 ≤ 18446744073709551615) (hT0 : TabW w) (hR : RightP (l0.take 12)) :
  Calls Tryd.prog 12 #[.string a0, .slice A1 l0.length c1, .agg #[.int .u64 x.f0, .string x.f1], .agg #[.int .u64 y.f0, .string y.f1]] w fun e w' => e = .returned (.bool true) ∧ Below w.heap.size w w' := by
 have hkl : keysOk (l0.take 12) := take_keys hk0 12
 clear hk0
 have zm : (l0.take 12).length = min l0.length 12 := by rw [List.length_take, Nat.min_comm]
 have hm : (min (l0.length : Int) 12) = ((l0.take 12).length : Int) := by omega
 have z0 : (l0.take 12).length ≤ 12 := by omega
 have y0 : (l0.take 12).length ≤ c1 := by omega
 have HL := Kd.C_take (m := min l0.length 12) hr0 (by omega)
 have e12 : l0.take (min l0.length 12) = l0.take 12 := by
  rcases Nat.le_total l0.length 12 with h | h
  ·rw [Nat.min_eq_left h, List.take_length, List.take_of_length_le h]
  ·rw [Nat.min_eq_right h]
 rw [e12] at HL
 have T := Aside0.mk (tok_start w A1 (l0.take 12) x y HL)
 have hk0 : (min (a0.size : Int) 80) = ((min a0.size 80 : Nat) : Int) := by omega
 have hk1 : min a0.size 80 ≤ a0.size := Nat.min_le_left _ _
 have hkz : (a0.extract 0 (min a0.size 80)).size ≤ 80 := by rw [ByteArray.size_extract]; omega
 have HT := Lib.hid hT0
 have GA := Lib.hid c_alive17
 clear hr0 hc0 zm e12 HL hT0
 generalize l0.take 12 = l at *
 obtain ⟨K, hK⟩ : ∃ K, a0.extract 0 (min a0.size 80) = K := ⟨_, rfl⟩
 rw [hK] at hkz
 have hok : okL l := fun z hz => by
  have h1 := right_size l hR z hz
  have h2 := hkl z hz
  omega
 have GR := Lib.hid (fun w q1 => Root_ok K A1 c1 l w q1 y0 (by omega) (by omega) hok)
 have GW := Lib.hid (fun m hm w q1 q2 => Row_ok K A1 c1 l m w q1 y0 (by omega) (by omega) hok hm q2 hR)
 have HHD := Lib.hid (row_head K l)
 have HLA := Lib.hid (rowL_last K l)
 have HOD := Lib.hid (rowL_odds K l)
 have H8 := Lib.hid (rootL_row K l)
 obtain ⟨s, hs⟩ : ∃ s, rootL K l = s := ⟨_, rfl⟩
 rw [hs] at H8 GR
 have HZ := Aside0.mk z0
 have HK := Aside0.mk hkz
 go_enter Tryd.func12, Tryd.ntmps12
 go_upto_region 1 with (fail)
 generalize (w.alloc (.cells #[.int .u64 x.f0, .string x.f1] 46)).alloc (.cells #[.int .u64 y.f0, .string y.f1] 46) = ws at *
 go_quiet (fail)
 rename_i nq
 replace T := Aside0.mk (T.out.drewN nq)
 generalize ws.drewN nq = wt at *
 go_upto_region 6 with (first | (go_at_call 31; ((with_reducible refine (GR.out _ T.out.hl (tab_below HT.out T.out.hb (Nat.le_refl _)) hR).mono ?_); rintro e w1 ⟨rfl, hb1⟩; replace T := Aside0.mk (T.out.below hb1); (try replace HP := Aside0.mk (Kd.C_below HP.out hb1)); (try replace HQ := Aside0.mk (Kd.C_below HQ.out hb1)); (try replace HP2 := Aside0.mk (Kd.C_below HP2.out hb1)); (try replace HQ2 := Aside0.mk (Kd.C_below HQ2.out hb1)); (try replace HD := Aside0.mk (Kd.C_below HD.out hb1)); (try replace HD2 := Aside0.mk (Kd.C_below HD2.out hb1)); (try clear hx0 hx1 hy0 hy1); have hx0 := T.out.x0; have hx1 := T.out.x1; have hy0 := T.out.y0; have hy1 := T.out.y1; clear hb1)))
 go_wp2
 go_loopw [11, 54] (fun lastv iv wr => ∃ m : Nat, m ≤ 9 ∧ iv = .int .i64 m ∧ lastv = .int .i64 (lastN K l m : Nat) ∧ Aside0 (Tok w wr A1 l x y)) (fun _ iv _ => 9 - (intOf iv).toNat)
 case atStart => exact ⟨0, by omega, rfl, rfl, T⟩
 case round =>
  clear T
  obtain ⟨m, hm, rfl, rfl, T⟩ := hrel
  by_cases hlt : m < 9
  ·obtain ⟨N, hn⟩ : ∃ N, (rowL K l m).length = N := ⟨_, rfl⟩
   have hN0 : 0 < N := by rw [← hn]; exact HHD.out m hlt
   have hla := HLA.out m
   have hod := HOD.out m
   have hnext : lastN K l (m + 1) = N := hn
   have GW' := Lib.hid (GW.out m (by omega))
   rw [hn] at hla
   have hlz : lastN K l m ≤ 1000 := by
    cases m with
    | zero => show l.length + 1 ≤ 1000; omega
    | succ m =>
     have h1 := HLA.out m
     have : lastN K l m ≤ lastN K l 0 := by
      clear h1 hn hla hod hnext GW' hlt hm T
      induction m with
      | zero => exact Nat.le_refl _
      | succ m ih => exact Nat.le_trans (HLA.out m) ih
     have h2 : lastN K l 0 = l.length + 1 := rfl
     show (rowL K l m).length ≤ 1000
     omega
   generalize lastN K l m = la at *
   have q1 : decide ((la : Int) < (N : Int)) = false := decide_eq_false (by omega)
   have q2 : ((N : Int) == 0) = false := beq_eq_false_iff_ne.2 (by omega)
   have q0 : decide ((m : Int) < 9) = true := decide_eq_true (by omega)
   by_cases h8 : m = 8
   ·subst h8
    have e1 := H8.out
    rw [e1] at GW' hn
    have hN1 : N = 1 := hn.symm
    subst hN1
    have eL : saltusref17_Labels.f [s] = some true := by
     have ho0 := HOD.out 8
     rw [e1] at ho0
     unfold saltusref17_Labels.f
     rw [if_pos (by simp), ho0]
     rfl
    have GLb := Lib.hid (fun A c w q1 q2 => saltusref17_Labels.calls A c [s] true w q1 q2 eL)
    have q1n : ¬la < 1 := by omega
    have hla1 : 1 ≤ la := by omega
    have bsl : (s.toList != s.toList) = false := bne_self_eq_false _
    rw [show ([s] : List ByteArray).length = 1 from rfl] at GLb GW'
    rw [show ((8 : Nat) : Int) = 8 from rfl] at *
    clear hn eL hod hla e1
    go_wp2_with (first | (go_at_call 30; ((with_reducible refine (GW'.out _ T.out.hl (tab_below HT.out T.out.hb (Nat.le_refl _))).mono ?_); rintro e w1 ⟨v, rfl, ho, hb1⟩; obtain ⟨g, cp, rfl, hcp⟩ := own_form ho (by decide); have hcc : w1.cell? ⟨g, 0, none⟩ = some (.string s) := ho.cellAt 0 (by decide); have HC := Aside0.mk (str_C ho rfl); replace T := Aside0.mk (T.out.below hb1); clear hb1 ho)) | (go_at_call 44; ((with_reducible refine (GLb.out _ _ _ HC.out.1 HC.out.2).mono ?_); rintro e w1 ⟨rfl, hb1⟩; replace hcc := (hb1.below.cell (World.block_lt_of_cell? _ _ hcc)).trans hcc; replace T := Aside0.mk (T.out.below hb1.below); clear hb1)))
    go_roundw
    case rel => exact ⟨9, by omega, by go_num, by rw [show lastN K l 9 = 1 from hnext]; rfl, T⟩
    case measure => simp [intOf]
   ·have q3 : ((m : Int) == 8) = false := beq_eq_false_iff_ne.2 (by omega)
    have ho0 := HOD.out m
    generalize rowL K l m = rr at *
    have hnn : rr.length ≤ 1000000 := by omega
    have eL : saltusref17_Labels.f rr = some true := by unfold saltusref17_Labels.f; rw [if_pos hnn, ho0]; rfl
    have GLb := Lib.hid (fun A c w q1 q2 => saltusref17_Labels.calls A c rr true w q1 q2 eL)
    rw [hn] at GLb GW'
    have HNN := Aside0.mk hn
    have q1n : ¬la < N := by omega
    have q2n : ¬N = 0 := by omega
    clear hn hnn eL ho0 hod hla
    go_wp2_with (first | (go_at_call 30; ((with_reducible refine (GW'.out _ T.out.hl (tab_below HT.out T.out.hb (Nat.le_refl _))).mono ?_); rintro e w1 ⟨v, rfl, ho, hb1⟩; obtain ⟨g, cp, rfl, hcp⟩ := own_form ho hN0; have HC := Aside0.mk (str_C ho HNN.out); replace T := Aside0.mk (T.out.below hb1); clear hb1 ho)) | (go_at_call 44; ((with_reducible refine (GLb.out _ _ _ HC.out.1 HC.out.2).mono ?_); rintro e w1 ⟨rfl, hb1⟩; replace T := Aside0.mk (T.out.below hb1.below); clear hb1)))
    go_roundw
    case rel => exact ⟨m + 1, by omega, by go_num, by rw [hnext], T⟩
    case measure => simp [intOf]; omega
  ·obtain rfl : m = 9 := by omega
   rw [show ((9 : Nat) : Int) = 9 from rfl]
   generalize lastN K l 9 = la at *
   clear HHD HLA HOD H8 GW GR hlt
   have ha := ((right_iff l).1 hR).1
   have hx0 := T.out.x0
   have hx1 := T.out.x1
   have hy0 := T.out.y0
   have hy1 := T.out.y1
   have Y := Aside0.mk y0
   by_cases zx : 64 < x.f1.size
   ·have GP := Lib.hid (c_put_err A1 c1 l (by omega) x 4 (.inr (.inl ⟨hR, zx, rfl⟩)))
    by_cases zy : 64 < y.f1.size
    ·have GQ := Lib.hid (c_put_err A1 c1 l (by omega) y 4 (.inr (.inl ⟨hR, zy, rfl⟩)))
     clear hR ha zx zy z0 hxk hyk hkl hok y0
     go_wp2_with (first | (go_at_call 36; ((with_reducible refine (GP.out _ T.out.hl Y.out).mono ?_); rintro e w1 ⟨A9, c9, rfl, hb1⟩; replace T := Aside0.mk (T.out.below hb1); (try replace HP := Aside0.mk (Kd.C_below HP.out hb1)); (try replace HQ := Aside0.mk (Kd.C_below HQ.out hb1)); (try replace HP2 := Aside0.mk (Kd.C_below HP2.out hb1)); (try replace HQ2 := Aside0.mk (Kd.C_below HQ2.out hb1)); (try replace HD := Aside0.mk (Kd.C_below HD.out hb1)); (try replace HD2 := Aside0.mk (Kd.C_below HD2.out hb1)); (try clear hx0 hx1 hy0 hy1); have hx0 := T.out.x0; have hx1 := T.out.x1; have hy0 := T.out.y0; have hy1 := T.out.y1; clear hb1)) | (go_at_call 36; ((with_reducible refine (GQ.out _ T.out.hl Y.out).mono ?_); rintro e w1 ⟨A9, c9, rfl, hb1⟩; replace T := Aside0.mk (T.out.below hb1); (try replace HP := Aside0.mk (Kd.C_below HP.out hb1)); (try replace HQ := Aside0.mk (Kd.C_below HQ.out hb1)); (try replace HP2 := Aside0.mk (Kd.C_below HP2.out hb1)); (try replace HQ2 := Aside0.mk (Kd.C_below HQ2.out hb1)); (try replace HD := Aside0.mk (Kd.C_below HD.out hb1)); (try replace HD2 := Aside0.mk (Kd.C_below HD2.out hb1)); (try clear hx0 hx1 hy0 hy1); have hx0 := T.out.x0; have hx1 := T.out.x1; have hy0 := T.out.y0; have hy1 := T.out.y1; clear hb1)) | (go_at_call 32; ((with_reducible refine (GA.out _ (tab_below HT.out T.out.hb (Nat.le_refl _))).mono ?_); rintro e w1 ⟨rfl, hb1⟩; replace T := Aside0.mk (T.out.below hb1); (try replace HP := Aside0.mk (Kd.C_below HP.out hb1)); (try replace HQ := Aside0.mk (Kd.C_below HQ.out hb1)); (try replace HP2 := Aside0.mk (Kd.C_below HP2.out hb1)); (try replace HQ2 := Aside0.mk (Kd.C_below HQ2.out hb1)); (try replace HD := Aside0.mk (Kd.C_below HD.out hb1)); (try replace HD2 := Aside0.mk (Kd.C_below HD2.out hb1)); (try clear hx0 hx1 hy0 hy1); have hx0 := T.out.x0; have hx1 := T.out.x1; have hy0 := T.out.y0; have hy1 := T.out.y1; clear hb1)))
     go_ret
     exact ⟨by first | rfl | (simp; done) | (simp [*]; done), T.out.hb⟩
    ·have GQ := Lib.hid (c_put A1 c1 l (by omega) y _ 0 (.inr (.inr (.inr ⟨hR, zy, (fun h => by omega), rfl, rfl⟩))))
     clear hR ha zx zy z0 hxk hyk hkl hok y0
     go_wp2_with (first | (go_at_call 36; ((with_reducible refine (GP.out _ T.out.hl Y.out).mono ?_); rintro e w1 ⟨A9, c9, rfl, hb1⟩; replace T := Aside0.mk (T.out.below hb1); (try replace HP := Aside0.mk (Kd.C_below HP.out hb1)); (try replace HQ := Aside0.mk (Kd.C_below HQ.out hb1)); (try replace HP2 := Aside0.mk (Kd.C_below HP2.out hb1)); (try replace HQ2 := Aside0.mk (Kd.C_below HQ2.out hb1)); (try replace HD := Aside0.mk (Kd.C_below HD.out hb1)); (try replace HD2 := Aside0.mk (Kd.C_below HD2.out hb1)); (try clear hx0 hx1 hy0 hy1); have hx0 := T.out.x0; have hx1 := T.out.x1; have hy0 := T.out.y0; have hy1 := T.out.y1; clear hb1)) | (go_at_call 36; ((with_reducible refine (GQ.out _ T.out.hl Y.out).mono ?_); rintro e w1 ⟨_, rfl, AHQ, cHQ, rfl, hcHQ, hrHQ, hb1⟩; replace T := Aside0.mk (T.out.below hb1); (try replace HP := Aside0.mk (Kd.C_below HP.out hb1)); (try replace HQ := Aside0.mk (Kd.C_below HQ.out hb1)); (try replace HP2 := Aside0.mk (Kd.C_below HP2.out hb1)); (try replace HQ2 := Aside0.mk (Kd.C_below HQ2.out hb1)); (try replace HD := Aside0.mk (Kd.C_below HD.out hb1)); (try replace HD2 := Aside0.mk (Kd.C_below HD2.out hb1)); (try clear hx0 hx1 hy0 hy1); have hx0 := T.out.x0; have hx1 := T.out.x1; have hy0 := T.out.y0; have hy1 := T.out.y1; have HQ := Aside0.mk hrHQ; have HQC := Aside0.mk hcHQ; clear hb1 hrHQ hcHQ)) | (go_at_call 32; ((with_reducible refine (GA.out _ (tab_below HT.out T.out.hb (Nat.le_refl _))).mono ?_); rintro e w1 ⟨rfl, hb1⟩; replace T := Aside0.mk (T.out.below hb1); (try replace HP := Aside0.mk (Kd.C_below HP.out hb1)); (try replace HQ := Aside0.mk (Kd.C_below HQ.out hb1)); (try replace HP2 := Aside0.mk (Kd.C_below HP2.out hb1)); (try replace HQ2 := Aside0.mk (Kd.C_below HQ2.out hb1)); (try replace HD := Aside0.mk (Kd.C_below HD.out hb1)); (try replace HD2 := Aside0.mk (Kd.C_below HD2.out hb1)); (try clear hx0 hx1 hy0 hy1); have hx0 := T.out.x0; have hx1 := T.out.x1; have hy0 := T.out.y0; have hy1 := T.out.y1; clear hb1)))
     go_ret
     exact ⟨by first | rfl | (simp; done) | (simp [*]; done), T.out.hb⟩
   ·have hlp := ins_le l ha x
    have GP := Lib.hid (c_put A1 c1 l (by omega) x _ 0 (.inr (.inr (.inr ⟨hR, zx, (fun h => by omega), rfl, rfl⟩))))
    by_cases zy : 64 < y.f1.size
    ·have GQ := Lib.hid (c_put_err A1 c1 l (by omega) y 4 (.inr (.inl ⟨hR, zy, rfl⟩)))
     clear hR ha zx zy z0 hxk hyk hkl hok y0 hlp
     go_wp2_with (first | (go_at_call 36; ((with_reducible refine (GP.out _ T.out.hl Y.out).mono ?_); rintro e w1 ⟨_, rfl, AHP, cHP, rfl, hcHP, hrHP, hb1⟩; replace T := Aside0.mk (T.out.below hb1); (try replace HP := Aside0.mk (Kd.C_below HP.out hb1)); (try replace HQ := Aside0.mk (Kd.C_below HQ.out hb1)); (try replace HP2 := Aside0.mk (Kd.C_below HP2.out hb1)); (try replace HQ2 := Aside0.mk (Kd.C_below HQ2.out hb1)); (try replace HD := Aside0.mk (Kd.C_below HD.out hb1)); (try replace HD2 := Aside0.mk (Kd.C_below HD2.out hb1)); (try clear hx0 hx1 hy0 hy1); have hx0 := T.out.x0; have hx1 := T.out.x1; have hy0 := T.out.y0; have hy1 := T.out.y1; have HP := Aside0.mk hrHP; have HPC := Aside0.mk hcHP; clear hb1 hrHP hcHP)) | (go_at_call 36; ((with_reducible refine (GQ.out _ T.out.hl Y.out).mono ?_); rintro e w1 ⟨A9, c9, rfl, hb1⟩; replace T := Aside0.mk (T.out.below hb1); (try replace HP := Aside0.mk (Kd.C_below HP.out hb1)); (try replace HQ := Aside0.mk (Kd.C_below HQ.out hb1)); (try replace HP2 := Aside0.mk (Kd.C_below HP2.out hb1)); (try replace HQ2 := Aside0.mk (Kd.C_below HQ2.out hb1)); (try replace HD := Aside0.mk (Kd.C_below HD.out hb1)); (try replace HD2 := Aside0.mk (Kd.C_below HD2.out hb1)); (try clear hx0 hx1 hy0 hy1); have hx0 := T.out.x0; have hx1 := T.out.x1; have hy0 := T.out.y0; have hy1 := T.out.y1; clear hb1)) | (go_at_call 32; ((with_reducible refine (GA.out _ (tab_below HT.out T.out.hb (Nat.le_refl _))).mono ?_); rintro e w1 ⟨rfl, hb1⟩; replace T := Aside0.mk (T.out.below hb1); (try replace HP := Aside0.mk (Kd.C_below HP.out hb1)); (try replace HQ := Aside0.mk (Kd.C_below HQ.out hb1)); (try replace HP2 := Aside0.mk (Kd.C_below HP2.out hb1)); (try replace HQ2 := Aside0.mk (Kd.C_below HQ2.out hb1)); (try replace HD := Aside0.mk (Kd.C_below HD.out hb1)); (try replace HD2 := Aside0.mk (Kd.C_below HD2.out hb1)); (try clear hx0 hx1 hy0 hy1); have hx0 := T.out.x0; have hx1 := T.out.x1; have hy0 := T.out.y0; have hy1 := T.out.y1; clear hb1)))
     go_ret
     exact ⟨by first | rfl | (simp; done) | (simp [*]; done), T.out.hb⟩
    ·have hlq := ins_le l ha y
     have GQ := Lib.hid (c_put A1 c1 l (by omega) y _ 0 (.inr (.inr (.inr ⟨hR, zy, (fun h => by omega), rfl, rfl⟩))))
     by_cases hxy : x.f0 = y.f0
     ·have hbe : (x.f0 == y.f0) = true := beq_iff_eq.2 hxy
      clear hR ha zx zy z0 hxk hyk hkl hok y0 hlp hlq hxy
      go_wp2_with (first | (go_at_call 36; ((with_reducible refine (GP.out _ T.out.hl Y.out).mono ?_); rintro e w1 ⟨_, rfl, AHP, cHP, rfl, hcHP, hrHP, hb1⟩; replace T := Aside0.mk (T.out.below hb1); (try replace HP := Aside0.mk (Kd.C_below HP.out hb1)); (try replace HQ := Aside0.mk (Kd.C_below HQ.out hb1)); (try replace HP2 := Aside0.mk (Kd.C_below HP2.out hb1)); (try replace HQ2 := Aside0.mk (Kd.C_below HQ2.out hb1)); (try replace HD := Aside0.mk (Kd.C_below HD.out hb1)); (try replace HD2 := Aside0.mk (Kd.C_below HD2.out hb1)); (try clear hx0 hx1 hy0 hy1); have hx0 := T.out.x0; have hx1 := T.out.x1; have hy0 := T.out.y0; have hy1 := T.out.y1; have HP := Aside0.mk hrHP; have HPC := Aside0.mk hcHP; clear hb1 hrHP hcHP)) | (go_at_call 36; ((with_reducible refine (GQ.out _ T.out.hl Y.out).mono ?_); rintro e w1 ⟨_, rfl, AHQ, cHQ, rfl, hcHQ, hrHQ, hb1⟩; replace T := Aside0.mk (T.out.below hb1); (try replace HP := Aside0.mk (Kd.C_below HP.out hb1)); (try replace HQ := Aside0.mk (Kd.C_below HQ.out hb1)); (try replace HP2 := Aside0.mk (Kd.C_below HP2.out hb1)); (try replace HQ2 := Aside0.mk (Kd.C_below HQ2.out hb1)); (try replace HD := Aside0.mk (Kd.C_below HD.out hb1)); (try replace HD2 := Aside0.mk (Kd.C_below HD2.out hb1)); (try clear hx0 hx1 hy0 hy1); have hx0 := T.out.x0; have hx1 := T.out.x1; have hy0 := T.out.y0; have hy1 := T.out.y1; have HQ := Aside0.mk hrHQ; have HQC := Aside0.mk hcHQ; clear hb1 hrHQ hcHQ)) | (go_at_call 32; ((with_reducible refine (GA.out _ (tab_below HT.out T.out.hb (Nat.le_refl _))).mono ?_); rintro e w1 ⟨rfl, hb1⟩; replace T := Aside0.mk (T.out.below hb1); (try replace HP := Aside0.mk (Kd.C_below HP.out hb1)); (try replace HQ := Aside0.mk (Kd.C_below HQ.out hb1)); (try replace HP2 := Aside0.mk (Kd.C_below HP2.out hb1)); (try replace HQ2 := Aside0.mk (Kd.C_below HQ2.out hb1)); (try replace HD := Aside0.mk (Kd.C_below HD.out hb1)); (try replace HD2 := Aside0.mk (Kd.C_below HD2.out hb1)); (try clear hx0 hx1 hy0 hy1); have hx0 := T.out.x0; have hx1 := T.out.x1; have hy0 := T.out.y0; have hy1 := T.out.y1; clear hb1)))
      go_ret
      exact ⟨by first | rfl | (simp; done) | (simp [*]; done), T.out.hb⟩
     ·have hbe : (x.f0 == y.f0) = false := beq_eq_false_iff_ne.2 hxy
      have hRp : RightP (insF l x) := ins_right l hR x zx (by omega)
      have hRq : RightP (insF l y) := ins_right l hR y zy (by omega)
      have hap := ((right_iff _).1 hRp).1
      have hlp2 := ins_le (insF l x) hap y
      have hRp2 : RightP (insF (insF l x) y) := ins_right _ hRp y zy (by omega)
      have hkp2 : keysOk (insF (insF l x) y) := ins_keys _ (ins_keys l hkl x hxk) y hyk
      have hc := ins_comm l x y hxy
      have hh1 : has (insF (insF l x) y) x.f0 = true := by rw [hc]; exact ins_has _ _
      have hh2 : has (delF (insF (insF l x) y) x.f0) y.f0 = true := (has_iff _ _).2 ⟨y, by
       unfold delF
       refine List.mem_filter.2 ⟨by unfold insF; simp, ?_⟩
       have : (y.f0 == x.f0) = false := beq_eq_false_iff_ne.2 (Ne.symm hxy)
       rw [this]
       rfl, rfl⟩
      have hRd := del_right _ hRp2 x.f0
      have hRd2 := del_right _ hRd y.f0
      have hkd2 := del_keys _ (del_keys _ hkp2 x.f0) y.f0
      have hld := del_le (insF (insF l x) y) x.f0
      have hld2 := del_le (delF (insF (insF l x) y) x.f0) y.f0
      have hend := del_del l ha x y
      have GPP := Lib.hid (fun (A : Option Addr) (c : Nat) => c_put A c (insF l x) (by omega) y _ 0 (.inr (.inr (.inr ⟨hRp, zy, (fun h => by omega), rfl, rfl⟩))))
      have GQQ := Lib.hid (fun (A : Option Addr) (c : Nat) => c_put A c (insF l y) (by omega) x (insF (insF l x) y) 0 (.inr (.inr (.inr ⟨hRq, zx, (fun h => by omega), hc, rfl⟩))))
      have GD := Lib.hid (fun (A : Option Addr) (c : Nat) => c_drop A c (insF (insF l x) y) (by omega) x.f0 _ 0 (.inr (.inr ⟨hRp2, hh1, rfl, rfl⟩)))
      have GE := Lib.hid (fun (A : Option Addr) (c : Nat) => c_drop A c (delF (insF (insF l x) y) x.f0) (by omega) y.f0 _ 0 (.inr (.inr ⟨hRd, hh2, rfl, rfl⟩)))
      have GRp := Lib.hid (fun A c w q1 q2 q3 => Root_ok K A c (insF (insF l x) y) w q1 q2 (by omega) (by omega) (okL_keys hRp2 hkp2) q3 hRp2)
      have GRd := Lib.hid (fun A c w q1 q2 q3 => Root_ok K A c (delF (delF (insF (insF l x) y) x.f0) y.f0) w q1 q2 (by omega) (by omega) (okL_keys hRd2 hkd2) q3 hRd2)
      clear hR ha zx zy z0 hxk hyk hkl hok y0 hlp hlq hxy hRp hRq hap hlp2 hRp2 hkp2 hc hh1 hh2 hRd hRd2 hkd2 hld hld2 hk0 hk1 hkz HZ HK
      generalize delF (delF (insF (insF l x) y) x.f0) y.f0 = D2 at *
      generalize delF (insF (insF l x) y) x.f0 = D1 at *
      generalize insF (insF l x) y = P2 at *
      generalize insF l x = P at *
      generalize insF l y = Q at *
      generalize rootL K P2 = ra at *
      have baa : (ra.toList == ra.toList) = true := beq_self_eq_true _
      rcases hend with rfl | hne
      ·rw [hs] at GRd
       have bss : (s.toList == s.toList) = true := beq_self_eq_true _
       clear hs
       go_wp2_with (first | (go_at_call 36; ((with_reducible refine (GP.out _ T.out.hl Y.out).mono ?_); rintro e w1 ⟨_, rfl, AHP, cHP, rfl, hcHP, hrHP, hb1⟩; replace T := Aside0.mk (T.out.below hb1); (try replace HP := Aside0.mk (Kd.C_below HP.out hb1)); (try replace HQ := Aside0.mk (Kd.C_below HQ.out hb1)); (try replace HP2 := Aside0.mk (Kd.C_below HP2.out hb1)); (try replace HQ2 := Aside0.mk (Kd.C_below HQ2.out hb1)); (try replace HD := Aside0.mk (Kd.C_below HD.out hb1)); (try replace HD2 := Aside0.mk (Kd.C_below HD2.out hb1)); (try clear hx0 hx1 hy0 hy1); have hx0 := T.out.x0; have hx1 := T.out.x1; have hy0 := T.out.y0; have hy1 := T.out.y1; have HP := Aside0.mk hrHP; have HPC := Aside0.mk hcHP; clear hb1 hrHP hcHP)) | (go_at_call 36; ((with_reducible refine (GQ.out _ T.out.hl Y.out).mono ?_); rintro e w1 ⟨_, rfl, AHQ, cHQ, rfl, hcHQ, hrHQ, hb1⟩; replace T := Aside0.mk (T.out.below hb1); (try replace HP := Aside0.mk (Kd.C_below HP.out hb1)); (try replace HQ := Aside0.mk (Kd.C_below HQ.out hb1)); (try replace HP2 := Aside0.mk (Kd.C_below HP2.out hb1)); (try replace HQ2 := Aside0.mk (Kd.C_below HQ2.out hb1)); (try replace HD := Aside0.mk (Kd.C_below HD.out hb1)); (try replace HD2 := Aside0.mk (Kd.C_below HD2.out hb1)); (try clear hx0 hx1 hy0 hy1); have hx0 := T.out.x0; have hx1 := T.out.x1; have hy0 := T.out.y0; have hy1 := T.out.y1; have HQ := Aside0.mk hrHQ; have HQC := Aside0.mk hcHQ; clear hb1 hrHQ hcHQ)) | (go_at_call 36; ((with_reducible refine (GPP.out _ _ _ HP.out HPC.out).mono ?_); rintro e w1 ⟨_, rfl, AHP2, cHP2, rfl, hcHP2, hrHP2, hb1⟩; replace T := Aside0.mk (T.out.below hb1); (try replace HP := Aside0.mk (Kd.C_below HP.out hb1)); (try replace HQ := Aside0.mk (Kd.C_below HQ.out hb1)); (try replace HP2 := Aside0.mk (Kd.C_below HP2.out hb1)); (try replace HQ2 := Aside0.mk (Kd.C_below HQ2.out hb1)); (try replace HD := Aside0.mk (Kd.C_below HD.out hb1)); (try replace HD2 := Aside0.mk (Kd.C_below HD2.out hb1)); (try clear hx0 hx1 hy0 hy1); have hx0 := T.out.x0; have hx1 := T.out.x1; have hy0 := T.out.y0; have hy1 := T.out.y1; have HP2 := Aside0.mk hrHP2; have HP2C := Aside0.mk hcHP2; clear hb1 hrHP2 hcHP2)) | (go_at_call 36; ((with_reducible refine (GQQ.out _ _ _ HQ.out HQC.out).mono ?_); rintro e w1 ⟨_, rfl, AHQ2, cHQ2, rfl, hcHQ2, hrHQ2, hb1⟩; replace T := Aside0.mk (T.out.below hb1); (try replace HP := Aside0.mk (Kd.C_below HP.out hb1)); (try replace HQ := Aside0.mk (Kd.C_below HQ.out hb1)); (try replace HP2 := Aside0.mk (Kd.C_below HP2.out hb1)); (try replace HQ2 := Aside0.mk (Kd.C_below HQ2.out hb1)); (try replace HD := Aside0.mk (Kd.C_below HD.out hb1)); (try replace HD2 := Aside0.mk (Kd.C_below HD2.out hb1)); (try clear hx0 hx1 hy0 hy1); have hx0 := T.out.x0; have hx1 := T.out.x1; have hy0 := T.out.y0; have hy1 := T.out.y1; have HQ2 := Aside0.mk hrHQ2; have HQ2C := Aside0.mk hcHQ2; clear hb1 hrHQ2 hcHQ2)) | (go_at_call 31; ((with_reducible refine (GRp.out _ _ _ HP2.out HP2C.out (tab_below HT.out T.out.hb (Nat.le_refl _))).mono ?_); rintro e w1 ⟨rfl, hb1⟩; replace T := Aside0.mk (T.out.below hb1); (try replace HP := Aside0.mk (Kd.C_below HP.out hb1)); (try replace HQ := Aside0.mk (Kd.C_below HQ.out hb1)); (try replace HP2 := Aside0.mk (Kd.C_below HP2.out hb1)); (try replace HQ2 := Aside0.mk (Kd.C_below HQ2.out hb1)); (try replace HD := Aside0.mk (Kd.C_below HD.out hb1)); (try replace HD2 := Aside0.mk (Kd.C_below HD2.out hb1)); (try clear hx0 hx1 hy0 hy1); have hx0 := T.out.x0; have hx1 := T.out.x1; have hy0 := T.out.y0; have hy1 := T.out.y1; clear hb1)) | (go_at_call 31; ((with_reducible refine (GRp.out _ _ _ HQ2.out HQ2C.out (tab_below HT.out T.out.hb (Nat.le_refl _))).mono ?_); rintro e w1 ⟨rfl, hb1⟩; replace T := Aside0.mk (T.out.below hb1); (try replace HP := Aside0.mk (Kd.C_below HP.out hb1)); (try replace HQ := Aside0.mk (Kd.C_below HQ.out hb1)); (try replace HP2 := Aside0.mk (Kd.C_below HP2.out hb1)); (try replace HQ2 := Aside0.mk (Kd.C_below HQ2.out hb1)); (try replace HD := Aside0.mk (Kd.C_below HD.out hb1)); (try replace HD2 := Aside0.mk (Kd.C_below HD2.out hb1)); (try clear hx0 hx1 hy0 hy1); have hx0 := T.out.x0; have hx1 := T.out.x1; have hy0 := T.out.y0; have hy1 := T.out.y1; clear hb1)) | (go_at_call 37; ((with_reducible refine (GD.out _ _ _ HQ2.out HQ2C.out).mono ?_); rintro e w1 ⟨_, rfl, AHD, cHD, rfl, hcHD, hrHD, hb1⟩; replace T := Aside0.mk (T.out.below hb1); (try replace HP := Aside0.mk (Kd.C_below HP.out hb1)); (try replace HQ := Aside0.mk (Kd.C_below HQ.out hb1)); (try replace HP2 := Aside0.mk (Kd.C_below HP2.out hb1)); (try replace HQ2 := Aside0.mk (Kd.C_below HQ2.out hb1)); (try replace HD := Aside0.mk (Kd.C_below HD.out hb1)); (try replace HD2 := Aside0.mk (Kd.C_below HD2.out hb1)); (try clear hx0 hx1 hy0 hy1); have hx0 := T.out.x0; have hx1 := T.out.x1; have hy0 := T.out.y0; have hy1 := T.out.y1; have HD := Aside0.mk hrHD; have HDC := Aside0.mk hcHD; clear hb1 hrHD hcHD)) | (go_at_call 37; ((with_reducible refine (GE.out _ _ _ HD.out HDC.out).mono ?_); rintro e w1 ⟨_, rfl, AHD2, cHD2, rfl, hcHD2, hrHD2, hb1⟩; replace T := Aside0.mk (T.out.below hb1); (try replace HP := Aside0.mk (Kd.C_below HP.out hb1)); (try replace HQ := Aside0.mk (Kd.C_below HQ.out hb1)); (try replace HP2 := Aside0.mk (Kd.C_below HP2.out hb1)); (try replace HQ2 := Aside0.mk (Kd.C_below HQ2.out hb1)); (try replace HD := Aside0.mk (Kd.C_below HD.out hb1)); (try replace HD2 := Aside0.mk (Kd.C_below HD2.out hb1)); (try clear hx0 hx1 hy0 hy1); have hx0 := T.out.x0; have hx1 := T.out.x1; have hy0 := T.out.y0; have hy1 := T.out.y1; have HD2 := Aside0.mk hrHD2; have HD2C := Aside0.mk hcHD2; clear hb1 hrHD2 hcHD2)) | (go_at_call 31; ((with_reducible refine (GRd.out _ _ _ HD2.out HD2C.out (tab_below HT.out T.out.hb (Nat.le_refl _))).mono ?_); rintro e w1 ⟨rfl, hb1⟩; replace T := Aside0.mk (T.out.below hb1); (try replace HP := Aside0.mk (Kd.C_below HP.out hb1)); (try replace HQ := Aside0.mk (Kd.C_below HQ.out hb1)); (try replace HP2 := Aside0.mk (Kd.C_below HP2.out hb1)); (try replace HQ2 := Aside0.mk (Kd.C_below HQ2.out hb1)); (try replace HD := Aside0.mk (Kd.C_below HD.out hb1)); (try replace HD2 := Aside0.mk (Kd.C_below HD2.out hb1)); (try clear hx0 hx1 hy0 hy1); have hx0 := T.out.x0; have hx1 := T.out.x1; have hy0 := T.out.y0; have hy1 := T.out.y1; clear hb1)) | (go_at_call 32; ((with_reducible refine (GA.out _ (tab_below HT.out T.out.hb (Nat.le_refl _))).mono ?_); rintro e w1 ⟨rfl, hb1⟩; replace T := Aside0.mk (T.out.below hb1); (try replace HP := Aside0.mk (Kd.C_below HP.out hb1)); (try replace HQ := Aside0.mk (Kd.C_below HQ.out hb1)); (try replace HP2 := Aside0.mk (Kd.C_below HP2.out hb1)); (try replace HQ2 := Aside0.mk (Kd.C_below HQ2.out hb1)); (try replace HD := Aside0.mk (Kd.C_below HD.out hb1)); (try replace HD2 := Aside0.mk (Kd.C_below HD2.out hb1)); (try clear hx0 hx1 hy0 hy1); have hx0 := T.out.x0; have hx1 := T.out.x1; have hy0 := T.out.y0; have hy1 := T.out.y1; clear hb1)))
       go_ret
       exact ⟨by first | rfl | (simp; done) | (simp [*]; done), T.out.hb⟩
      ·have hnn : (((D2.length : Nat) : Int) != (l.length : Int)) = true := bne_iff_ne.2 (by omega)
       have hnn2 : ¬D2.length = l.length := hne
       generalize rootL K D2 = rd at *
       cases hcs : (rd.toList == s.toList) with
       | true =>
        clear hs
        go_wp2_with (first | (go_at_call 36; ((with_reducible refine (GP.out _ T.out.hl Y.out).mono ?_); rintro e w1 ⟨_, rfl, AHP, cHP, rfl, hcHP, hrHP, hb1⟩; replace T := Aside0.mk (T.out.below hb1); (try replace HP := Aside0.mk (Kd.C_below HP.out hb1)); (try replace HQ := Aside0.mk (Kd.C_below HQ.out hb1)); (try replace HP2 := Aside0.mk (Kd.C_below HP2.out hb1)); (try replace HQ2 := Aside0.mk (Kd.C_below HQ2.out hb1)); (try replace HD := Aside0.mk (Kd.C_below HD.out hb1)); (try replace HD2 := Aside0.mk (Kd.C_below HD2.out hb1)); (try clear hx0 hx1 hy0 hy1); have hx0 := T.out.x0; have hx1 := T.out.x1; have hy0 := T.out.y0; have hy1 := T.out.y1; have HP := Aside0.mk hrHP; have HPC := Aside0.mk hcHP; clear hb1 hrHP hcHP)) | (go_at_call 36; ((with_reducible refine (GQ.out _ T.out.hl Y.out).mono ?_); rintro e w1 ⟨_, rfl, AHQ, cHQ, rfl, hcHQ, hrHQ, hb1⟩; replace T := Aside0.mk (T.out.below hb1); (try replace HP := Aside0.mk (Kd.C_below HP.out hb1)); (try replace HQ := Aside0.mk (Kd.C_below HQ.out hb1)); (try replace HP2 := Aside0.mk (Kd.C_below HP2.out hb1)); (try replace HQ2 := Aside0.mk (Kd.C_below HQ2.out hb1)); (try replace HD := Aside0.mk (Kd.C_below HD.out hb1)); (try replace HD2 := Aside0.mk (Kd.C_below HD2.out hb1)); (try clear hx0 hx1 hy0 hy1); have hx0 := T.out.x0; have hx1 := T.out.x1; have hy0 := T.out.y0; have hy1 := T.out.y1; have HQ := Aside0.mk hrHQ; have HQC := Aside0.mk hcHQ; clear hb1 hrHQ hcHQ)) | (go_at_call 36; ((with_reducible refine (GPP.out _ _ _ HP.out HPC.out).mono ?_); rintro e w1 ⟨_, rfl, AHP2, cHP2, rfl, hcHP2, hrHP2, hb1⟩; replace T := Aside0.mk (T.out.below hb1); (try replace HP := Aside0.mk (Kd.C_below HP.out hb1)); (try replace HQ := Aside0.mk (Kd.C_below HQ.out hb1)); (try replace HP2 := Aside0.mk (Kd.C_below HP2.out hb1)); (try replace HQ2 := Aside0.mk (Kd.C_below HQ2.out hb1)); (try replace HD := Aside0.mk (Kd.C_below HD.out hb1)); (try replace HD2 := Aside0.mk (Kd.C_below HD2.out hb1)); (try clear hx0 hx1 hy0 hy1); have hx0 := T.out.x0; have hx1 := T.out.x1; have hy0 := T.out.y0; have hy1 := T.out.y1; have HP2 := Aside0.mk hrHP2; have HP2C := Aside0.mk hcHP2; clear hb1 hrHP2 hcHP2)) | (go_at_call 36; ((with_reducible refine (GQQ.out _ _ _ HQ.out HQC.out).mono ?_); rintro e w1 ⟨_, rfl, AHQ2, cHQ2, rfl, hcHQ2, hrHQ2, hb1⟩; replace T := Aside0.mk (T.out.below hb1); (try replace HP := Aside0.mk (Kd.C_below HP.out hb1)); (try replace HQ := Aside0.mk (Kd.C_below HQ.out hb1)); (try replace HP2 := Aside0.mk (Kd.C_below HP2.out hb1)); (try replace HQ2 := Aside0.mk (Kd.C_below HQ2.out hb1)); (try replace HD := Aside0.mk (Kd.C_below HD.out hb1)); (try replace HD2 := Aside0.mk (Kd.C_below HD2.out hb1)); (try clear hx0 hx1 hy0 hy1); have hx0 := T.out.x0; have hx1 := T.out.x1; have hy0 := T.out.y0; have hy1 := T.out.y1; have HQ2 := Aside0.mk hrHQ2; have HQ2C := Aside0.mk hcHQ2; clear hb1 hrHQ2 hcHQ2)) | (go_at_call 31; ((with_reducible refine (GRp.out _ _ _ HP2.out HP2C.out (tab_below HT.out T.out.hb (Nat.le_refl _))).mono ?_); rintro e w1 ⟨rfl, hb1⟩; replace T := Aside0.mk (T.out.below hb1); (try replace HP := Aside0.mk (Kd.C_below HP.out hb1)); (try replace HQ := Aside0.mk (Kd.C_below HQ.out hb1)); (try replace HP2 := Aside0.mk (Kd.C_below HP2.out hb1)); (try replace HQ2 := Aside0.mk (Kd.C_below HQ2.out hb1)); (try replace HD := Aside0.mk (Kd.C_below HD.out hb1)); (try replace HD2 := Aside0.mk (Kd.C_below HD2.out hb1)); (try clear hx0 hx1 hy0 hy1); have hx0 := T.out.x0; have hx1 := T.out.x1; have hy0 := T.out.y0; have hy1 := T.out.y1; clear hb1)) | (go_at_call 31; ((with_reducible refine (GRp.out _ _ _ HQ2.out HQ2C.out (tab_below HT.out T.out.hb (Nat.le_refl _))).mono ?_); rintro e w1 ⟨rfl, hb1⟩; replace T := Aside0.mk (T.out.below hb1); (try replace HP := Aside0.mk (Kd.C_below HP.out hb1)); (try replace HQ := Aside0.mk (Kd.C_below HQ.out hb1)); (try replace HP2 := Aside0.mk (Kd.C_below HP2.out hb1)); (try replace HQ2 := Aside0.mk (Kd.C_below HQ2.out hb1)); (try replace HD := Aside0.mk (Kd.C_below HD.out hb1)); (try replace HD2 := Aside0.mk (Kd.C_below HD2.out hb1)); (try clear hx0 hx1 hy0 hy1); have hx0 := T.out.x0; have hx1 := T.out.x1; have hy0 := T.out.y0; have hy1 := T.out.y1; clear hb1)) | (go_at_call 37; ((with_reducible refine (GD.out _ _ _ HQ2.out HQ2C.out).mono ?_); rintro e w1 ⟨_, rfl, AHD, cHD, rfl, hcHD, hrHD, hb1⟩; replace T := Aside0.mk (T.out.below hb1); (try replace HP := Aside0.mk (Kd.C_below HP.out hb1)); (try replace HQ := Aside0.mk (Kd.C_below HQ.out hb1)); (try replace HP2 := Aside0.mk (Kd.C_below HP2.out hb1)); (try replace HQ2 := Aside0.mk (Kd.C_below HQ2.out hb1)); (try replace HD := Aside0.mk (Kd.C_below HD.out hb1)); (try replace HD2 := Aside0.mk (Kd.C_below HD2.out hb1)); (try clear hx0 hx1 hy0 hy1); have hx0 := T.out.x0; have hx1 := T.out.x1; have hy0 := T.out.y0; have hy1 := T.out.y1; have HD := Aside0.mk hrHD; have HDC := Aside0.mk hcHD; clear hb1 hrHD hcHD)) | (go_at_call 37; ((with_reducible refine (GE.out _ _ _ HD.out HDC.out).mono ?_); rintro e w1 ⟨_, rfl, AHD2, cHD2, rfl, hcHD2, hrHD2, hb1⟩; replace T := Aside0.mk (T.out.below hb1); (try replace HP := Aside0.mk (Kd.C_below HP.out hb1)); (try replace HQ := Aside0.mk (Kd.C_below HQ.out hb1)); (try replace HP2 := Aside0.mk (Kd.C_below HP2.out hb1)); (try replace HQ2 := Aside0.mk (Kd.C_below HQ2.out hb1)); (try replace HD := Aside0.mk (Kd.C_below HD.out hb1)); (try replace HD2 := Aside0.mk (Kd.C_below HD2.out hb1)); (try clear hx0 hx1 hy0 hy1); have hx0 := T.out.x0; have hx1 := T.out.x1; have hy0 := T.out.y0; have hy1 := T.out.y1; have HD2 := Aside0.mk hrHD2; have HD2C := Aside0.mk hcHD2; clear hb1 hrHD2 hcHD2)) | (go_at_call 31; ((with_reducible refine (GRd.out _ _ _ HD2.out HD2C.out (tab_below HT.out T.out.hb (Nat.le_refl _))).mono ?_); rintro e w1 ⟨rfl, hb1⟩; replace T := Aside0.mk (T.out.below hb1); (try replace HP := Aside0.mk (Kd.C_below HP.out hb1)); (try replace HQ := Aside0.mk (Kd.C_below HQ.out hb1)); (try replace HP2 := Aside0.mk (Kd.C_below HP2.out hb1)); (try replace HQ2 := Aside0.mk (Kd.C_below HQ2.out hb1)); (try replace HD := Aside0.mk (Kd.C_below HD.out hb1)); (try replace HD2 := Aside0.mk (Kd.C_below HD2.out hb1)); (try clear hx0 hx1 hy0 hy1); have hx0 := T.out.x0; have hx1 := T.out.x1; have hy0 := T.out.y0; have hy1 := T.out.y1; clear hb1)) | (go_at_call 32; ((with_reducible refine (GA.out _ (tab_below HT.out T.out.hb (Nat.le_refl _))).mono ?_); rintro e w1 ⟨rfl, hb1⟩; replace T := Aside0.mk (T.out.below hb1); (try replace HP := Aside0.mk (Kd.C_below HP.out hb1)); (try replace HQ := Aside0.mk (Kd.C_below HQ.out hb1)); (try replace HP2 := Aside0.mk (Kd.C_below HP2.out hb1)); (try replace HQ2 := Aside0.mk (Kd.C_below HQ2.out hb1)); (try replace HD := Aside0.mk (Kd.C_below HD.out hb1)); (try replace HD2 := Aside0.mk (Kd.C_below HD2.out hb1)); (try clear hx0 hx1 hy0 hy1); have hx0 := T.out.x0; have hx1 := T.out.x1; have hy0 := T.out.y0; have hy1 := T.out.y1; clear hb1)))
        go_ret
        exact ⟨by first | rfl | (simp; done) | (simp [*]; done), T.out.hb⟩
       | false =>
        clear hs
        go_wp2_with (first | (go_at_call 36; ((with_reducible refine (GP.out _ T.out.hl Y.out).mono ?_); rintro e w1 ⟨_, rfl, AHP, cHP, rfl, hcHP, hrHP, hb1⟩; replace T := Aside0.mk (T.out.below hb1); (try replace HP := Aside0.mk (Kd.C_below HP.out hb1)); (try replace HQ := Aside0.mk (Kd.C_below HQ.out hb1)); (try replace HP2 := Aside0.mk (Kd.C_below HP2.out hb1)); (try replace HQ2 := Aside0.mk (Kd.C_below HQ2.out hb1)); (try replace HD := Aside0.mk (Kd.C_below HD.out hb1)); (try replace HD2 := Aside0.mk (Kd.C_below HD2.out hb1)); (try clear hx0 hx1 hy0 hy1); have hx0 := T.out.x0; have hx1 := T.out.x1; have hy0 := T.out.y0; have hy1 := T.out.y1; have HP := Aside0.mk hrHP; have HPC := Aside0.mk hcHP; clear hb1 hrHP hcHP)) | (go_at_call 36; ((with_reducible refine (GQ.out _ T.out.hl Y.out).mono ?_); rintro e w1 ⟨_, rfl, AHQ, cHQ, rfl, hcHQ, hrHQ, hb1⟩; replace T := Aside0.mk (T.out.below hb1); (try replace HP := Aside0.mk (Kd.C_below HP.out hb1)); (try replace HQ := Aside0.mk (Kd.C_below HQ.out hb1)); (try replace HP2 := Aside0.mk (Kd.C_below HP2.out hb1)); (try replace HQ2 := Aside0.mk (Kd.C_below HQ2.out hb1)); (try replace HD := Aside0.mk (Kd.C_below HD.out hb1)); (try replace HD2 := Aside0.mk (Kd.C_below HD2.out hb1)); (try clear hx0 hx1 hy0 hy1); have hx0 := T.out.x0; have hx1 := T.out.x1; have hy0 := T.out.y0; have hy1 := T.out.y1; have HQ := Aside0.mk hrHQ; have HQC := Aside0.mk hcHQ; clear hb1 hrHQ hcHQ)) | (go_at_call 36; ((with_reducible refine (GPP.out _ _ _ HP.out HPC.out).mono ?_); rintro e w1 ⟨_, rfl, AHP2, cHP2, rfl, hcHP2, hrHP2, hb1⟩; replace T := Aside0.mk (T.out.below hb1); (try replace HP := Aside0.mk (Kd.C_below HP.out hb1)); (try replace HQ := Aside0.mk (Kd.C_below HQ.out hb1)); (try replace HP2 := Aside0.mk (Kd.C_below HP2.out hb1)); (try replace HQ2 := Aside0.mk (Kd.C_below HQ2.out hb1)); (try replace HD := Aside0.mk (Kd.C_below HD.out hb1)); (try replace HD2 := Aside0.mk (Kd.C_below HD2.out hb1)); (try clear hx0 hx1 hy0 hy1); have hx0 := T.out.x0; have hx1 := T.out.x1; have hy0 := T.out.y0; have hy1 := T.out.y1; have HP2 := Aside0.mk hrHP2; have HP2C := Aside0.mk hcHP2; clear hb1 hrHP2 hcHP2)) | (go_at_call 36; ((with_reducible refine (GQQ.out _ _ _ HQ.out HQC.out).mono ?_); rintro e w1 ⟨_, rfl, AHQ2, cHQ2, rfl, hcHQ2, hrHQ2, hb1⟩; replace T := Aside0.mk (T.out.below hb1); (try replace HP := Aside0.mk (Kd.C_below HP.out hb1)); (try replace HQ := Aside0.mk (Kd.C_below HQ.out hb1)); (try replace HP2 := Aside0.mk (Kd.C_below HP2.out hb1)); (try replace HQ2 := Aside0.mk (Kd.C_below HQ2.out hb1)); (try replace HD := Aside0.mk (Kd.C_below HD.out hb1)); (try replace HD2 := Aside0.mk (Kd.C_below HD2.out hb1)); (try clear hx0 hx1 hy0 hy1); have hx0 := T.out.x0; have hx1 := T.out.x1; have hy0 := T.out.y0; have hy1 := T.out.y1; have HQ2 := Aside0.mk hrHQ2; have HQ2C := Aside0.mk hcHQ2; clear hb1 hrHQ2 hcHQ2)) | (go_at_call 31; ((with_reducible refine (GRp.out _ _ _ HP2.out HP2C.out (tab_below HT.out T.out.hb (Nat.le_refl _))).mono ?_); rintro e w1 ⟨rfl, hb1⟩; replace T := Aside0.mk (T.out.below hb1); (try replace HP := Aside0.mk (Kd.C_below HP.out hb1)); (try replace HQ := Aside0.mk (Kd.C_below HQ.out hb1)); (try replace HP2 := Aside0.mk (Kd.C_below HP2.out hb1)); (try replace HQ2 := Aside0.mk (Kd.C_below HQ2.out hb1)); (try replace HD := Aside0.mk (Kd.C_below HD.out hb1)); (try replace HD2 := Aside0.mk (Kd.C_below HD2.out hb1)); (try clear hx0 hx1 hy0 hy1); have hx0 := T.out.x0; have hx1 := T.out.x1; have hy0 := T.out.y0; have hy1 := T.out.y1; clear hb1)) | (go_at_call 31; ((with_reducible refine (GRp.out _ _ _ HQ2.out HQ2C.out (tab_below HT.out T.out.hb (Nat.le_refl _))).mono ?_); rintro e w1 ⟨rfl, hb1⟩; replace T := Aside0.mk (T.out.below hb1); (try replace HP := Aside0.mk (Kd.C_below HP.out hb1)); (try replace HQ := Aside0.mk (Kd.C_below HQ.out hb1)); (try replace HP2 := Aside0.mk (Kd.C_below HP2.out hb1)); (try replace HQ2 := Aside0.mk (Kd.C_below HQ2.out hb1)); (try replace HD := Aside0.mk (Kd.C_below HD.out hb1)); (try replace HD2 := Aside0.mk (Kd.C_below HD2.out hb1)); (try clear hx0 hx1 hy0 hy1); have hx0 := T.out.x0; have hx1 := T.out.x1; have hy0 := T.out.y0; have hy1 := T.out.y1; clear hb1)) | (go_at_call 37; ((with_reducible refine (GD.out _ _ _ HQ2.out HQ2C.out).mono ?_); rintro e w1 ⟨_, rfl, AHD, cHD, rfl, hcHD, hrHD, hb1⟩; replace T := Aside0.mk (T.out.below hb1); (try replace HP := Aside0.mk (Kd.C_below HP.out hb1)); (try replace HQ := Aside0.mk (Kd.C_below HQ.out hb1)); (try replace HP2 := Aside0.mk (Kd.C_below HP2.out hb1)); (try replace HQ2 := Aside0.mk (Kd.C_below HQ2.out hb1)); (try replace HD := Aside0.mk (Kd.C_below HD.out hb1)); (try replace HD2 := Aside0.mk (Kd.C_below HD2.out hb1)); (try clear hx0 hx1 hy0 hy1); have hx0 := T.out.x0; have hx1 := T.out.x1; have hy0 := T.out.y0; have hy1 := T.out.y1; have HD := Aside0.mk hrHD; have HDC := Aside0.mk hcHD; clear hb1 hrHD hcHD)) | (go_at_call 37; ((with_reducible refine (GE.out _ _ _ HD.out HDC.out).mono ?_); rintro e w1 ⟨_, rfl, AHD2, cHD2, rfl, hcHD2, hrHD2, hb1⟩; replace T := Aside0.mk (T.out.below hb1); (try replace HP := Aside0.mk (Kd.C_below HP.out hb1)); (try replace HQ := Aside0.mk (Kd.C_below HQ.out hb1)); (try replace HP2 := Aside0.mk (Kd.C_below HP2.out hb1)); (try replace HQ2 := Aside0.mk (Kd.C_below HQ2.out hb1)); (try replace HD := Aside0.mk (Kd.C_below HD.out hb1)); (try replace HD2 := Aside0.mk (Kd.C_below HD2.out hb1)); (try clear hx0 hx1 hy0 hy1); have hx0 := T.out.x0; have hx1 := T.out.x1; have hy0 := T.out.y0; have hy1 := T.out.y1; have HD2 := Aside0.mk hrHD2; have HD2C := Aside0.mk hcHD2; clear hb1 hrHD2 hcHD2)) | (go_at_call 31; ((with_reducible refine (GRd.out _ _ _ HD2.out HD2C.out (tab_below HT.out T.out.hb (Nat.le_refl _))).mono ?_); rintro e w1 ⟨rfl, hb1⟩; replace T := Aside0.mk (T.out.below hb1); (try replace HP := Aside0.mk (Kd.C_below HP.out hb1)); (try replace HQ := Aside0.mk (Kd.C_below HQ.out hb1)); (try replace HP2 := Aside0.mk (Kd.C_below HP2.out hb1)); (try replace HQ2 := Aside0.mk (Kd.C_below HQ2.out hb1)); (try replace HD := Aside0.mk (Kd.C_below HD.out hb1)); (try replace HD2 := Aside0.mk (Kd.C_below HD2.out hb1)); (try clear hx0 hx1 hy0 hy1); have hx0 := T.out.x0; have hx1 := T.out.x1; have hy0 := T.out.y0; have hy1 := T.out.y1; clear hb1)) | (go_at_call 32; ((with_reducible refine (GA.out _ (tab_below HT.out T.out.hb (Nat.le_refl _))).mono ?_); rintro e w1 ⟨rfl, hb1⟩; replace T := Aside0.mk (T.out.below hb1); (try replace HP := Aside0.mk (Kd.C_below HP.out hb1)); (try replace HQ := Aside0.mk (Kd.C_below HQ.out hb1)); (try replace HP2 := Aside0.mk (Kd.C_below HP2.out hb1)); (try replace HQ2 := Aside0.mk (Kd.C_below HQ2.out hb1)); (try replace HD := Aside0.mk (Kd.C_below HD.out hb1)); (try replace HD2 := Aside0.mk (Kd.C_below HD2.out hb1)); (try clear hx0 hx1 hy0 hy1); have hx0 := T.out.x0; have hx1 := T.out.x1; have hy0 := T.out.y0; have hy1 := T.out.y1; clear hb1)))
        go_ret
        exact ⟨by first | rfl | (simp; done) | (simp [*]; done), T.out.hb⟩
theorem labelMade_row (a0 : ByteArray) (A1 : Option Addr) (c1 : Nat) (l1 : List S46) (x0 : Int) (x1 : ByteArray) (y0 : Int) (y1 : ByteArray) (w : World) (_ : a0.size ≤ 140737488351232) (hr1 : Kd.C k46 w A1 l1.length l1) (hc1 : l1.length ≤ c1)
  (hw : ∀ y, y ∈ l1 → 0 ≤ y.f0 ∧ y.f0 ≤ 18446744073709551615 ∧ y.f1.size ≤ 9223372036854775807) (wx : (Lit.int .u64 x0).wf = true) (_ : x1.size ≤ maxLen) (wy : (Lit.int .u64 y0).wf = true) (_ : y1.size ≤ maxLen) (hT0 : TabW w) :
  Calls Tryd.prog 12 #[.string a0, .slice A1 l1.length c1, .agg #[.int .u64 x0, .string x1], .agg #[.int .u64 y0, .string y1]] w fun e w' => e = .returned (.bool true) ∧ Below w.heap.size w w' := by
 have kx : 0 ≤ x0 ∧ x0 ≤ 18446744073709551615 := by simpa [Lit.wf, IntKind.min, IntKind.max, IntKind.signed, IntKind.bits] using wx
 have ky : 0 ≤ y0 ∧ y0 ≤ 18446744073709551615 := by simpa [Lit.wf, IntKind.min, IntKind.max, IntKind.signed, IntKind.bits] using wy
 by_cases hR : RightP (l1.take 12)
 ·exact made_ok a0 A1 c1 l1 ⟨x0, x1⟩ ⟨y0, y1⟩ w hr1 hc1 (fun y hy => ⟨(hw y hy).1, (hw y hy).2.1⟩) kx ky hT0 hR
 ·exact made_bad a0 A1 c1 l1 ⟨x0, x1⟩ ⟨y0, y1⟩ w hr1 hc1 hT0 hR
end Go.Proofs.YtolbhliepkcihaaDoor.LabLaw
end
