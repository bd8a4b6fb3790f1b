/- Joined by a program of this session (wip/pack.py) for this claim: QSFx3, QSFx4, QSFx5, SkipPure, SkipPure2, SkipPure3, QSQx0, QSQx3, QSQx1, QSQx2, SkipOps, SkipCon, LabTop, LabTop2, LabStub2, ProofMay, QPAx0, QPAx1, QPAx2, QPAx3, QPAx4, ProofPure. -/
import Derived.Test.YtolbhliepkcihaaDoorKProofShowsa
import Derived.Test.YtolbhliepkcihaaDoorProg
import Derived.Below
import Derived.Deep.Draws
import Derived.Deep.AppendLies
import Derived.Maps.AppendAt
import Derived.OwnWalk
import Derived.Laws.BytesArg
import Derived.Laws.MakeOwn
import Derived.Laws.OwnMore
import Derived.Deep.OwnRows
import Derived.Tactics
import Derived.Lib.ConvBytes
import Derived.Laws.Slices
import Derived.WalkKit
import Derived.KernelRfl
import Derived.RowKit3
import Derived.Deep.LoopGhost
import Derived.Deep.QuietTactic
import Derived.BigQuiet
import Derived.WideLaws
import Derived.Deep.DeepCutAuto
import Derived.Deep.CutBlock
import Derived.Deep.RegionHeld3
import Derived.Laws.Rows
import Derived.Lib.AppendStr
import Derived.ArgAppend
import Derived.Laws.IdiomCopy
import Derived.OrdersHeld
import Derived.Laws.BitsLemmas
import Derived.RowKit
import Derived.Test.YtolbhliepkcihaaDoorBaseH
import Derived.Test.YtolbhliepkcihaaDoorPWa
section
namespace Go.Proofs.YtolbhliepkcihaaDoor.QSF
open Go.RowKit Kinds YtolbhliepkcihaaDoorW.PrintWords YtolbhliepkcihaaDoorW.PrintLast YtolbhliepkcihaaDoorW.PrintMore
attribute [local go_sem] max2_int min2_int max_two min_two max_three min_three max_four min_four   -- for this text's walks alone
set_option linter.unusedVariables false
set_option linter.unusedSimpArgs false
attribute [local go_sem high] eqA48
/-! ### saltusref16_Right: function 25 -/
mutual
def saltusref16_Right.l0 : Nat → List (S46) → List (S46) → Int → Int → Option (Bool)
 | 0, _, _, _, _ => none
 | k + 1, x0, x7, x8, x9 => if x9 < x8 then (if 0 ≤ x9 then (if x9 < (x7.length : Int) then (if (((rd_T46 x7 x9).f1).size : Int) > 64 then (some false) else (if x9 ≤ (x0.length : Int) then ((some (x0.take (x9 : Int).toNat : List (S46))).bind fun y119 => (saltusref16_Right.l1 k x0 x7 x8 x9 y119 (y119.length : Int) 0 ((rd_T46 x7 x9).f0) ((rd_T46 x7 x9).f1))) else (none))) else (none)) else (none)) else (some (decide ((x0.length : Int) ≤ 64)))
def saltusref16_Right.l1 : Nat → List (S46) → List (S46) → Int → Int → List (S46) → Int → Int → Int → ByteArray → Option (Bool)
 | 0, _, _, _, _, _, _, _, _, _ => none
 | k + 1, x0, x7, x8, x9, x20, x21, x22, x119000, x119001 => if x22 < x21 then (if 0 ≤ x22 then (if x22 < (x20.length : Int) then (if ((rd_T46 x20 x22).f0) ≥ x119000 then (some false) else (saltusref16_Right.l1 k x0 x7 x8 x9 x20 x21 (wrap64 (x22 + 1)) x119000 x119001)) else (none)) else (none)) else (saltusref16_Right.l0 k x0 x7 x8 (wrap64 (x9 + 1)))
end
def saltusref16_Right.f (k : Nat) (l0 : List (S46)) : Option (Bool) := saltusref16_Right.l0 k l0 l0 (l0.length : Int) 0
set_option maxHeartbeats 8000000 in
set_option maxRecDepth 100000 in
theorem saltusref16_Right.calls (k : Nat) (A0 : Option Addr) (c0 : Nat) (l0 : List (S46)) (r : Bool) (w : World) (hr0 : Kd.C k46 w A0 l0.length l0) (hc0 : l0.length ≤ c0) (h : saltusref16_Right.f k l0 = some r) :
  Calls Tryd.prog 25 #[.slice A0 l0.length c0] w fun e w' => e = .returned (.bool r) ∧ Below w.heap.size w w' := by
 have hu46 := Tryd.underlying46
 have HR0 := qf hr0
 have HC0 := qf hc0
 clear hr0 hc0
 have HB := qf (Below.refl w.heap.size w)
 have H : (saltusref16_Right.l0 k l0 l0 (l0.length : Int) 0) = some r := h
 clear h
 have H' := qf H
 clear H
 go_enter Tryd.func25, Tryd.ntmps25
 go_wp2
 go_loopg [9] k (fun kq v9 w' => ∃ (x9_1 : Int), v9 = .int .i64 x9_1 ∧ Aside0 (saltusref16_Right.l0 kq l0 l0 (l0.length : Int) x9_1 = some r) ∧ Aside0 (kq ≤ k) ∧ Aside0 (Below w.heap.size w w'))
 case atStart => exact ⟨(0), (by first | rfl | (simp; done) | (simp [*]; done)), H', ⟨Nat.le_refl _⟩, ⟨by repeat (first | (with_reducible first | exact HB.out | apply qa | apply qb | apply qc) | exact HB.out)⟩⟩
 case round =>
  clear H'
  obtain ⟨x9_1, rfl, HA, HK1, HB⟩ := hrel
  cases gk with
  | zero => exact absurd HA.out (by simp [saltusref16_Right.l0])
  | succ k1 =>
   have H := HA.out
   clear HA
   simp only [saltusref16_Right.l0] at H
   by_cases c2 : x9_1 < (l0.length : Int)
   ·rw [if_pos c2] at H
    have c2b0 : decide (x9_1 < (l0.length : Int)) = true := qj c2
    clear c2
    by_cases c3 : 0 ≤ x9_1
    ·rw [if_pos c3] at H
     have c3b0 : decide (0 ≤ x9_1) = true := qj c3
     clear c3
     by_cases c4 : x9_1 < (l0.length : Int)
     ·rw [if_pos c4] at H
      have c4b0 : decide (x9_1 < (l0.length : Int)) = true := qj c4
      clear c4
      by_cases c5 : (((rd_T46 l0 x9_1).f1).size : Int) > 64
      ·rw [if_pos c5] at H
       have c5b0 : decide (64 < (((rd_T46 l0 x9_1).f1).size : Int)) = true := qj c5
       have c5b1 : decide (64 < ((rd_T46 l0 x9_1).f1).size) = true := qj (by omega)
       clear c5
       obtain rfl := Option.some.inj H
       have p117 : 0 ≤ (x9_1 : Int) := qe (by first | (with_reducible assumption) | assumption)
       have q117 : x9_1 < (l0.length : Int) := qe (by first | (with_reducible assumption) | assumption)
       obtain ⟨ad117, e117, hx117_0, hx117_1⟩ := at_T46 HR0.out x9_1 p117 q117
       cases e117
       replace hx117_0 := (HB.out.cell (qd w _ hx117_0)).trans hx117_0
       replace hx117_1 := (HB.out.cell (qd w _ hx117_1)).trans hx117_1
       replace p117 := eq_true p117
       replace q117 := eq_true q117
       go_wp2_with (first | ((with_reducible refine gate_dst (N := 4) rfl ?_); refine box_event ?hg (N := 4) ?hd (cs := #[.int .u64 0, .string (⟨#[]⟩ : ByteArray)]) (t := 46) ?hr ?_; (case hd => rfl); (case hg => rfl); (case hr => first | (go_simp; done) | (go_simp; rfl)); intro gb118 hg w6 hbox hb; have n0_ := qf (below_step (by repeat (first | (with_reducible first | exact HB.out | apply qa | apply qb | apply qc) | exact HB.out)) hb); have n1_ := qf (hbox); have n2_ := qf ((by rw [hg]; exact (below_size (by repeat (first | (with_reducible first | exact HB.out | apply qa | apply qb | apply qc) | exact HB.out))) : w.heap.size ≤ gb118)); have n3_ := qf ((by rw [hg]; exact (below_size (by repeat (first | (with_reducible first | exact HB.out | apply qa | apply qb | apply qc) | exact HB.out))) : w.heap.size ≤ gb118)); clear HB; have HB := n0_; have BK118 := n1_; have GW118 := n2_; have GE118 := n3_; clear n0_ n1_ n2_ n3_; clear hb hbox hg; have hcz7_0 : w6.cell? ⟨gb118, 0, none⟩ = some (.int .u64 0) := (blk_cell BK118.out 0).trans rfl; have hcz7_1 : w6.cell? ⟨gb118, 1, none⟩ = some (.string (⟨#[]⟩ : ByteArray)) := (blk_cell BK118.out 1).trans rfl; have hfz7_0 := blk_frozen BK118.out 0; have hfz7_1 := blk_frozen BK118.out 1))
       go_ret
       exact ⟨by first | rfl | (simp [errW_none, errW_some] <;> rfl) | (simp [*, errW_none, errW_some] <;> rfl), by repeat (first | (with_reducible first | exact HB.out | apply qa | apply qb | apply qc | refine qg ?_ GE118.out) | exact HB.out)⟩
      ·rw [if_neg c5] at H
       have c5b0 : decide (64 < (((rd_T46 l0 x9_1).f1).size : Int)) = false := decide_eq_false c5
       have c5b1 : decide (64 < ((rd_T46 l0 x9_1).f1).size) = false := decide_eq_false (by omega)
       clear c5
       have c8b0 := eq_true (qe (by first | (with_reducible assumption) | assumption) : 0 ≤ x9_1)
       by_cases c9 : x9_1 ≤ (l0.length : Int)
       ·rw [if_pos c9] at H
        have c9b0 := eq_true c9
        have c9b1 : decide (x9_1 ≤ (l0.length : Int)) = true := qj c9
        clear c9
        obtain ⟨y119, hy119⟩ : ∃ y_ : List (S46), y_ = (l0.take (x9_1 : Int).toNat) := ⟨_, rfl⟩
        replace H : (saltusref16_Right.l1 k1 l0 l0 (l0.length : Int) x9_1 y119 (y119.length : Int) 0 ((rd_T46 l0 x9_1).f0) ((rd_T46 l0 x9_1).f1)) = some r := by first | (rw [hy119]; with_reducible exact H) | (have H2_ := (qv _ _).symm.trans H; rw [hy119]; with_reducible exact H2_) | (have H2_ := (qv _ _).symm.trans H; with_reducible exact H2_) | with_reducible exact H | (rw [hy119]; exact H) | exact H
        have Ny119 := qf hy119
        clear hy119
        have H' := qf H
        clear H
        have p117 : 0 ≤ (x9_1 : Int) := qe (by first | (with_reducible assumption) | assumption)
        have q117 : x9_1 < (l0.length : Int) := qe (by first | (with_reducible assumption) | assumption)
        obtain ⟨ad117, e117, hx117_0, hx117_1⟩ := at_T46 HR0.out x9_1 p117 q117
        cases e117
        replace hx117_0 := (HB.out.cell (qd w _ hx117_0)).trans hx117_0
        replace hx117_1 := (HB.out.cell (qd w _ hx117_1)).trans hx117_1
        replace p117 := eq_true p117
        replace q117 := eq_true q117
        go_wp2_with (first | ((with_reducible refine gate_dst (N := 4) rfl ?_); refine box_event ?hg (N := 4) ?hd (cs := #[.int .u64 0, .string (⟨#[]⟩ : ByteArray)]) (t := 46) ?hr ?_; (case hd => rfl); (case hg => rfl); (case hr => first | (go_simp; done) | (go_simp; rfl)); intro gb118 hg w10 hbox hb; have n0_ := qf (below_step (by repeat (first | (with_reducible first | exact HB.out | apply qa | apply qb | apply qc) | exact HB.out)) hb); have n1_ := qf (hbox); have n2_ := qf ((by rw [hg]; exact (below_size (by repeat (first | (with_reducible first | exact HB.out | apply qa | apply qb | apply qc) | exact HB.out))) : w.heap.size ≤ gb118)); have n3_ := qf ((by rw [hg]; exact (below_size (by repeat (first | (with_reducible first | exact HB.out | apply qa | apply qb | apply qc) | exact HB.out))) : w.heap.size ≤ gb118)); clear HB; have HB := n0_; have BK118 := n1_; have GW118 := n2_; have GE118 := n3_; clear n0_ n1_ n2_ n3_; clear hb hbox hg; have hcz11_0 : w10.cell? ⟨gb118, 0, none⟩ = some (.int .u64 0) := (blk_cell BK118.out 0).trans rfl; have hcz11_1 : w10.cell? ⟨gb118, 1, none⟩ = some (.string (⟨#[]⟩ : ByteArray)) := (blk_cell BK118.out 1).trans rfl; have hfz11_0 := blk_frozen BK118.out 0; have hfz11_1 := blk_frozen BK118.out 1) | ((with_reducible refine gate_store (t := 46) (p := 4) rfl ?_); refine store_event (t := 46) (p := 4) (v := ?vo_w12) (w1 := ((w10.setCell ⟨gb118, 0, none⟩ (.int .u64 ((rd_T46 l0 x9_1).f0))).setCell ⟨gb118, 1, none⟩ (.string ((rd_T46 l0 x9_1).f1)))) ?hg ?ho ?hn ?hr ?_; (case ho => rfl); (case hg => rfl); (case hn => rfl); (case hr => first | (go_simp; done) | (go_simp; rfl)); intro w12 hw; have n0_ : Aside0 (w12.heap[gb118]? = some (.cells #[.int .u64 ((rd_T46 l0 x9_1).f0), .string ((rd_T46 l0 x9_1).f1)] 46 (0, 0))) := ⟨(by rw [hw]; exact (by (with_reducible repeat (first | refine blk_drewN ?_ _ | refine blk_drew ?_ | refine qh ?_ _)); refine blk_put (cs := #[.int .u64 ((rd_T46 l0 x9_1).f0), .string (⟨#[]⟩ : ByteArray)]) ?_ 1 _ rfl; (with_reducible repeat (first | refine blk_drewN ?_ _ | refine blk_drew ?_ | refine qh ?_ _)); refine blk_put (cs := #[.int .u64 0, .string (⟨#[]⟩ : ByteArray)]) ?_ 0 _ rfl; (with_reducible repeat (first | refine blk_drewN ?_ _ | refine blk_drew ?_ | refine qh ?_ _)); exact BK118.out))⟩; have n1_ : Aside0 (Below w.heap.size w w12) := ⟨(by rw [hw]; exact (by repeat (first | (with_reducible first | exact HB.out | apply qa | apply qb | apply qc | refine qg ?_ GE118.out) | exact HB.out)))⟩; clear hw; clear BK118; clear HB; have BK118 := n0_; have HB := n1_; clear n0_ n1_; have hcz13_0 : w12.cell? ⟨gb118, 0, none⟩ = some (.int .u64 ((rd_T46 l0 x9_1).f0)) := (blk_cell BK118.out 0).trans rfl; have hcz13_1 : w12.cell? ⟨gb118, 1, none⟩ = some (.string ((rd_T46 l0 x9_1).f1)) := (blk_cell BK118.out 1).trans rfl; have hfz13_0 := blk_frozen BK118.out 0; have hfz13_1 := blk_frozen BK118.out 1; have q14 : (x9_1 : Int) ≤ ((l0.length : Int) : Int) := qe (by first | (with_reducible assumption) | assumption); obtain ⟨i014, hi014, _, hsz14, _⟩ := info_parts info46; have hroom14 : l0.length ≤ c0 := HC0.out; have hC14 : Kd.C k46 _ (some ad117) l0.length l0 := HR0.out; have hcut14 := cut_to (P := Tryd.prog) 36 46 .i64 Tryd.underlying36 hi014 (some ad117) l0.length c0 x9_1 (qe (by first | (with_reducible assumption) | assumption)) q14 hroom14; have hr14 := Kd.C_take (m := (x9_1 : Int).toNat) hC14 (by omega); have hy14 : y119.length = (x9_1 : Int).toNat := (by rw [Ny119.out, qw]; omega); rw [← Ny119.out] at hr14; rw [← hy14] at hcut14; have HR122 := qf hr14; have HC122 := qf (show y119.length ≤ c0 from by omega); clear hr14 hC14 hroom14 hi014 hsz14; have KY14 := qf hy14; clear hy14; replace q14 := eq_true q14))
        go_loopg [22] k1 (fun kq v22 w' => ∃ (x22_2 : Int), v22 = .int .i64 x22_2 ∧ Aside0 (saltusref16_Right.l1 kq l0 l0 (l0.length : Int) x9_1 y119 (y119.length : Int) x22_2 ((rd_T46 l0 x9_1).f0) ((rd_T46 l0 x9_1).f1) = some r) ∧ Aside0 (kq ≤ k1) ∧ Aside0 (w'.heap[gb118]? = some (.cells #[.int .u64 ((rd_T46 l0 x9_1).f0), .string ((rd_T46 l0 x9_1).f1)] 46 (0, 0))) ∧ Aside0 (Below w.heap.size w w'))
        case atStart => exact ⟨(0), (by first | rfl | (simp; done) | (simp [*]; done)), H', ⟨Nat.le_refl _⟩, ⟨by (with_reducible repeat (first | refine blk_drewN ?_ _ | refine blk_drew ?_ | refine qh ?_ _)); exact BK118.out⟩, ⟨by repeat (first | (with_reducible first | exact HB.out | apply qa | apply qb | apply qc | refine qg ?_ GE118.out) | exact HB.out)⟩⟩
        case round =>
         clear H'
         try clear p1
         try clear q1
         try clear hx1
         try clear c2
         try clear c2b0
         try clear p2
         try clear c3
         try clear c3b0
         try clear c4
         try clear c4b0
         try clear c5
         try clear c5b0
         try clear c5b1
         try clear c8
         try clear c8b0
         try clear c9
         try clear c9b0
         try clear c9b1
         try clear p11
         try clear q11
         try clear hx11
         try clear q14
         try clear hcz11_0
         try clear hcz11_1
         try clear hcz13_0
         try clear hcz13_1
         try clear hcz7_0
         try clear hcz7_1
         try clear hfz11_0
         try clear hfz11_1
         try clear hfz13_0
         try clear hfz13_1
         try clear hfz7_0
         try clear hfz7_1
         try clear hx117_0
         try clear hx117_1
         try clear p117
         try clear q117
         try clear q14
         obtain ⟨x22_2, rfl, HA, HK2, BK118, HB⟩ := hrel
         cases gk with
         | zero => exact absurd HA.out (by simp [saltusref16_Right.l1])
         | succ k2 =>
          have H := HA.out
          clear HA
          simp only [saltusref16_Right.l1] at H
          by_cases c15 : x22_2 < (y119.length : Int)
          ·rw [if_pos c15] at H
           have c15b0 : decide (x22_2 < (y119.length : Int)) = true := qj c15
           clear c15
           by_cases c16 : 0 ≤ x22_2
           ·rw [if_pos c16] at H
            have c16b0 : decide (0 ≤ x22_2) = true := qj c16
            clear c16
            by_cases c17 : x22_2 < (y119.length : Int)
            ·rw [if_pos c17] at H
             have c17b0 : decide (x22_2 < (y119.length : Int)) = true := qj c17
             clear c17
             by_cases c18 : ((rd_T46 y119 x22_2).f0) ≥ ((rd_T46 l0 x9_1).f0)
             ·rw [if_pos c18] at H
              have c18b0 : decide (((rd_T46 l0 x9_1).f0) ≤ ((rd_T46 y119 x22_2).f0)) = true := qj c18
              clear c18
              obtain rfl := Option.some.inj H
              have p123 : 0 ≤ (x22_2 : Int) := qe (by first | (with_reducible assumption) | assumption)
              have q123 : x22_2 < (y119.length : Int) := qe (by first | (with_reducible assumption) | assumption)
              obtain ⟨ad123, e123, hx123_0, hx123_1⟩ := at_T46 HR122.out x22_2 p123 q123
              obtain rfl : ad117 = ad123 := (by injection e123)
              replace hx123_0 := (HB.out.cell (qd w _ hx123_0)).trans hx123_0
              replace hx123_1 := (HB.out.cell (qd w _ hx123_1)).trans hx123_1
              replace p123 := eq_true p123
              replace q123 := eq_true q123
              go_wp2_with (first | ((with_reducible refine gate_dst (N := 6) rfl ?_); refine box_event ?hg (N := 6) ?hd (cs := #[.int .u64 0, .string (⟨#[]⟩ : ByteArray)]) (t := 46) ?hr ?_; (case hd => rfl); (case hg => rfl); (case hr => first | (go_simp; done) | (go_simp; rfl)); intro gb124 hg w19 hbox hb; have n0_ := qf (blk_below (g := gb118) (o := .cells #[.int .u64 ((rd_T46 l0 x9_1).f0), .string ((rd_T46 l0 x9_1).f1)] 46 (0, 0)) (by (with_reducible repeat (first | refine blk_drewN ?_ _ | refine blk_drew ?_ | refine qh ?_ _)); exact BK118.out) hb); have n1_ := qf (below_step (by repeat (first | (with_reducible first | exact HB.out | apply qa | apply qb | apply qc | refine qg ?_ GE118.out) | exact HB.out)) hb); have n2_ := qf (hbox); have n3_ := qf ((by rw [hg]; exact (below_size (by repeat (first | (with_reducible first | exact HB.out | apply qa | apply qb | apply qc | refine qg ?_ GE118.out) | exact HB.out))) : w.heap.size ≤ gb124)); have n4_ := qf ((by rw [hg]; exact (below_size (by repeat (first | (with_reducible first | exact HB.out | apply qa | apply qb | apply qc | refine qg ?_ GE118.out) | exact HB.out))) : w.heap.size ≤ gb124)); have n5_ := qf ((by rw [hg]; exact Nat.ne_of_lt (blk_lt (g := gb118) (o := .cells #[.int .u64 ((rd_T46 l0 x9_1).f0), .string ((rd_T46 l0 x9_1).f1)] 46 (0, 0)) (by (with_reducible repeat (first | refine blk_drewN ?_ _ | refine blk_drew ?_ | refine qh ?_ _)); exact BK118.out)) : gb118 ≠ gb124)); have n6_ := qf ((by rw [hg]; exact Nat.ne_of_gt (blk_lt (g := gb118) (o := .cells #[.int .u64 ((rd_T46 l0 x9_1).f0), .string ((rd_T46 l0 x9_1).f1)] 46 (0, 0)) (by (with_reducible repeat (first | refine blk_drewN ?_ _ | refine blk_drew ?_ | refine qh ?_ _)); exact BK118.out)) : gb124 ≠ gb118)); clear BK118; clear HB; have BK118 := n0_; have HB := n1_; have BK124 := n2_; have GW124 := n3_; have GE124 := n4_; have NB118_124 := n5_; have NB124_118 := n6_; clear n0_ n1_ n2_ n3_ n4_ n5_ n6_; clear hb hbox hg; have hnb20 := NB124_118.out; have hnc20 := NB118_124.out; have hcz21_0 : w19.cell? ⟨gb124, 0, none⟩ = some (.int .u64 0) := (blk_cell BK124.out 0).trans rfl; have hcz21_1 : w19.cell? ⟨gb124, 1, none⟩ = some (.string (⟨#[]⟩ : ByteArray)) := (blk_cell BK124.out 1).trans rfl; have hfz21_0 := blk_frozen BK124.out 0; have hfz21_1 := blk_frozen BK124.out 1; have hcz22_0 : w19.cell? ⟨gb118, 0, none⟩ = some (.int .u64 ((rd_T46 l0 x9_1).f0)) := (blk_cell BK118.out 0).trans rfl; have hcz22_1 : w19.cell? ⟨gb118, 1, none⟩ = some (.string ((rd_T46 l0 x9_1).f1)) := (blk_cell BK118.out 1).trans rfl; have hfz22_0 := blk_frozen BK118.out 0; have hfz22_1 := blk_frozen BK118.out 1))
              go_ret
              exact ⟨by first | rfl | (simp [errW_none, errW_some] <;> rfl) | (simp [*, errW_none, errW_some] <;> rfl), by repeat (first | (with_reducible first | exact HB.out | apply qa | apply qb | apply qc | refine qg ?_ GE118.out | refine qg ?_ GE124.out) | exact HB.out)⟩
             ·rw [if_neg c18] at H
              have c18b0 : decide (((rd_T46 l0 x9_1).f0) ≤ ((rd_T46 y119 x22_2).f0)) = false := decide_eq_false c18
              clear c18
              have H' := qf H
              clear H
              have p123 : 0 ≤ (x22_2 : Int) := qe (by first | (with_reducible assumption) | assumption)
              have q123 : x22_2 < (y119.length : Int) := qe (by first | (with_reducible assumption) | assumption)
              obtain ⟨ad123, e123, hx123_0, hx123_1⟩ := at_T46 HR122.out x22_2 p123 q123
              obtain rfl : ad117 = ad123 := (by injection e123)
              replace hx123_0 := (HB.out.cell (qd w _ hx123_0)).trans hx123_0
              replace hx123_1 := (HB.out.cell (qd w _ hx123_1)).trans hx123_1
              replace p123 := eq_true p123
              replace q123 := eq_true q123
              go_wp2_with (first | ((with_reducible refine gate_dst (N := 6) rfl ?_); refine box_event ?hg (N := 6) ?hd (cs := #[.int .u64 0, .string (⟨#[]⟩ : ByteArray)]) (t := 46) ?hr ?_; (case hd => rfl); (case hg => rfl); (case hr => first | (go_simp; done) | (go_simp; rfl)); intro gb124 hg w23 hbox hb; have n0_ := qf (blk_below (g := gb118) (o := .cells #[.int .u64 ((rd_T46 l0 x9_1).f0), .string ((rd_T46 l0 x9_1).f1)] 46 (0, 0)) (by (with_reducible repeat (first | refine blk_drewN ?_ _ | refine blk_drew ?_ | refine qh ?_ _)); exact BK118.out) hb); have n1_ := qf (below_step (by repeat (first | (with_reducible first | exact HB.out | apply qa | apply qb | apply qc | refine qg ?_ GE118.out) | exact HB.out)) hb); have n2_ := qf (hbox); have n3_ := qf ((by rw [hg]; exact (below_size (by repeat (first | (with_reducible first | exact HB.out | apply qa | apply qb | apply qc | refine qg ?_ GE118.out) | exact HB.out))) : w.heap.size ≤ gb124)); have n4_ := qf ((by rw [hg]; exact (below_size (by repeat (first | (with_reducible first | exact HB.out | apply qa | apply qb | apply qc | refine qg ?_ GE118.out) | exact HB.out))) : w.heap.size ≤ gb124)); have n5_ := qf ((by rw [hg]; exact Nat.ne_of_lt (blk_lt (g := gb118) (o := .cells #[.int .u64 ((rd_T46 l0 x9_1).f0), .string ((rd_T46 l0 x9_1).f1)] 46 (0, 0)) (by (with_reducible repeat (first | refine blk_drewN ?_ _ | refine blk_drew ?_ | refine qh ?_ _)); exact BK118.out)) : gb118 ≠ gb124)); have n6_ := qf ((by rw [hg]; exact Nat.ne_of_gt (blk_lt (g := gb118) (o := .cells #[.int .u64 ((rd_T46 l0 x9_1).f0), .string ((rd_T46 l0 x9_1).f1)] 46 (0, 0)) (by (with_reducible repeat (first | refine blk_drewN ?_ _ | refine blk_drew ?_ | refine qh ?_ _)); exact BK118.out)) : gb124 ≠ gb118)); clear BK118; clear HB; have BK118 := n0_; have HB := n1_; have BK124 := n2_; have GW124 := n3_; have GE124 := n4_; have NB118_124 := n5_; have NB124_118 := n6_; clear n0_ n1_ n2_ n3_ n4_ n5_ n6_; clear hb hbox hg; have hnb24 := NB124_118.out; have hnc24 := NB118_124.out; have hcz25_0 : w23.cell? ⟨gb124, 0, none⟩ = some (.int .u64 0) := (blk_cell BK124.out 0).trans rfl; have hcz25_1 : w23.cell? ⟨gb124, 1, none⟩ = some (.string (⟨#[]⟩ : ByteArray)) := (blk_cell BK124.out 1).trans rfl; have hfz25_0 := blk_frozen BK124.out 0; have hfz25_1 := blk_frozen BK124.out 1; have hcz26_0 : w23.cell? ⟨gb118, 0, none⟩ = some (.int .u64 ((rd_T46 l0 x9_1).f0)) := (blk_cell BK118.out 0).trans rfl; have hcz26_1 : w23.cell? ⟨gb118, 1, none⟩ = some (.string ((rd_T46 l0 x9_1).f1)) := (blk_cell BK118.out 1).trans rfl; have hfz26_0 := blk_frozen BK118.out 0; have hfz26_1 := blk_frozen BK118.out 1))
              go_roundg k2
              case measure => have := HK1.out; have := HK2.out; omega
              case rel => exact ⟨(wrap64 (x22_2 + 1)), (by first | rfl | (simp; done) | (simp [*]; done)), H', ⟨by have := HK1.out; have := HK2.out; omega⟩, ⟨by (with_reducible repeat (first | refine blk_drewN ?_ _ | refine blk_drew ?_ | refine qh ?_ _)); refine blk_far ?_ NB118_124.out _; (with_reducible repeat (first | refine blk_drewN ?_ _ | refine blk_drew ?_ | refine qh ?_ _)); refine blk_far ?_ NB118_124.out _; (with_reducible repeat (first | refine blk_drewN ?_ _ | refine blk_drew ?_ | refine qh ?_ _)); exact BK118.out⟩, ⟨by repeat (first | (with_reducible first | exact HB.out | apply qa | apply qb | apply qc | refine qg ?_ GE118.out | refine qg ?_ GE124.out) | exact HB.out)⟩⟩
            ·rw [if_neg c17] at H
             exact absurd H (by simp)
           ·rw [if_neg c16] at H
            exact absurd H (by simp)
          ·rw [if_neg c15] at H
           have c15b0 : decide (x22_2 < (y119.length : Int)) = false := decide_eq_false c15
           clear c15
           have H' := qf H
           clear H
           go_wp2
           go_roundg k2
           case measure => have := HK1.out; have := HK2.out; omega
           case rel => exact ⟨(wrap64 (x9_1 + 1)), (by first | rfl | (simp; done) | (simp [*]; done)), H', ⟨by have := HK1.out; have := HK2.out; omega⟩, ⟨by repeat (first | (with_reducible first | exact HB.out | apply qa | apply qb | apply qc | refine qg ?_ GE118.out) | exact HB.out)⟩⟩
       ·rw [if_neg c9] at H
        exact absurd H (by simp)
     ·rw [if_neg c4] at H
      exact absurd H (by simp)
    ·rw [if_neg c3] at H
     exact absurd H (by simp)
   ·rw [if_neg c2] at H
    have c2b0 : decide (x9_1 < (l0.length : Int)) = false := decide_eq_false c2
    clear c2
    obtain rfl := Option.some.inj H
    go_wp2
    go_ret
    exact ⟨by first | rfl | (simp [errW_none, errW_some] <;> rfl) | (simp [*, errW_none, errW_some] <;> rfl), by repeat (first | (with_reducible first | exact HB.out | apply qa | apply qb | apply qc) | exact HB.out)⟩
/-! ### saltuslaw16_alive: function 26 -/
def saltuslaw16_alive.f (k : Nat)  : Option (Bool) := (skip_Find.f k (⟨#[107]⟩ : ByteArray) (([(⟨3, (⟨#[]⟩ : ByteArray)⟩ : S46), (⟨5, (⟨#[]⟩ : ByteArray)⟩ : S46), (⟨9, (⟨#[]⟩ : ByteArray)⟩ : S46)] : List (S46))) 6).bind fun bt128 => (if bt128.2.2 = 0 then (if bt128.1 = 1 then (some (decide ((bt128.2.1.length : Int) > 0))) else (some false)) else (some false))
/-! ### saltusref16_Floor: function 27 -/
def saltusref16_Floor.l0 : Nat → Int → Int → List (S46) → Int → Int → Option (Int)
 | 0, _, _, _, _, _ => none
 | k + 1, x1, x5, x8, x9, x10 => if x10 < x9 then (if 0 ≤ x10 then (if x10 < (x8.length : Int) then (if ((rd_T46 x8 x10).f0) ≤ x1 then (saltusref16_Floor.l0 k x1 x10 x8 x9 (wrap64 (x10 + 1))) else (saltusref16_Floor.l0 k x1 x5 x8 x9 (wrap64 (x10 + 1)))) else (none)) else (none)) else (some x5)
def saltusref16_Floor.f (k : Nat) (l0 : List (S46)) (a1 : Int) : Option (Int) := saltusref16_Floor.l0 k a1 (-1) l0 (l0.length : Int) 0
set_option maxHeartbeats 8000000 in
set_option maxRecDepth 100000 in
theorem saltusref16_Floor.calls (k : Nat) (A0 : Option Addr) (c0 : Nat) (l0 : List (S46)) (a1 : Int) (r : Int) (w : World) (hr0 : Kd.C k46 w A0 l0.length l0) (hc0 : l0.length ≤ c0) (h : saltusref16_Floor.f k l0 a1 = some r) :
  Calls Tryd.prog 27 #[.slice A0 l0.length c0, .int .u64 a1] w fun e w' => e = .returned (.int .i64 r) ∧ Below w.heap.size w w' := by
 have hu46 := Tryd.underlying46
 have HR0 := qf hr0
 have HC0 := qf hc0
 clear hr0 hc0
 have HB := qf (Below.refl w.heap.size w)
 have H : (saltusref16_Floor.l0 k a1 (-1) l0 (l0.length : Int) 0) = some r := h
 clear h
 have H' := qf H
 clear H
 go_enter Tryd.func27, Tryd.ntmps27
 go_wp2
 go_loopg [5, 10] k (fun kq v5 v10 w' => ∃ (x5_1 : Int) (x10_1 : Int), v5 = .int .i64 x5_1 ∧ v10 = .int .i64 x10_1 ∧ Aside0 (saltusref16_Floor.l0 kq a1 x5_1 l0 (l0.length : Int) x10_1 = some r) ∧ Aside0 (kq ≤ k) ∧ Aside0 (Below w.heap.size w w'))
 case atStart => exact ⟨((-1)), (0), (by first | rfl | (simp; done) | (simp [*]; done)), (by first | rfl | (simp; done) | (simp [*]; done)), H', ⟨Nat.le_refl _⟩, ⟨by repeat (first | (with_reducible first | exact HB.out | apply qa | apply qb | apply qc) | exact HB.out)⟩⟩
 case round =>
  clear H'
  try clear c2
  try clear p2
  obtain ⟨x5_1, x10_1, rfl, rfl, HA, HK1, HB⟩ := hrel
  cases gk with
  | zero => exact absurd HA.out (by simp [saltusref16_Floor.l0])
  | succ k1 =>
   have H := HA.out
   clear HA
   simp only [saltusref16_Floor.l0] at H
   by_cases c3 : x10_1 < (l0.length : Int)
   ·rw [if_pos c3] at H
    have c3b0 : decide (x10_1 < (l0.length : Int)) = true := qj c3
    clear c3
    by_cases c4 : 0 ≤ x10_1
    ·rw [if_pos c4] at H
     have c4b0 : decide (0 ≤ x10_1) = true := qj c4
     clear c4
     by_cases c5 : x10_1 < (l0.length : Int)
     ·rw [if_pos c5] at H
      have c5b0 : decide (x10_1 < (l0.length : Int)) = true := qj c5
      clear c5
      by_cases c6 : ((rd_T46 l0 x10_1).f0) ≤ a1
      ·rw [if_pos c6] at H
       have c6b0 : decide (((rd_T46 l0 x10_1).f0) ≤ a1) = true := qj c6
       clear c6
       have H' := qf H
       clear H
       have p133 : 0 ≤ (x10_1 : Int) := qe (by first | (with_reducible assumption) | assumption)
       have q133 : x10_1 < (l0.length : Int) := qe (by first | (with_reducible assumption) | assumption)
       obtain ⟨ad133, e133, hx133_0, hx133_1⟩ := at_T46 HR0.out x10_1 p133 q133
       cases e133
       replace hx133_0 := (HB.out.cell (qd w _ hx133_0)).trans hx133_0
       replace hx133_1 := (HB.out.cell (qd w _ hx133_1)).trans hx133_1
       replace p133 := eq_true p133
       replace q133 := eq_true q133
       go_wp2_with (first | ((with_reducible refine gate_dst (N := 7) rfl ?_); refine box_event ?hg (N := 7) ?hd (cs := #[.int .u64 0, .string (⟨#[]⟩ : ByteArray)]) (t := 46) ?hr ?_; (case hd => rfl); (case hg => rfl); (case hr => first | (go_simp; done) | (go_simp; rfl)); intro gb134 hg w7 hbox hb; have n0_ := qf (below_step (by repeat (first | (with_reducible first | exact HB.out | apply qa | apply qb | apply qc) | exact HB.out)) hb); have n1_ := qf (hbox); have n2_ := qf ((by rw [hg]; exact (below_size (by repeat (first | (with_reducible first | exact HB.out | apply qa | apply qb | apply qc) | exact HB.out))) : w.heap.size ≤ gb134)); have n3_ := qf ((by rw [hg]; exact (below_size (by repeat (first | (with_reducible first | exact HB.out | apply qa | apply qb | apply qc) | exact HB.out))) : w.heap.size ≤ gb134)); clear HB; have HB := n0_; have BK134 := n1_; have GW134 := n2_; have GE134 := n3_; clear n0_ n1_ n2_ n3_; clear hb hbox hg; have hcz8_0 : w7.cell? ⟨gb134, 0, none⟩ = some (.int .u64 0) := (blk_cell BK134.out 0).trans rfl; have hcz8_1 : w7.cell? ⟨gb134, 1, none⟩ = some (.string (⟨#[]⟩ : ByteArray)) := (blk_cell BK134.out 1).trans rfl; have hfz8_0 := blk_frozen BK134.out 0; have hfz8_1 := blk_frozen BK134.out 1))
       go_roundg k1
       case measure => have := HK1.out; omega
       case rel => exact ⟨(x10_1), (wrap64 (x10_1 + 1)), (by first | rfl | (simp; done) | (simp [*]; done)), (by first | rfl | (simp; done) | (simp [*]; done)), H', ⟨by have := HK1.out; omega⟩, ⟨by repeat (first | (with_reducible first | exact HB.out | apply qa | apply qb | apply qc | refine qg ?_ GE134.out) | exact HB.out)⟩⟩
      ·rw [if_neg c6] at H
       have c6b0 : decide (((rd_T46 l0 x10_1).f0) ≤ a1) = false := decide_eq_false c6
       clear c6
       have H' := qf H
       clear H
       have p133 : 0 ≤ (x10_1 : Int) := qe (by first | (with_reducible assumption) | assumption)
       have q133 : x10_1 < (l0.length : Int) := qe (by first | (with_reducible assumption) | assumption)
       obtain ⟨ad133, e133, hx133_0, hx133_1⟩ := at_T46 HR0.out x10_1 p133 q133
       cases e133
       replace hx133_0 := (HB.out.cell (qd w _ hx133_0)).trans hx133_0
       replace hx133_1 := (HB.out.cell (qd w _ hx133_1)).trans hx133_1
       replace p133 := eq_true p133
       replace q133 := eq_true q133
       go_wp2_with (first | ((with_reducible refine gate_dst (N := 7) rfl ?_); refine box_event ?hg (N := 7) ?hd (cs := #[.int .u64 0, .string (⟨#[]⟩ : ByteArray)]) (t := 46) ?hr ?_; (case hd => rfl); (case hg => rfl); (case hr => first | (go_simp; done) | (go_simp; rfl)); intro gb134 hg w9 hbox hb; have n0_ := qf (below_step (by repeat (first | (with_reducible first | exact HB.out | apply qa | apply qb | apply qc) | exact HB.out)) hb); have n1_ := qf (hbox); have n2_ := qf ((by rw [hg]; exact (below_size (by repeat (first | (with_reducible first | exact HB.out | apply qa | apply qb | apply qc) | exact HB.out))) : w.heap.size ≤ gb134)); have n3_ := qf ((by rw [hg]; exact (below_size (by repeat (first | (with_reducible first | exact HB.out | apply qa | apply qb | apply qc) | exact HB.out))) : w.heap.size ≤ gb134)); clear HB; have HB := n0_; have BK134 := n1_; have GW134 := n2_; have GE134 := n3_; clear n0_ n1_ n2_ n3_; clear hb hbox hg; have hcz10_0 : w9.cell? ⟨gb134, 0, none⟩ = some (.int .u64 0) := (blk_cell BK134.out 0).trans rfl; have hcz10_1 : w9.cell? ⟨gb134, 1, none⟩ = some (.string (⟨#[]⟩ : ByteArray)) := (blk_cell BK134.out 1).trans rfl; have hfz10_0 := blk_frozen BK134.out 0; have hfz10_1 := blk_frozen BK134.out 1))
       go_roundg k1
       case measure => have := HK1.out; omega
       case rel => exact ⟨(x5_1), (wrap64 (x10_1 + 1)), (by first | rfl | (simp; done) | (simp [*]; done)), (by first | rfl | (simp; done) | (simp [*]; done)), H', ⟨by have := HK1.out; omega⟩, ⟨by repeat (first | (with_reducible first | exact HB.out | apply qa | apply qb | apply qc | refine qg ?_ GE134.out) | exact HB.out)⟩⟩
     ·rw [if_neg c5] at H
      exact absurd H (by simp)
    ·rw [if_neg c4] at H
     exact absurd H (by simp)
   ·rw [if_neg c3] at H
    have c3b0 : decide (x10_1 < (l0.length : Int)) = false := decide_eq_false c3
    clear c3
    obtain rfl := Option.some.inj H
    go_wp2
    go_ret
    exact ⟨by first | rfl | (simp [errW_none, errW_some] <;> rfl) | (simp [*, errW_none, errW_some] <;> rfl), by repeat (first | (with_reducible first | exact HB.out | apply qa | apply qb | apply qc) | exact HB.out)⟩
/-! ### saltusref16_HopsSame: function 28 -/
def saltusref16_HopsSame.l0 : Nat → List (S48) → List (S48) → Int → Int → Option (Bool)
 | 0, _, _, _, _ => none
 | k + 1, x0, x1, x12, x13 => if x13 < x12 then (if 0 ≤ x13 then (if x13 < (x0.length : Int) then (if x13 < (x1.length : Int) then (if (!(((rd_T48 x0 x13).f0) == ((rd_T48 x1 x13).f0)) || (!(((rd_T48 x0 x13).f1) == ((rd_T48 x1 x13).f1)))) = true then (some false) else (saltusref16_HopsSame.l0 k x0 x1 x12 (wrap64 (x13 + 1)))) else (none)) else (none)) else (none)) else (some true)
def saltusref16_HopsSame.f (k : Nat) (l0 : List (S48)) (l1 : List (S48)) : Option (Bool) := if (l0.length : Int) = (l1.length : Int) then (saltusref16_HopsSame.l0 k l0 l1 (l0.length : Int) 0) else (some false)
/-! ### saltusref15_Height: function 18 -/
def saltusref15_Height.l0 : Nat → Int → Int → Option (Int)
 | 0, _, _ => none
 | k + 1, x5, x6 => if (Int.tmod x5 2) = 0 then (if x6 < 8 then (saltusref15_Height.l0 k (IntKind.u64.wrap (Int.tdiv x5 2)) (wrap64 (x6 + 1))) else (some x6)) else (some x6)
def saltusref15_Height.f (k : Nat) (a0 : ByteArray) (a1 : Int) : Option (Int) := (saltusref02_Low.f a1 8).bind fun t137 => ((saltusref10_Word.f a0 t137).bind fun t138 => (saltusref15_Height.l0 k t138 1))
set_option maxHeartbeats 8000000 in
set_option maxRecDepth 100000 in
theorem saltusref15_Height.calls (k : Nat) (a0 : ByteArray) (a1 : Int) (r : Int) (w : World) (h : saltusref15_Height.f k a0 a1 = some r) :
  Calls Tryd.prog 18 #[.string a0, .int .u64 a1] w fun e w' => e = .returned (.int .i64 r) ∧ Below w.heap.size w w' := by
 have HB := qf (Below.refl w.heap.size w)
 have H : ((saltusref02_Low.f a1 8).bind fun t137 => ((saltusref10_Word.f a0 t137).bind fun t138 => (saltusref15_Height.l0 k t138 1))) = some r := h
 clear h
 replace H := qi H
 obtain ⟨t137, A30, H⟩ := H
 (try dsimp only at H)
 have A3 := qf A30
 clear A30
 replace H := qi H
 obtain ⟨t138, A40, H⟩ := H
 (try dsimp only at H)
 have A4 := qf A40
 clear A40
 have H' := qf H
 clear H
 go_enter Tryd.func18, Tryd.ntmps18
 go_wp2_with (first | ((with_reducible refine gate_callee (f := 64) rfl ?_); refine goesL_ (some 9) rfl rfl Tryd.func64 (by kernel_rfl) rfl #[.int .u64 a1, .int .i64 8] rfl (by (try simp only [List.map_toArray, List.map_cons, List.map_nil]); first | done | rfl | (simp only [List.length_drop, qw]; rfl)) ?_; (with_reducible refine (saltusref02_Low.calls a1 8 t137 _ A3.out).mono ?_); rintro e w5 ⟨rfl, hb⟩; refine ⟨_, rfl, ?_⟩; have n0_ := qf (below_step (by repeat (first | (with_reducible first | exact HB.out | apply qa | apply qb | apply qc) | exact HB.out)) hb); clear HB; have HB := n0_; clear n0_; (try clear hb); (try clear hb2); (try clear hk); (try clear hi)) | ((with_reducible refine gate_callee (f := 63) rfl ?_); refine goesL_ (some 10) rfl rfl Tryd.func63 (by kernel_rfl) rfl #[.string a0, .string t137] rfl (by (try simp only [List.map_toArray, List.map_cons, List.map_nil]); first | done | rfl | (simp only [List.length_drop, qw]; rfl)) ?_; (with_reducible refine (saltusref10_Word.calls a0 t137 t138 _ A4.out).mono ?_); rintro e w6 ⟨rfl, hb⟩; refine ⟨_, rfl, ?_⟩; have n0_ := qf (below_step (by repeat (first | (with_reducible first | exact HB.out | apply qa | apply qb | apply qc) | exact HB.out)) hb); clear HB; have HB := n0_; clear n0_; (try clear hb); (try clear hb2); (try clear hk); (try clear hi)))
 go_loopg [5, 6] k (fun kq v5 v6 w' => ∃ (x5_1 : Int) (x6_1 : Int), v5 = .int .u64 x5_1 ∧ v6 = .int .i64 x6_1 ∧ Aside0 (saltusref15_Height.l0 kq x5_1 x6_1 = some r) ∧ Aside0 (kq ≤ k) ∧ Aside0 (Below w.heap.size w w'))
 case atStart => exact ⟨(t138), (1), (by first | rfl | (simp; done) | (simp [*]; done)), (by first | rfl | (simp; done) | (simp [*]; done)), H', ⟨Nat.le_refl _⟩, ⟨by repeat (first | (with_reducible first | exact HB.out | apply qa | apply qb | apply qc) | exact HB.out)⟩⟩
 case round =>
  clear H'
  try clear c1
  try clear p2
  try clear c6
  obtain ⟨x5_1, x6_1, rfl, rfl, HA, HK1, HB⟩ := hrel
  cases gk with
  | zero => exact absurd HA.out (by simp [saltusref15_Height.l0])
  | succ k1 =>
   have H := HA.out
   clear HA
   simp only [saltusref15_Height.l0] at H
   by_cases c7 : (Int.tmod x5_1 2) = 0
   ·rw [if_pos c7] at H
    have c7b0 : ((Int.tmod x5_1 2) == 0) = true := beq_iff_eq.mpr c7
    have c7b1 : ((Int.tmod x5_1 2) != 0) = false := bne_eq_false_iff_eq.mpr c7
    clear c7
    by_cases c8 : x6_1 < 8
    ·rw [if_pos c8] at H
     have c8b0 : decide (x6_1 < 8) = true := qj c8
     clear c8
     have H' := qf H
     clear H
     go_wp2
     go_roundg k1
     case measure => have := HK1.out; omega
     case rel => exact ⟨(IntKind.u64.wrap (Int.tdiv x5_1 2)), (wrap64 (x6_1 + 1)), (by first | rfl | (simp; done) | (simp [*]; done)), (by first | rfl | (simp; done) | (simp [*]; done)), H', ⟨by have := HK1.out; omega⟩, ⟨by repeat (first | (with_reducible first | exact HB.out | apply qa | apply qb | apply qc) | exact HB.out)⟩⟩
    ·rw [if_neg c8] at H
     have c8b0 : decide (x6_1 < 8) = false := decide_eq_false c8
     clear c8
     obtain rfl := Option.some.inj H
     go_wp2
     go_ret
     exact ⟨by first | rfl | (simp [errW_none, errW_some] <;> rfl) | (simp [*, errW_none, errW_some] <;> rfl), by repeat (first | (with_reducible first | exact HB.out | apply qa | apply qb | apply qc) | exact HB.out)⟩
   ·rw [if_neg c7] at H
    have c7b0 : ((Int.tmod x5_1 2) == 0) = false := beq_eq_false_iff_ne.mpr c7
    have c7b1 : ((Int.tmod x5_1 2) != 0) = true := bne_iff_ne.mpr c7
    obtain rfl := Option.some.inj H
    go_wp2
    go_ret
    exact ⟨by first | rfl | (simp [errW_none, errW_some] <;> rfl) | (simp [*, errW_none, errW_some] <;> rfl), by repeat (first | (with_reducible first | exact HB.out | apply qa | apply qb | apply qc) | exact HB.out)⟩
/-! ### saltusref15_Heights: function 21 -/
def saltusref15_Heights.l0 : Nat → ByteArray → List Int → List Int → Int → Int → Option (List Int)
 | 0, _, _, _, _, _ => none
 | k + 1, x0, x5, x9, x10, x11 => if x11 < x10 then (if 0 ≤ x11 then (if x11 < (x9.length : Int) then ((saltusref15_Height.f k x0 (rd x9 x11)).bind fun t143 => (if x5.length < 17592186044416 then (saltusref15_Heights.l0 k x0 (x5 ++ [t143]) x9 x10 (wrap64 (x11 + 1))) else (none))) else (none)) else (none)) else (some x5)
def saltusref15_Heights.f (k : Nat) (a0 : ByteArray) (l1 : List Int) : Option (List Int) := saltusref15_Heights.l0 k a0 (([] : List Int)) l1 (l1.length : Int) 0
set_option maxHeartbeats 8000000 in
set_option maxRecDepth 100000 in
theorem saltusref15_Heights.calls (k : Nat) (a0 : ByteArray) (A1 : Option Addr) (c1 : Nat) (l1 : List Int) (r : List Int) (w : World) (hr1 : Kd.C (Kd.int .u64) w A1 l1.length l1) (hc1 : l1.length ≤ c1) (h : saltusref15_Heights.f k a0 l1 = some r) :
  Calls Tryd.prog 21 #[.string a0, .slice A1 l1.length c1] w fun e w' => ∃ v0_ : Value, e = .returned (v0_) ∧ Kd.R (Kd.int .i64) 3 w' w.heap.size (fun _ => True) v0_ r ∧ Below w.heap.size w w' := by
 have HR1 := qf hr1
 have HC1 := qf hc1
 clear hr1 hc1
 have HB := qf (Below.refl w.heap.size w)
 have H : (saltusref15_Heights.l0 k a0 (([] : List Int)) l1 (l1.length : Int) 0) = some r := h
 clear h
 obtain ⟨y139, hy139⟩ : ∃ y_ : List Int, y_ = (([] : List Int)) := ⟨_, rfl⟩
 replace H : (saltusref15_Heights.l0 k a0 y139 l1 (l1.length : Int) 0) = some r := by first | (rw [hy139]; with_reducible exact H) | (have H2_ := (qv _ _).symm.trans H; rw [hy139]; with_reducible exact H2_) | (have H2_ := (qv _ _).symm.trans H; with_reducible exact H2_) | with_reducible exact H | (rw [hy139]; exact H) | exact H
 have Ny139 := qf hy139
 clear hy139
 have H' := qf H
 clear H
 go_enter Tryd.func21, Tryd.ntmps21
 go_wp2_with (first | ((with_reducible refine gate_dst (N := 8) rfl ?_); refine Kd.R_lit (Kd.int .i64) _ 3 ?hg (N := 8) ?hd (xs := ([] : List Int)) (inner := []) (ok := fun _ => True) (okp := fun _ => True) ?hr ?hp (fun _ hk => hk) trivial (Below.refl _ _) (Nat.le_refl _) (by simp) ?_; (case hd => rfl); (case hg => rfl); (case hr => first | (go_simp; done) | (go_simp; rfl)); (case hp => exact (Reps.none _ _)); intro v140 w3 ho4 hb hg_ hnew_; clear hg_ hnew_; (first | rw [← Ny139.out] at ho4 | (simp only [Int.reduceToNat] at ho4; rw [← Ny139.out] at ho4)); have n0_ := qf (Kd.R_lower ho4 (below_size (by repeat (first | (with_reducible first | exact HB.out | apply qa | apply qb | apply qc) | exact HB.out)))); have n1_ := qf (below_step (by repeat (first | (with_reducible first | exact HB.out | apply qa | apply qb | apply qc) | exact HB.out)) hb); clear HB; have HO141 := n0_; have HB := n1_; clear n0_ n1_; clear hb ho4))
 go_loopg [5, 11] k (fun kq v5 v11 w' => ∃ (x5_1 : List Int) (x11_1 : Int), v11 = .int .i64 x11_1 ∧ Aside0 (saltusref15_Heights.l0 kq a0 x5_1 l1 (l1.length : Int) x11_1 = some r) ∧ Aside0 (kq ≤ k) ∧ Aside0 (Kd.R (Kd.int .i64) 3 w' w.heap.size (fun _ => True) v5 x5_1) ∧ Aside0 (Below w.heap.size w w'))
 case atStart => exact ⟨(y139), (0), (by first | rfl | (simp; done) | (simp [*]; done)), H', ⟨Nat.le_refl _⟩, ⟨by (with_reducible repeat (first | apply Kd.R_alloc | apply Kd.R_drewN | apply Kd.R_drew)); exact HO141.out⟩, ⟨by repeat (first | (with_reducible first | exact HB.out | apply qa | apply qb | apply qc) | exact HB.out)⟩⟩
 case round =>
  clear H'
  try clear c1
  try clear c2
  try clear p2
  obtain ⟨x5_1, x11_1, rfl, HA, HK1, HO_5, HB⟩ := hrel
  cases gk with
  | zero => exact absurd HA.out (by simp [saltusref15_Heights.l0])
  | succ k1 =>
   have H := HA.out
   clear HA
   simp only [saltusref15_Heights.l0] at H
   by_cases c5 : x11_1 < (l1.length : Int)
   ·rw [if_pos c5] at H
    have c5b0 : decide (x11_1 < (l1.length : Int)) = true := qj c5
    clear c5
    by_cases c6 : 0 ≤ x11_1
    ·rw [if_pos c6] at H
     have c6b0 : decide (0 ≤ x11_1) = true := qj c6
     clear c6
     by_cases c7 : x11_1 < (l1.length : Int)
     ·rw [if_pos c7] at H
      have c7b0 : decide (x11_1 < (l1.length : Int)) = true := qj c7
      clear c7
      replace H := qi H
      obtain ⟨t143, A80, H⟩ := H
      (try dsimp only at H)
      have A8 := qf A80
      clear A80
      by_cases c9 : x5_1.length < 17592186044416
      ·rw [if_pos c9] at H
       have LMc9 := qf c9
       clear c9
       obtain ⟨y144, hy144⟩ : ∃ y_ : List Int, y_ = (x5_1 ++ [t143]) := ⟨_, rfl⟩
       replace H : (saltusref15_Heights.l0 k1 a0 y144 l1 (l1.length : Int) (wrap64 (x11_1 + 1))) = some r := by first | (rw [hy144]; with_reducible exact H) | (have H2_ := (qv _ _).symm.trans H; rw [hy144]; with_reducible exact H2_) | (have H2_ := (qv _ _).symm.trans H; with_reducible exact H2_) | with_reducible exact H | (rw [hy144]; exact H) | exact H
       have Ny144 := qf hy144
       clear hy144
       have H' := qf H
       clear H
       have p142 : 0 ≤ (x11_1 : Int) := qe (by first | (with_reducible assumption) | assumption)
       have q142 : x11_1 < (l1.length : Int) := qe (by first | (with_reducible assumption) | assumption)
       obtain ⟨ad142, e142, hx142_0⟩ := Kd.at_int HR1.out x11_1 p142 q142
       cases e142
       replace hx142_0 := (HB.out.cell (qd w _ hx142_0)).trans hx142_0
       replace p142 := eq_true p142
       replace q142 := eq_true q142
       go_wp2_with (first | ((with_reducible refine gate_callee (f := 18) rfl ?_); refine goesL_ (some 18) rfl rfl Tryd.func18 (by kernel_rfl) rfl #[.string a0, .int .u64 (rd l1 x11_1)] rfl (by (try simp only [List.map_toArray, List.map_cons, List.map_nil]); first | done | rfl | (simp only [List.length_drop, qw]; rfl)) ?_; (with_reducible refine (saltusref15_Height.calls k1 a0 (rd l1 x11_1) t143 _ A8.out).mono ?_); rintro e w10 ⟨rfl, hb⟩; refine ⟨_, rfl, ?_⟩; have n0_ := qf (Kd.R_below (by (with_reducible repeat (first | apply Kd.R_alloc | apply Kd.R_drewN | apply Kd.R_drew)); exact HO_5.out) hb); have n1_ := qf (below_step (by repeat (first | (with_reducible first | exact HB.out | apply qa | apply qb | apply qc) | exact HB.out)) hb); clear HO_5; clear HB; have HO_5 := n0_; have HB := n1_; clear n0_ n1_; (try clear hb); (try clear hb2); (try clear hk); (try clear hi)) | ((with_reducible refine gate_builtin (b := .append) (xs := #[.tmp 15, .tmp 19]) rfl ?_); at_builtin; refine Kd.R_append (Kd.int .i64) (w0 := w) w.heap.size rfl (.tmp 15) (.tmp 19) 27 3 (.int .i64 0) 8 rfl Tryd.underlying27 info3 rfl (by decide) (by omega) u5 x5_1 t143 [.int .i64 t143] (fun _ => True) (fun _ => False) rfl rfl ?aP (fun _ hk => hk.elim) ?aF ?aO ?aB ?aS ?aL ?_; (case aP => exact rfl); (case aB => exact (by repeat (first | (with_reducible first | exact HB.out | apply qa | apply qb | apply qc) | exact HB.out))); (case aF => exact (fun _ _ => trivial)); (case aO => exact (by (with_reducible repeat (first | apply Kd.R_alloc | apply Kd.R_drewN | apply Kd.R_drew)); exact HO_5.out)); (case aS => exact (below_size (by repeat (first | (with_reducible first | exact HB.out | apply qa | apply qb | apply qc) | exact HB.out)))); (case aL => have := LMc9.out; omega); intro v145 w11 ho hb hg hat; rw [← Ny144.out] at ho; have n0_ := qf (hb); have n1_ := qf (ho); clear HB; clear HO_5; have HB := n0_; have HO146 := n1_; clear n0_ n1_; clear ho hb hg hat))
       go_roundg k1
       case measure => have := HK1.out; omega
       case rel => exact ⟨(y144), (wrap64 (x11_1 + 1)), (by first | rfl | (simp; done) | (simp [*]; done)), H', ⟨by have := HK1.out; omega⟩, ⟨by (with_reducible repeat (first | apply Kd.R_alloc | apply Kd.R_drewN | apply Kd.R_drew)); exact HO146.out⟩, ⟨by repeat (first | (with_reducible first | exact HB.out | apply qa | apply qb | apply qc) | exact HB.out)⟩⟩
      ·rw [if_neg c9] at H
       exact absurd H (by simp)
     ·rw [if_neg c7] at H
      exact absurd H (by simp)
    ·rw [if_neg c6] at H
     exact absurd H (by simp)
   ·rw [if_neg c5] at H
    have c5b0 : decide (x11_1 < (l1.length : Int)) = false := decide_eq_false c5
    clear c5
    obtain rfl := Option.some.inj H
    go_wp2
    go_ret
    exact ⟨_, by first | rfl | (simp [errW_none, errW_some] <;> rfl) | (simp [*, errW_none, errW_some] <;> rfl), by (with_reducible repeat (first | apply Kd.R_alloc | apply Kd.R_drewN | apply Kd.R_drew)); exact HO_5.out, by repeat (first | (with_reducible first | exact HB.out | apply qa | apply qb | apply qc) | exact HB.out)⟩
end Go.Proofs.YtolbhliepkcihaaDoor.QSF
end
section
namespace Go.Proofs.YtolbhliepkcihaaDoor.QSF
open Go.RowKit Kinds YtolbhliepkcihaaDoorW.PrintWords YtolbhliepkcihaaDoorW.PrintLast YtolbhliepkcihaaDoorW.PrintMore
attribute [local go_sem] max2_int min2_int max_two min_two max_three min_three max_four min_four   -- for this text's walks alone
set_option linter.unusedVariables false
set_option linter.unusedSimpArgs false
/-! ### saltusref16_Keys: function 66 -/
def saltusref16_Keys.l0 : Nat → List Int → List (S46) → Int → Int → Option (List Int)
 | 0, _, _, _, _ => none
 | k + 1, x3, x7, x8, x9 => if x9 < x8 then (if 0 ≤ x9 then (if x9 < (x7.length : Int) then (if x3.length < 17592186044416 then (saltusref16_Keys.l0 k (x3 ++ [(rd_T46 x7 x9).f0]) x7 x8 (wrap64 (x9 + 1))) else (none)) else (none)) else (none)) else (some x3)
def saltusref16_Keys.f (k : Nat) (l0 : List (S46)) : Option (List Int) := saltusref16_Keys.l0 k (([] : List Int)) l0 (l0.length : Int) 0
set_option maxHeartbeats 8000000 in
set_option maxRecDepth 100000 in
theorem saltusref16_Keys.calls (k : Nat) (A0 : Option Addr) (c0 : Nat) (l0 : List (S46)) (r : List Int) (w : World) (hr0 : Kd.C k46 w A0 l0.length l0) (hc0 : l0.length ≤ c0) (h : saltusref16_Keys.f k l0 = some r) :
  Calls Tryd.prog 66 #[.slice A0 l0.length c0] w fun e w' => ∃ v0_ : Value, e = .returned (v0_) ∧ Kd.R (Kd.int .u64) 22 w' w.heap.size (fun _ => True) v0_ r ∧ Below w.heap.size w w' := by
 have hu46 := Tryd.underlying46
 have HR0 := qf hr0
 have HC0 := qf hc0
 clear hr0 hc0
 have HB := qf (Below.refl w.heap.size w)
 have H : (saltusref16_Keys.l0 k (([] : List Int)) l0 (l0.length : Int) 0) = some r := h
 clear h
 obtain ⟨y147, hy147⟩ : ∃ y_ : List Int, y_ = (([] : List Int)) := ⟨_, rfl⟩
 replace H : (saltusref16_Keys.l0 k y147 l0 (l0.length : Int) 0) = some r := by first | (rw [hy147]; with_reducible exact H) | (have H2_ := (qv _ _).symm.trans H; rw [hy147]; with_reducible exact H2_) | (have H2_ := (qv _ _).symm.trans H; with_reducible exact H2_) | with_reducible exact H | (rw [hy147]; exact H) | exact H
 have Ny147 := qf hy147
 clear hy147
 have H' := qf H
 clear H
 go_enter Tryd.func66, Tryd.ntmps66
 go_wp2_with (first | ((with_reducible refine gate_dst (N := 6) rfl ?_); refine Kd.R_lit (Kd.int .u64) _ 22 ?hg (N := 6) ?hd (xs := ([] : List Int)) (inner := []) (ok := fun _ => True) (okp := fun _ => True) ?hr ?hp (fun _ hk => hk) trivial (Below.refl _ _) (Nat.le_refl _) (by simp) ?_; (case hd => rfl); (case hg => rfl); (case hr => first | (go_simp; done) | (go_simp; rfl)); (case hp => exact (Reps.none _ _)); intro v148 w2 ho3 hb hg_ hnew_; clear hg_ hnew_; (first | rw [← Ny147.out] at ho3 | (simp only [Int.reduceToNat] at ho3; rw [← Ny147.out] at ho3)); have n0_ := qf (Kd.R_lower ho3 (below_size (by repeat (first | (with_reducible first | exact HB.out | apply qa | apply qb | apply qc) | exact HB.out)))); have n1_ := qf (below_step (by repeat (first | (with_reducible first | exact HB.out | apply qa | apply qb | apply qc) | exact HB.out)) hb); clear HB; have HO149 := n0_; have HB := n1_; clear n0_ n1_; clear hb ho3))
 go_loopg [3, 9] k (fun kq v3 v9 w' => ∃ (x3_1 : List Int) (x9_1 : Int), v9 = .int .i64 x9_1 ∧ Aside0 (saltusref16_Keys.l0 kq x3_1 l0 (l0.length : Int) x9_1 = some r) ∧ Aside0 (kq ≤ k) ∧ Aside0 (Kd.R (Kd.int .u64) 22 w' w.heap.size (fun _ => True) v3 x3_1) ∧ Aside0 (Below w.heap.size w w'))
 case atStart => exact ⟨(y147), (0), (by first | rfl | (simp; done) | (simp [*]; done)), H', ⟨Nat.le_refl _⟩, ⟨by (with_reducible repeat (first | apply Kd.R_alloc | apply Kd.R_drewN | apply Kd.R_drew)); exact HO149.out⟩, ⟨by repeat (first | (with_reducible first | exact HB.out | apply qa | apply qb | apply qc) | exact HB.out)⟩⟩
 case round =>
  clear H'
  try clear p2
  obtain ⟨x3_1, x9_1, rfl, HA, HK1, HO_3, HB⟩ := hrel
  cases gk with
  | zero => exact absurd HA.out (by simp [saltusref16_Keys.l0])
  | succ k1 =>
   have H := HA.out
   clear HA
   simp only [saltusref16_Keys.l0] at H
   by_cases c4 : x9_1 < (l0.length : Int)
   ·rw [if_pos c4] at H
    have c4b0 : decide (x9_1 < (l0.length : Int)) = true := qj c4
    clear c4
    by_cases c5 : 0 ≤ x9_1
    ·rw [if_pos c5] at H
     have c5b0 : decide (0 ≤ x9_1) = true := qj c5
     clear c5
     by_cases c6 : x9_1 < (l0.length : Int)
     ·rw [if_pos c6] at H
      have c6b0 : decide (x9_1 < (l0.length : Int)) = true := qj c6
      clear c6
      by_cases c7 : x3_1.length < 17592186044416
      ·rw [if_pos c7] at H
       have LMc7 := qf c7
       clear c7
       obtain ⟨y152, hy152⟩ : ∃ y_ : List Int, y_ = (x3_1 ++ [(rd_T46 l0 x9_1).f0]) := ⟨_, rfl⟩
       replace H : (saltusref16_Keys.l0 k1 y152 l0 (l0.length : Int) (wrap64 (x9_1 + 1))) = some r := by first | (rw [hy152]; with_reducible exact H) | (have H2_ := (qv _ _).symm.trans H; rw [hy152]; with_reducible exact H2_) | (have H2_ := (qv _ _).symm.trans H; with_reducible exact H2_) | with_reducible exact H | (rw [hy152]; exact H) | exact H
       have Ny152 := qf hy152
       clear hy152
       have H' := qf H
       clear H
       have p150 : 0 ≤ (x9_1 : Int) := qe (by first | (with_reducible assumption) | assumption)
       have q150 : x9_1 < (l0.length : Int) := qe (by first | (with_reducible assumption) | assumption)
       obtain ⟨ad150, e150, hx150_0, hx150_1⟩ := at_T46 HR0.out x9_1 p150 q150
       cases e150
       replace hx150_0 := (HB.out.cell (qd w _ hx150_0)).trans hx150_0
       replace hx150_1 := (HB.out.cell (qd w _ hx150_1)).trans hx150_1
       replace p150 := eq_true p150
       replace q150 := eq_true q150
       go_wp2_with (first | ((with_reducible refine gate_dst (N := 5) rfl ?_); refine box_event ?hg (N := 5) ?hd (cs := #[.int .u64 0, .string (⟨#[]⟩ : ByteArray)]) (t := 46) ?hr ?_; (case hd => rfl); (case hg => rfl); (case hr => first | (go_simp; done) | (go_simp; rfl)); intro gb151 hg w8 hbox hb; have n0_ := qf (Kd.R_below (by (with_reducible repeat (first | apply Kd.R_alloc | apply Kd.R_drewN | apply Kd.R_drew)); exact HO_3.out) hb); have n1_ := qf (below_step (by repeat (first | (with_reducible first | exact HB.out | apply qa | apply qb | apply qc) | exact HB.out)) hb); have n2_ := qf (hbox); have n3_ := qf ((by rw [hg]; exact (below_size (by repeat (first | (with_reducible first | exact HB.out | apply qa | apply qb | apply qc) | exact HB.out))) : w.heap.size ≤ gb151)); have n4_ := qf ((by rw [hg]; exact (below_size (by repeat (first | (with_reducible first | exact HB.out | apply qa | apply qb | apply qc) | exact HB.out))) : w.heap.size ≤ gb151)); clear HO_3; clear HB; have HO_3 := n0_; have HB := n1_; have BK151 := n2_; have GW151 := n3_; have GE151 := n4_; clear n0_ n1_ n2_ n3_ n4_; clear hb hbox hg; have hcz9_0 : w8.cell? ⟨gb151, 0, none⟩ = some (.int .u64 0) := (blk_cell BK151.out 0).trans rfl; have hcz9_1 : w8.cell? ⟨gb151, 1, none⟩ = some (.string (⟨#[]⟩ : ByteArray)) := (blk_cell BK151.out 1).trans rfl; have hfz9_0 := blk_frozen BK151.out 0; have hfz9_1 := blk_frozen BK151.out 1) | ((with_reducible refine gate_builtin (b := .append) (xs := #[.tmp 13, .tmp 16]) rfl ?_); at_builtin; refine Kd.R_append (Kd.int .u64) (w0 := w) w.heap.size rfl (.tmp 13) (.tmp 16) 23 22 (.int .u64 0) 8 rfl Tryd.underlying23 info22 rfl (by decide) (by omega) u3 x3_1 ((rd_T46 l0 x9_1).f0) [.int .u64 ((rd_T46 l0 x9_1).f0)] (fun _ => True) (fun _ => False) rfl (by first | (go_simp; done) | (go_simp; rfl)) ?aP (fun _ hk => hk.elim) ?aF ?aO ?aB ?aS ?aL ?_; (case aP => exact rfl); (case aB => exact (by repeat (first | (with_reducible first | exact HB.out | apply qa | apply qb | apply qc | refine qg ?_ GE151.out) | exact HB.out))); (case aF => exact (fun _ _ => trivial)); (case aO => exact (by (with_reducible repeat (first | apply Kd.R_alloc | apply Kd.R_drewN | apply Kd.R_drew)); exact Kd.R_mono (Kd.R_far (p := ⟨gb151, 1, none⟩) (Kd.R_far (p := ⟨gb151, 0, none⟩) (Kd.R_types HO_3.out BK151.out (by decide)) (fun _ hk => hk.2) (.int .u64 ((rd_T46 l0 x9_1).f0))) (fun _ hk => hk.2) (.string ((rd_T46 l0 x9_1).f1))) (fun _ hk => trivial))); (case aS => exact (below_size (by repeat (first | (with_reducible first | exact HB.out | apply qa | apply qb | apply qc | refine qg ?_ GE151.out) | exact HB.out)))); (case aL => have := LMc7.out; omega); intro v153 w10 ho hb hg hat; rw [← Ny152.out] at ho; have n0_ := qf (blk_grown (g := gb151) (o := .cells #[.int .u64 ((rd_T46 l0 x9_1).f0), .string ((rd_T46 l0 x9_1).f1)] 46 (0, 0)) (by (with_reducible repeat (first | refine blk_drewN ?_ _ | refine blk_drew ?_ | refine qh ?_ _)); refine blk_put (cs := #[.int .u64 ((rd_T46 l0 x9_1).f0), .string (⟨#[]⟩ : ByteArray)]) ?_ 1 _ rfl; (with_reducible repeat (first | refine blk_drewN ?_ _ | refine blk_drew ?_ | refine qh ?_ _)); refine blk_put (cs := #[.int .u64 0, .string (⟨#[]⟩ : ByteArray)]) ?_ 0 _ rfl; (with_reducible repeat (first | refine blk_drewN ?_ _ | refine blk_drew ?_ | refine qh ?_ _)); exact BK151.out) hg (Kd.R_ne HO_3.out BK151.out (by decide))); have n1_ := qf (hb); have n2_ := qf (ho); clear BK151; clear HB; clear HO_3; have BK151 := n0_; have HB := n1_; have HO154 := n2_; clear n0_ n1_ n2_; clear ho hb hg hat))
       go_roundg k1
       case measure => have := HK1.out; omega
       case rel => exact ⟨(y152), (wrap64 (x9_1 + 1)), (by first | rfl | (simp; done) | (simp [*]; done)), H', ⟨by have := HK1.out; omega⟩, ⟨by (with_reducible repeat (first | apply Kd.R_alloc | apply Kd.R_drewN | apply Kd.R_drew)); exact HO154.out⟩, ⟨by repeat (first | (with_reducible first | exact HB.out | apply qa | apply qb | apply qc | refine qg ?_ GE151.out) | exact HB.out)⟩⟩
      ·rw [if_neg c7] at H
       exact absurd H (by simp)
     ·rw [if_neg c6] at H
      exact absurd H (by simp)
    ·rw [if_neg c5] at H
     exact absurd H (by simp)
   ·rw [if_neg c4] at H
    have c4b0 : decide (x9_1 < (l0.length : Int)) = false := decide_eq_false c4
    clear c4
    obtain rfl := Option.some.inj H
    go_wp2
    go_ret
    exact ⟨_, by first | rfl | (simp [errW_none, errW_some] <;> rfl) | (simp [*, errW_none, errW_some] <;> rfl), by (with_reducible repeat (first | apply Kd.R_alloc | apply Kd.R_drewN | apply Kd.R_drew)); exact HO_3.out, by repeat (first | (with_reducible first | exact HB.out | apply qa | apply qb | apply qc) | exact HB.out)⟩
/-! ### saltusref16_next: function 67 -/
def saltusref16_next.l0 : Nat → List Int → Int → Int → Option (Int)
 | 0, _, _, _ => none
 | k + 1, x0, x2, x7 => if x7 < (x0.length : Int) then (if 0 ≤ x7 then (if (rd x0 x7) > x2 then (some x7) else (saltusref16_next.l0 k x0 x2 (wrap64 (x7 + 1)))) else (none)) else (some (x0.length : Int))
def saltusref16_next.f (k : Nat) (l0 : List Int) (a1 : Int) (a2 : Int) : Option (Int) := saltusref16_next.l0 k l0 a2 (wrap64 (a1 + 1))
/-! ### saltusref16_Hops: function 29 -/
mutual
def saltusref16_Hops.l0 : Nat → List (S46) → Int → List (S48) → Int → List Int → Int → Option ((List (S48)))
 | 0, _, _, _, _, _, _ => none
 | k + 1, x1, x2, x7, x8, x9, x10 => if x10 ≥ 0 then (saltusref16_Hops.l1 k x1 x2 x7 x8 x9 x10) else (some x7)
def saltusref16_Hops.l1 : Nat → List (S46) → Int → List (S48) → Int → List Int → Int → Option ((List (S48)))
 | 0, _, _, _, _, _, _ => none
 | k + 1, x1, x2, x7, x8, x9, x10 => (saltusref16_next.f k x9 x8 x10).bind fun t165 => (if t165 < (x1.length : Int) then ((saltusref16_next.f k x9 x8 x10).bind fun t166 => (if 0 ≤ t166 then (if t166 < (x1.length : Int) then (if ((rd_T46 x1 t166).f0) ≤ x2 then ((saltusref16_next.f k x9 x8 x10).bind fun t168 => (if x7.length < 8796093022208 then (saltusref16_Hops.l1 k x1 x2 (x7 ++ [(⟨x10, t168⟩ : S48)]) t168 x9 x10) else (none))) else (saltusref16_Hops.l0 k x1 x2 x7 x8 x9 (wrap64 (x10 - 1)))) else (none)) else (none))) else (saltusref16_Hops.l0 k x1 x2 x7 x8 x9 (wrap64 (x10 - 1))))
end
def saltusref16_Hops.f (k : Nat) (a0 : ByteArray) (l1 : List (S46)) (a2 : Int) : Option ((List (S48))) := (saltusref16_Keys.f k l1).bind fun t159 => ((saltusref15_Heights.f k a0 t159).bind fun t162 => (saltusref16_Hops.l0 k l1 a2 (([] : List (S48))) (-1) t162 7))
/-! ### saltuslaw16_SkipFinds: function 6 -/
def saltuslaw16_SkipFinds.j0 : Nat → ByteArray → List (S46) → Int → Int → List (S48) → Int → Bool → Option (Bool)
 | 0, _, _, _, _, _, _, _ => none
 | k + 1, x0, x1, x2, x7, x8, x9, x10 => (saltusref16_Right.f k x1).bind fun t181 => (if t181 = true then ((saltusref16_Floor.f k x1 x2).bind fun t183 => (if t183 < 0 then ((saltuslaw16_alive.f k).bind fun t184 => (if t184 = true then (if x9 = 3 then (some x10) else (some false)) else (some false))) else ((saltuslaw16_alive.f k).bind fun t185 => (if t185 = true then (if x9 = 0 then ((saltusref16_Floor.f k x1 x2).bind fun t186 => (if x7 = t186 then ((saltusref16_Hops.f k x0 x1 x2).bind fun t187 => ((saltusref16_HopsSame.f k x8 t187).bind fun t190 => (some t190))) else (some false))) else (some false)) else (some false))))) else ((saltuslaw16_alive.f k).bind fun t182 => (if t182 = true then (if x9 = 1 then (some x10) else (some false)) else (some false))))
end Go.Proofs.YtolbhliepkcihaaDoor.QSF
end
section
namespace Go.Proofs.YtolbhliepkcihaaDoor.QSF
open Go.RowKit Kinds YtolbhliepkcihaaDoorW.PrintWords YtolbhliepkcihaaDoorW.PrintLast YtolbhliepkcihaaDoorW.PrintMore
attribute [local go_sem] max2_int min2_int max_two min_two max_three min_three max_four min_four   -- for this text's walks alone
set_option linter.unusedVariables false
set_option linter.unusedSimpArgs false
/-! ### saltuslaw16_SkipHops: function 7 -/
end Go.Proofs.YtolbhliepkcihaaDoor.QSF
end
section
namespace Go.Proofs.YtolbhliepkcihaaDoor.SkipPure
open Go.RowKit Kinds QSF YtolbhliepkcihaaDoorW.PrintWords YtolbhliepkcihaaDoorW.PrintLast YtolbhliepkcihaaDoorW.PrintMore Sha Mac Codec Tower
abbrev Item := S46
abbrev Hop := S48
def it (l : List Item) (i : Nat) : Item := rd_T46 l (i : Int)
def ky (l : List Item) (i : Nat) : Int := (it l i).f0
theorem w_succ (i n : Nat) (h : i < n) (hn : n ≤ 1000000000) : wrap64 ((i : Int) + 1) = ((i + 1 : Nat) : Int) := by unfold wrap64; omega
/-! ### a tower's height, by halving -/
def tz (f x : Nat) : Nat := if x = 0 then f else Lib.ctzFrom f x
theorem tz_succ (f x : Nat) (h : x % 2 = 0) : tz (f + 1) x = tz f (x / 2) + 1 := by
 unfold tz
 by_cases h0 : x = 0
 ·subst h0
  rfl
 ·rw [if_neg h0, if_neg (by omega), Lib.ctzFrom, if_neg (by omega)]
  omega
theorem tz_odd (f x : Nat) (h : x % 2 ≠ 0) : tz (f + 1) x = 0 := by
 unfold tz
 rw [if_neg (by omega), Lib.ctzFrom, if_pos (by omega)]
theorem refheight_l0 (f : Nat) : ∀ (k x o : Nat), x < 18446744073709551616 → o ≤ 8 → 8 ≤ o + f → f < k → saltusref15_Height.l0 k (x : Int) (o : Int) = some ((min (tz f x + o) 8 : Nat) : Int) := by
 induction f with
 | zero =>
  intro k x o hx h1 h2 hk
  obtain ⟨k, rfl⟩ : ∃ m, k = m + 1 := ⟨k - 1, by omega⟩
  rw [saltusref15_Height.l0]
  have e : min (tz 0 x + o) 8 = o := by omega
  rw [e]
  split
  ·rw [if_neg (by omega)]
  ·rfl
 | succ f ih =>
  intro k x o hx h1 h2 hk
  obtain ⟨k, rfl⟩ : ∃ m, k = m + 1 := ⟨k - 1, by omega⟩
  have e1 : Int.tmod (x : Int) 2 = ((x % 2 : Nat) : Int) := by rw [Int.tmod_eq_emod_of_nonneg (Int.natCast_nonneg _)]; omega
  rw [saltusref15_Height.l0, e1]
  by_cases hp : x % 2 = 0
  ·rw [if_pos (by omega)]
   have ez := tz_succ f x hp
   by_cases h8 : o < 8
   ·have e2 : IntKind.u64.wrap (Int.tdiv (x : Int) 2) = ((x / 2 : Nat) : Int) := by
     rw [Int.tdiv_eq_ediv_of_nonneg (Int.natCast_nonneg _), IntKind.wrap_u64]
     omega
    have e3 : wrap64 ((o : Int) + 1) = ((o + 1 : Nat) : Int) := by unfold wrap64; omega
    rw [if_pos (by omega), e2, e3, ih k (x / 2) (o + 1) (by omega) (by omega) (by omega) (by omega), ez]
    congr 2
    omega
   ·rw [if_neg (by omega)]
    congr 2
    omega
  ·rw [if_neg (by omega), tz_odd f x hp]
   congr 2
   omega
theorem refheight_f (key : ByteArray) (n : Nat) (hk : key.size ≤ 1000000000) (hn : n < 18446744073709551616) (k : Nat) (h : 64 < k) : saltusref15_Height.f k key (n : Int) = some ((heightN key n : Nat) : Int) := by
 have e0 : saltusref02_Low.f (n : Int) 8 = some (numS n) := by unfold saltusref02_Low.f; rw [if_pos ⟨by omega, by omega, by decide, by decide⟩, Int.toNat_natCast]; rfl
 have e1 : saltusref10_Word.f key (numS n) = some ((wordN key (numS n) : Nat) : Int) := if_pos ⟨hk, by rw [numS_size]; decide⟩
 unfold saltusref15_Height.f
 rw [e0, qv, e1, qv]
 have h0 := refheight_l0 64 k (wordN key (numS n)) 1 (wordN_lt key (numS n)) (by decide) (by decide) h
 rw [show ((1 : Nat) : Int) = 1 from rfl] at h0
 rw [h0]
 rfl
/-! ### a list that may be -/
def okAt (l : List Item) (i : Nat) : Prop := (it l i).f1.size ≤ 64 ∧ (0 < i → ky l (i - 1) < ky l i)
def RightP (l : List Item) : Prop := (∀ i, i < l.length → okAt l i) ∧ l.length ≤ 64
theorem right_l0 (l : List Item) (hn : l.length ≤ 100000) (d : Nat) : ∀ i, i + d = l.length → (∀ j, j < i → okAt l j) →
  (RightP l ∧ Ev (fun k => skip_Right.l0 k l l (l.length : Int) (i : Int)) true) ∨ (¬RightP l ∧ Ev (fun k => skip_Right.l0 k l l (l.length : Int) (i : Int)) false) := by
 induction d with
 | zero =>
  intro i hi hp
  obtain rfl : i = l.length := by omega
  by_cases h : l.length ≤ 64
  ·refine .inl ⟨⟨hp, h⟩, Ev.step (fun k => ?_) (Ev.now true)⟩
   rw [skip_Right.l0, if_neg (by omega), qj (show (l.length : Int) ≤ 64 by omega)]
  ·refine .inr ⟨fun hr => h hr.2, Ev.step (fun k => ?_) (Ev.now false)⟩
   rw [skip_Right.l0, if_neg (by omega), decide_eq_false (show ¬ (l.length : Int) ≤ 64 by omega)]
 | succ d ih =>
  intro i hi hp
  by_cases hs : (it l i).f1.size ≤ 64
  ·by_cases h0 : i = 0
   ·subst h0
    have hok : okAt l 0 := ⟨hs, fun h => absurd h (by omega)⟩
    have st : ∀ k, skip_Right.l0 (k + 1) l l (l.length : Int) ((0 : Nat) : Int) = skip_Right.l0 k l l (l.length : Int) ((0 + 1 : Nat) : Int) := fun k => by
     rw [skip_Right.l0, if_pos (by omega), if_pos (by omega), if_pos (by omega), if_neg (show ¬ ((((rd_T46 l ((0 : Nat) : Int)).f1).size : Int) > 64) by have := hs; unfold it at this; omega), if_neg (by omega), w_succ 0 l.length (by omega) (by omega)]
    rcases ih 1 (by omega) (fun j hj => by
     obtain rfl : j = 0 := (by omega)
     exact hok) with ⟨h1, h2⟩ | ⟨h1, h2⟩
    ·exact .inl ⟨h1, Ev.step st h2⟩
    ·exact .inr ⟨h1, Ev.step st h2⟩
   ·have ew : wrap64 ((i : Int) - 1) = ((i - 1 : Nat) : Int) := by unfold wrap64; omega
    by_cases hk : ky l (i - 1) < ky l i
    ·have hok : okAt l i := ⟨hs, fun _ => hk⟩
     have st : ∀ k, skip_Right.l0 (k + 1) l l (l.length : Int) (i : Int) = skip_Right.l0 k l l (l.length : Int) ((i + 1 : Nat) : Int) := fun k => by
      rw [skip_Right.l0, if_pos (by omega), if_pos (by omega), if_pos (by omega), if_neg (show ¬ ((((rd_T46 l (i : Int)).f1).size : Int) > 64) by have := hs; unfold it at this; omega), if_pos (by omega), ew, if_pos (by omega), if_pos (by omega),
       if_neg (show ¬ ((rd_T46 l ((i - 1 : Nat) : Int)).f0 ≥ (rd_T46 l (i : Int)).f0) by have := hk; unfold ky it at this; omega), w_succ i l.length (by omega) (by omega)]
     rcases ih (i + 1) (by omega) (fun j hj => by
      by_cases e : j = i
      ·subst e; exact hok
      ·exact hp j (by omega)) with ⟨h1, h2⟩ | ⟨h1, h2⟩
     ·exact .inl ⟨h1, Ev.step st h2⟩
     ·exact .inr ⟨h1, Ev.step st h2⟩
    ·refine .inr ⟨fun hr => hk ((hr.1 i (by omega)).2 (by omega)), Ev.step (fun k => ?_) (Ev.now false)⟩
     rw [skip_Right.l0, if_pos (by omega), if_pos (by omega), if_pos (by omega), if_neg (show ¬ ((((rd_T46 l (i : Int)).f1).size : Int) > 64) by have := hs; unfold it at this; omega), if_pos (by omega), ew, if_pos (by omega), if_pos (by omega),
       if_pos (show ((rd_T46 l ((i - 1 : Nat) : Int)).f0 ≥ (rd_T46 l (i : Int)).f0) by have := hk; unfold ky it at this; omega)]
  ·refine .inr ⟨fun hr => hs (hr.1 i (by omega)).1, Ev.step (fun k => ?_) (Ev.now false)⟩
   rw [skip_Right.l0, if_pos (by omega), if_pos (by omega), if_pos (by omega), if_pos (show ((((rd_T46 l (i : Int)).f1).size : Int) > 64) by have := hs; unfold it at this; omega)]
theorem right_ev (l : List Item) (hn : l.length ≤ 100000) : (RightP l ∧ Ev (fun k => skip_Right.f k l) true) ∨ (¬RightP l ∧ Ev (fun k => skip_Right.f k l) false) :=
 right_l0 l hn l.length 0 (by omega) (fun j hj => absurd hj (by omega))
theorem asc (l : List Item) (n : Nat) (h : ∀ j, j < n → okAt l j) (b : Nat) : ∀ a, a < b → b < n → ky l a < ky l b := by
 induction b with
 | zero => intro a ha; omega
 | succ b ih =>
  intro a ha hb
  have h1 := (h (b + 1) hb).2 (by omega)
  rw [show b + 1 - 1 = b from rfl] at h1
  by_cases e : a = b
  ·subst e; exact h1
  ·have := ih a (by omega) (by omega)
   omega
theorem it_take (l : List Item) (i j : Nat) (h : j < i) (_ : i ≤ l.length) : rd_T46 (l.take i) (j : Int) = it l j := by
 unfold it rd_T46
 rw [Int.toNat_natCast, List.getD_eq_getElem?_getD, List.getD_eq_getElem?_getD, List.getElem?_take, if_pos h]
theorem refright_l1 (l : List Item) (hn : l.length ≤ 100000) (i : Nat) (hi : i < l.length) (x : Int) (v : ByteArray) (e : Nat) : ∀ j, j + e = i →
  ((∀ q, j ≤ q → q < i → ky l q < x) → ∀ r, Ev (fun k => saltusref16_Right.l0 k l l (l.length : Int) ((i + 1 : Nat) : Int)) r → Ev (fun k => saltusref16_Right.l1 k l l (l.length : Int) (i : Int) (l.take i) ((l.take i).length : Int) (j : Int) x v) r) ∧
  ((∃ q, j ≤ q ∧ q < i ∧ ¬ky l q < x) → Ev (fun k => saltusref16_Right.l1 k l l (l.length : Int) (i : Int) (l.take i) ((l.take i).length : Int) (j : Int) x v) false) := by
 have hz : (l.take i).length = i := by rw [qw]; omega
 induction e with
 | zero =>
  intro j hj
  obtain rfl : j = i := by omega
  refine ⟨fun _ r hr => Ev.step (fun k => ?_) hr, fun ⟨q, h1, h2, _⟩ => by omega⟩
  rw [saltusref16_Right.l1, if_neg (by omega), w_succ j l.length hi (by omega)]
 | succ e ih =>
  intro j hj
  obtain ⟨ih1, ih2⟩ := ih (j + 1) (by omega)
  by_cases hk : ky l j < x
  ·have st : ∀ k, saltusref16_Right.l1 (k + 1) l l (l.length : Int) (i : Int) (l.take i) ((l.take i).length : Int) (j : Int) x v = saltusref16_Right.l1 k l l (l.length : Int) (i : Int) (l.take i) ((l.take i).length : Int) ((j + 1 : Nat) : Int) x v := fun k => by
    rw [saltusref16_Right.l1, if_pos (by omega), if_pos (by omega), if_pos (by omega), it_take l i j (by omega) (by omega), if_neg (show ¬ ((it l j).f0 ≥ x) by have := hk; unfold ky at this; omega), w_succ j l.length (by omega) (by omega)]
   refine ⟨fun h r hr => Ev.step st (ih1 (fun q h1 h2 => h q (by omega) h2) r hr), fun ⟨q, h1, h2, h3⟩ => Ev.step st (ih2 ⟨q, ?_, h2, h3⟩)⟩
   by_cases e : q = j
   ·subst e; exact absurd hk h3
   ·omega
  ·refine ⟨fun h => absurd (h j (Nat.le_refl _) (by omega)) hk, fun _ => Ev.step (fun k => ?_) (Ev.now false)⟩
   rw [saltusref16_Right.l1, if_pos (by omega), if_pos (by omega), if_pos (by omega), it_take l i j (by omega) (by omega), if_pos (show ((it l j).f0 ≥ x) by have := hk; unfold ky at this; omega)]
theorem refright_l0 (l : List Item) (hn : l.length ≤ 100000) (d : Nat) : ∀ i, i + d = l.length → (∀ j, j < i → okAt l j) →
  (RightP l ∧ Ev (fun k => saltusref16_Right.l0 k l l (l.length : Int) (i : Int)) true) ∨ (¬RightP l ∧ Ev (fun k => saltusref16_Right.l0 k l l (l.length : Int) (i : Int)) false) := by
 induction d with
 | zero =>
  intro i hi hp
  obtain rfl : i = l.length := by omega
  by_cases h : l.length ≤ 64
  ·refine .inl ⟨⟨hp, h⟩, Ev.step (fun k => ?_) (Ev.now true)⟩
   rw [saltusref16_Right.l0, if_neg (by omega), qj (show (l.length : Int) ≤ 64 by omega)]
  ·refine .inr ⟨fun hr => h hr.2, Ev.step (fun k => ?_) (Ev.now false)⟩
   rw [saltusref16_Right.l0, if_neg (by omega), decide_eq_false (show ¬ (l.length : Int) ≤ 64 by omega)]
 | succ d ih =>
  intro i hi hp
  by_cases hs : (it l i).f1.size ≤ 64
  ·have st : ∀ k, saltusref16_Right.l0 (k + 1) l l (l.length : Int) (i : Int) = saltusref16_Right.l1 k l l (l.length : Int) (i : Int) (l.take i) ((l.take i).length : Int) ((0 : Nat) : Int) (ky l i) (it l i).f1 := fun k => by
    rw [saltusref16_Right.l0, if_pos (by omega), if_pos (by omega), if_pos (by omega), if_neg (show ¬ ((((rd_T46 l (i : Int)).f1).size : Int) > 64) by have := hs; unfold it at this; omega), if_pos (by omega), Int.toNat_natCast, qv]
    rfl
   obtain ⟨g1, g2⟩ := refright_l1 l hn i (by omega) (ky l i) (it l i).f1 i 0 (by omega)
   by_cases hk : 0 < i → ky l (i - 1) < ky l i
   ·have hok : okAt l i := ⟨hs, hk⟩
    have hp2 : ∀ j, j < i + 1 → okAt l j := fun j hj => by
     by_cases e : j = i
     ·subst e; exact hok
     ·exact hp j (by omega)
    have hall : ∀ q, 0 ≤ q → q < i → ky l q < ky l i := fun q _ hq => asc l (i + 1) hp2 i q hq (by omega)
    rcases ih (i + 1) (by omega) hp2 with ⟨h1, h2⟩ | ⟨h1, h2⟩
    ·exact .inl ⟨h1, Ev.step st (g1 hall true h2)⟩
    ·exact .inr ⟨h1, Ev.step st (g1 hall false h2)⟩
   ·refine .inr ⟨fun hr => hk (hr.1 i (by omega)).2, Ev.step st (g2 ⟨i - 1, by omega, ?_, fun h => hk fun _ => h⟩)⟩
    rcases Nat.eq_zero_or_pos i with e | e
    ·exact absurd (fun h => absurd h (by omega)) hk
    ·omega
  ·refine .inr ⟨fun hr => hs (hr.1 i (by omega)).1, Ev.step (fun k => ?_) (Ev.now false)⟩
   rw [saltusref16_Right.l0, if_pos (by omega), if_pos (by omega), if_pos (by omega), if_pos (show ((((rd_T46 l (i : Int)).f1).size : Int) > 64) by have := hs; unfold it at this; omega)]
theorem refright_ev (l : List Item) (hn : l.length ≤ 100000) : (RightP l ∧ Ev (fun k => saltusref16_Right.f k l) true) ∨ (¬RightP l ∧ Ev (fun k => saltusref16_Right.f k l) false) :=
 refright_l0 l hn l.length 0 (by omega) (fun j hj => absurd hj (by omega))
end Go.Proofs.YtolbhliepkcihaaDoor.SkipPure
end
section
namespace Go.Proofs.YtolbhliepkcihaaDoor.SkipPure
open Go.RowKit Kinds QSF YtolbhliepkcihaaDoorW.PrintWords YtolbhliepkcihaaDoorW.PrintLast YtolbhliepkcihaaDoorW.PrintMore Sha Mac Codec Tower
def htsL (key : ByteArray) (l : List Item) : List Int := l.map fun x => ((heightN key x.f0.toNat : Nat) : Int)
theorem it_mem (l : List Item) (i : Nat) (h : i < l.length) : it l i = l[i] := by
 unfold it rd_T46
 rw [Int.toNat_natCast, List.getD_eq_getElem?_getD, List.getElem?_eq_getElem h]
 rfl
/-! ### the array of heights is filled -/
/-! ### the next one that is above a level -/
/-! ### the search -/
theorem keys_l0 (l : List Item) (hn : l.length ≤ 100000) (d : Nat) : ∀ i acc, i + d = l.length → acc.length + d ≤ 100000 → Ev (fun k => saltusref16_Keys.l0 k acc l (l.length : Int) (i : Int)) (acc ++ (l.drop i).map (·.f0)) := by
 induction d with
 | zero =>
  intro i acc hi ha
  refine Ev.step (fun k => ?_) (Ev.now _)
  rw [saltusref16_Keys.l0, if_neg (by omega), List.drop_eq_nil_of_le (by omega)]
  simp
 | succ d ih =>
  intro i acc hi ha
  have h := ih (i + 1) (acc ++ [(it l i).f0]) (by omega) (by rw [List.length_append, List.length_singleton]; omega)
  rw [List.drop_eq_getElem_cons (show i < l.length by omega), ← it_mem l i (by omega)]
  rw [List.append_assoc] at h
  refine Ev.step (fun k => ?_) h
  rw [saltusref16_Keys.l0, if_pos (by omega), if_pos (by omega), if_pos (by omega), if_pos (by omega), w_succ i l.length (by omega) (by omega)]
  rfl
theorem heights_l0 (key : ByteArray) (hkey : key.size ≤ 1000000000) (l : List Int) (hn : l.length ≤ 100000) (hk : ∀ y, y ∈ l → 0 ≤ y ∧ y ≤ 18446744073709551615) (d : Nat) : ∀ i acc, i + d = l.length → acc.length + d ≤ 100000 →
  Ev (fun k => saltusref15_Heights.l0 k key acc l (l.length : Int) (i : Int)) (acc ++ (l.drop i).map fun y => ((heightN key y.toNat : Nat) : Int)) := by
 induction d with
 | zero =>
  intro i acc hi ha
  refine Ev.step (fun k => ?_) (Ev.now _)
  rw [saltusref15_Heights.l0, if_neg (by omega), List.drop_eq_nil_of_le (by omega)]
  simp
 | succ d ih =>
  intro i acc hi ha
  have hlt : i < l.length := by omega
  have hb := hk l[i] (List.getElem_mem hlt)
  have hrd : rd l (i : Int) = l[i] := by
   unfold rd
   rw [Int.toNat_natCast, List.getD_eq_getElem?_getD, List.getElem?_eq_getElem hlt]
   rfl
  have h := ih (i + 1) (acc ++ [((heightN key (l[i]).toNat : Nat) : Int)]) (by omega) (by rw [List.length_append, List.length_singleton]; omega)
  rw [List.drop_eq_getElem_cons hlt]
  rw [List.append_assoc] at h
  obtain ⟨K, h⟩ := h
  refine ⟨max K 65 + 1, fun k hk2 => ?_⟩
  obtain ⟨k, rfl⟩ : ∃ m, k = m + 1 := ⟨k - 1, by omega⟩
  obtain ⟨n, hn2⟩ := Int.eq_ofNat_of_zero_le hb.1
  have e := refheight_f key n hkey (by omega) k (by omega)
  show saltusref15_Heights.l0 (k + 1) key acc l (l.length : Int) (i : Int) = _
  rw [saltusref15_Heights.l0, if_pos (by omega), if_pos (by omega), if_pos (by omega), hrd, hn2, e, qv, if_pos (by omega), w_succ i l.length (by omega) (by omega)]
  have h2 := h k (by omega)
  rw [hn2] at h2
  exact h2
end Go.Proofs.YtolbhliepkcihaaDoor.SkipPure
end
section
namespace Go.Proofs.YtolbhliepkcihaaDoor.SkipPure
open Go.RowKit Kinds QSF YtolbhliepkcihaaDoorW.PrintWords YtolbhliepkcihaaDoorW.PrintLast YtolbhliepkcihaaDoorW.PrintMore Sha Mac Codec Tower
def hp (hops : List Hop) (i : Nat) : Hop := rd_T48 hops (i : Int)
structure GoodH (s L1 : Nat) (hops : List Hop) : Prop where
 some_ : 0 < s → 0 < hops.length
 none_ : s = 0 → hops = []
 last_ : 0 < hops.length → (hp hops (hops.length - 1)).f1 = (s : Int) - 1
 levels : ∀ i, i < hops.length → 0 ≤ (hp hops i).f0 ∧ (hp hops i).f0 < 8 ∧ (L1 : Int) - 1 ≤ (hp hops i).f0
 chain : ∀ i, 0 < i → i < hops.length → (hp hops (i - 1)).f1 < (hp hops i).f1 ∧ (hp hops i).f0 ≤ (hp hops (i - 1)).f0
/-! ### a known search -/
/-! ### the laws -/
end Go.Proofs.YtolbhliepkcihaaDoor.SkipPure
end
section
namespace Go.Proofs.YtolbhliepkcihaaDoor.QSQ
open Go.RowKit Kinds YtolbhliepkcihaaDoorW.PrintWords YtolbhliepkcihaaDoorW.PrintLast YtolbhliepkcihaaDoorW.PrintMore
attribute [local go_sem] max2_int min2_int max_two min_two max_three min_three max_four min_four   -- for this text's walks alone
set_option linter.unusedVariables false
set_option linter.unusedSimpArgs false
end Go.Proofs.YtolbhliepkcihaaDoor.QSQ
end
section
namespace Go.Proofs.YtolbhliepkcihaaDoor.QSQ
open Go.RowKit Kinds YtolbhliepkcihaaDoorW.PrintWords YtolbhliepkcihaaDoorW.PrintLast YtolbhliepkcihaaDoorW.PrintMore
attribute [local go_sem] max2_int min2_int max_two min_two max_three min_three max_four min_four   -- for this text's walks alone
set_option linter.unusedVariables false
set_option linter.unusedSimpArgs false
/-! ### saltusref16_Put: function 51 -/
end Go.Proofs.YtolbhliepkcihaaDoor.QSQ
end
section
namespace Go.Proofs.YtolbhliepkcihaaDoor.QSQ
open Go.RowKit Kinds YtolbhliepkcihaaDoorW.PrintWords YtolbhliepkcihaaDoorW.PrintLast YtolbhliepkcihaaDoorW.PrintMore
attribute [local go_sem] max2_int min2_int max_two min_two max_three min_three max_four min_four   -- for this text's walks alone
set_option linter.unusedVariables false
set_option linter.unusedSimpArgs false
theorem eqA46 (d : Nat) (w : World) (x0 y0 : Int) (x1 y1 : ByteArray) :
  (Op.equalIn (d + 2) 46 (.agg #[.int .u64 x0, .string x1]) (.agg #[.int .u64 y0, .string y1])).run Tryd.prog w = .ok (x0 == y0 && (x1.toList == y1.toList)) w := by
 refine eqA_of Tryd.underlying46 (by kernel_rfl) ?_
 refine eqf_cons (by rfl) (by go_simp; rfl) (by go_simp; rfl) (by go_simp) ?_
 exact eqf_last (by rfl) (by go_simp; rfl) (by go_simp; rfl) (by go_simp)
end Go.Proofs.YtolbhliepkcihaaDoor.QSQ
end
section
namespace Go.Proofs.YtolbhliepkcihaaDoor.QSQ
open Go.RowKit Kinds YtolbhliepkcihaaDoorW.PrintWords YtolbhliepkcihaaDoorW.PrintLast YtolbhliepkcihaaDoorW.PrintMore
attribute [local go_sem] max2_int min2_int max_two min_two max_three min_three max_four min_four   -- for this text's walks alone
set_option linter.unusedVariables false
set_option linter.unusedSimpArgs false
attribute [local go_sem high] eqA46
/-! ### saltusref16_Same: function 39 -/
def saltusref16_Same.l0 : Nat → List (S46) → List (S46) → Int → Int → Option (Bool)
 | 0, _, _, _, _ => none
 | k + 1, x0, x1, x12, x13 => if x13 < x12 then (if 0 ≤ x13 then (if x13 < (x0.length : Int) then (if x13 < (x1.length : Int) then (if (!(((rd_T46 x0 x13).f0) == ((rd_T46 x1 x13).f0)) || (!((((rd_T46 x0 x13).f1).toList) == (((rd_T46 x1 x13).f1).toList)))) = true then (some false) else (saltusref16_Same.l0 k x0 x1 x12 (wrap64 (x13 + 1)))) else (none)) else (none)) else (none)) else (some true)
def saltusref16_Same.f (k : Nat) (l0 : List (S46)) (l1 : List (S46)) : Option (Bool) := if (l0.length : Int) = (l1.length : Int) then (saltusref16_Same.l0 k l0 l1 (l0.length : Int) 0) else (some false)
set_option maxHeartbeats 8000000 in
set_option maxRecDepth 100000 in
theorem saltusref16_Same.calls (k : Nat) (A0 : Option Addr) (c0 : Nat) (l0 : List (S46)) (A1 : Option Addr) (c1 : Nat) (l1 : List (S46)) (r : Bool) (w : World) (hr0 : Kd.C k46 w A0 l0.length l0) (hc0 : l0.length ≤ c0) (hr1 : Kd.C k46 w A1 l1.length l1) (hc1 : l1.length ≤ c1) (h : saltusref16_Same.f k l0 l1 = some r) :
  Calls Tryd.prog 39 #[.slice A0 l0.length c0, .slice A1 l1.length c1] w fun e w' => e = .returned (.bool r) ∧ Drawn0 w w' := by
 have hu46 := Tryd.underlying46
 have HR0 := qf hr0
 have HC0 := qf hc0
 clear hr0 hc0
 have HR1 := qf hr1
 have HC1 := qf hc1
 clear hr1 hc1
 have H : (if (l0.length : Int) = (l1.length : Int) then (saltusref16_Same.l0 k l0 l1 (l0.length : Int) 0) else (some false)) = some r := h
 clear h
 by_cases c3 : (l0.length : Int) = (l1.length : Int)
 ·rw [if_pos c3] at H
  have c3b0 : ((l0.length : Int) == (l1.length : Int)) = true := beq_iff_eq.mpr c3
  have c3b1 : ((l0.length : Int) != (l1.length : Int)) = false := bne_eq_false_iff_eq.mpr c3
  have c3b2 : (l0.length == l1.length) = true := by first | simpa using c3 | (simp at c3 ⊢; omega)
  clear c3
  have H' := qf H
  clear H
  go_enter Tryd.func39, Tryd.ntmps39
  go_wp2
  repeat (go_quiet (fail); try go_wp2)
  go_loopg [13] k (fun kq v13 w' => ∃ (x13_1 : Int), v13 = .int .i64 x13_1 ∧ Aside0 (saltusref16_Same.l0 kq l0 l1 (l0.length : Int) x13_1 = some r) ∧ Aside0 (kq ≤ k) ∧ Drawn0 w w')
  case atStart => exact ⟨(0), (by first | rfl | (simp; done) | (simp [*]; done)), H', ⟨Nat.le_refl _⟩, by repeat (first | exact Drawn0.refl _ | apply Drawn0.step)⟩
  case round =>
   clear H'
   try clear c1
   try clear p2
   try clear c3
   try clear c3b0
   try clear c3b1
   try clear c3b2
   obtain ⟨x13_1, rfl, HA, HK1, ⟨m1, rfl⟩⟩ := hrel
   cases gk with
   | zero => exact absurd HA.out (by simp [saltusref16_Same.l0])
   | succ k1 =>
    have H := HA.out
    clear HA
    simp only [saltusref16_Same.l0] at H
    by_cases c4 : x13_1 < (l0.length : Int)
    ·rw [if_pos c4] at H
     have c4b0 : decide (x13_1 < (l0.length : Int)) = true := qj c4
     clear c4
     by_cases c5 : 0 ≤ x13_1
     ·rw [if_pos c5] at H
      have c5b0 : decide (0 ≤ x13_1) = true := qj c5
      clear c5
      by_cases c6 : x13_1 < (l0.length : Int)
      ·rw [if_pos c6] at H
       have c6b0 : decide (x13_1 < (l0.length : Int)) = true := qj c6
       clear c6
       by_cases c7 : x13_1 < (l1.length : Int)
       ·rw [if_pos c7] at H
        have c7b0 : decide (x13_1 < (l1.length : Int)) = true := qj c7
        clear c7
        by_cases c8 : (!(((rd_T46 l0 x13_1).f0) == ((rd_T46 l1 x13_1).f0)) || (!((((rd_T46 l0 x13_1).f1).toList) == (((rd_T46 l1 x13_1).f1).toList)))) = true
        ·rw [if_pos c8] at H
         have c8b0 : (!(((rd_T46 l0 x13_1).f0) == ((rd_T46 l1 x13_1).f0)) || (!((((rd_T46 l0 x13_1).f1).toList) == (((rd_T46 l1 x13_1).f1).toList)))) = true := c8
         clear c8
         obtain rfl := Option.some.inj H
         have p101 : 0 ≤ (x13_1 : Int) := qe (by first | (with_reducible assumption) | assumption)
         have q101 : x13_1 < (l0.length : Int) := qe (by first | (with_reducible assumption) | assumption)
         obtain ⟨ad101, e101, hx101_0, hx101_1⟩ := at_T46 HR0.out x13_1 p101 q101
         cases e101
         replace p101 := eq_true p101
         replace q101 := eq_true q101
         have p102 : 0 ≤ (x13_1 : Int) := qe (by first | (with_reducible assumption) | assumption)
         have q102 : x13_1 < (l1.length : Int) := qe (by first | (with_reducible assumption) | assumption)
         obtain ⟨ad102, e102, hx102_0, hx102_1⟩ := at_T46 HR1.out x13_1 p102 q102
         cases e102
         replace p102 := eq_true p102
         replace q102 := eq_true q102
         go_wp2
         repeat (go_quiet (fail); try go_wp2)
         go_ret
         exact ⟨by first | rfl | (simp; done) | (simp [*]; done), by repeat (first | exact Drawn0.refl _ | apply Drawn0.step)⟩
        ·rw [if_neg c8] at H
         have c8b0 : (!(((rd_T46 l0 x13_1).f0) == ((rd_T46 l1 x13_1).f0)) || (!((((rd_T46 l0 x13_1).f1).toList) == (((rd_T46 l1 x13_1).f1).toList)))) = false := by simpa using c8
         clear c8
         have H' := qf H
         clear H
         have p101 : 0 ≤ (x13_1 : Int) := qe (by first | (with_reducible assumption) | assumption)
         have q101 : x13_1 < (l0.length : Int) := qe (by first | (with_reducible assumption) | assumption)
         obtain ⟨ad101, e101, hx101_0, hx101_1⟩ := at_T46 HR0.out x13_1 p101 q101
         cases e101
         replace p101 := eq_true p101
         replace q101 := eq_true q101
         have p102 : 0 ≤ (x13_1 : Int) := qe (by first | (with_reducible assumption) | assumption)
         have q102 : x13_1 < (l1.length : Int) := qe (by first | (with_reducible assumption) | assumption)
         obtain ⟨ad102, e102, hx102_0, hx102_1⟩ := at_T46 HR1.out x13_1 p102 q102
         cases e102
         replace p102 := eq_true p102
         replace q102 := eq_true q102
         go_wp2
         repeat (go_quiet (fail); try go_wp2)
         go_roundg k1
         case measure => have := HK1.out; omega
         case rel => exact ⟨(wrap64 (x13_1 + 1)), (by first | rfl | (simp; done) | (simp [*]; done)), H', ⟨by have := HK1.out; omega⟩, by repeat (first | exact Drawn0.refl _ | apply Drawn0.step)⟩
       ·rw [if_neg c7] at H
        exact absurd H (by simp)
      ·rw [if_neg c6] at H
       exact absurd H (by simp)
     ·rw [if_neg c5] at H
      exact absurd H (by simp)
    ·rw [if_neg c4] at H
     have c4b0 : decide (x13_1 < (l0.length : Int)) = false := decide_eq_false c4
     clear c4
     obtain rfl := Option.some.inj H
     go_wp2
     repeat (go_quiet (fail); try go_wp2)
     go_ret
     exact ⟨by first | rfl | (simp; done) | (simp [*]; done), by repeat (first | exact Drawn0.refl _ | apply Drawn0.step)⟩
 ·rw [if_neg c3] at H
  have c3b0 : ((l0.length : Int) == (l1.length : Int)) = false := beq_eq_false_iff_ne.mpr c3
  have c3b1 : ((l0.length : Int) != (l1.length : Int)) = true := bne_iff_ne.mpr c3
  have c3b2 : (l0.length == l1.length) = false := by first | simpa using c3 | (simp at c3 ⊢; omega)
  obtain rfl := Option.some.inj H
  go_enter Tryd.func39, Tryd.ntmps39
  go_wp2
  repeat (go_quiet (fail); try go_wp2)
  go_ret
  exact ⟨by first | rfl | (simp; done) | (simp [*]; done), by repeat (first | exact Drawn0.refl _ | apply Drawn0.step)⟩
/-! ### api_Item: function 81 -/
/-! ### skip_Like: function 48 -/
/-! ### saltusref16_At: function 49 -/
def saltusref16_At.l0 : Nat → Int → List (S46) → Int → Int → Option (Int)
 | 0, _, _, _, _ => none
 | k + 1, x1, x7, x8, x9 => if x9 < x8 then (if 0 ≤ x9 then (if x9 < (x7.length : Int) then (if ((rd_T46 x7 x9).f0) = x1 then (some x9) else (saltusref16_At.l0 k x1 x7 x8 (wrap64 (x9 + 1)))) else (none)) else (none)) else (some (-1))
def saltusref16_At.f (k : Nat) (l0 : List (S46)) (a1 : Int) : Option (Int) := saltusref16_At.l0 k a1 l0 (l0.length : Int) 0
set_option maxHeartbeats 8000000 in
set_option maxRecDepth 100000 in
theorem saltusref16_At.calls (k : Nat) (A0 : Option Addr) (c0 : Nat) (l0 : List (S46)) (a1 : Int) (r : Int) (w : World) (hr0 : Kd.C k46 w A0 l0.length l0) (hc0 : l0.length ≤ c0) (h : saltusref16_At.f k l0 a1 = some r) :
  Calls Tryd.prog 49 #[.slice A0 l0.length c0, .int .u64 a1] w fun e w' => e = .returned (.int .i64 r) ∧ Below w.heap.size w w' := by
 have hu46 := Tryd.underlying46
 have HR0 := qf hr0
 have HC0 := qf hc0
 clear hr0 hc0
 have HB := qf (Below.refl w.heap.size w)
 have H : (saltusref16_At.l0 k a1 l0 (l0.length : Int) 0) = some r := h
 clear h
 have H' := qf H
 clear H
 go_enter Tryd.func49, Tryd.ntmps49
 go_wp2
 go_loopg [9] k (fun kq v9 w' => ∃ (x9_1 : Int), v9 = .int .i64 x9_1 ∧ Aside0 (saltusref16_At.l0 kq a1 l0 (l0.length : Int) x9_1 = some r) ∧ Aside0 (kq ≤ k) ∧ Aside0 (Below w.heap.size w w'))
 case atStart => exact ⟨(0), (by first | rfl | (simp; done) | (simp [*]; done)), H', ⟨Nat.le_refl _⟩, ⟨by repeat (first | (with_reducible first | exact HB.out | apply qa | apply qb | apply qc) | exact HB.out)⟩⟩
 case round =>
  clear H'
  try clear p2
  obtain ⟨x9_1, rfl, HA, HK1, HB⟩ := hrel
  cases gk with
  | zero => exact absurd HA.out (by simp [saltusref16_At.l0])
  | succ k1 =>
   have H := HA.out
   clear HA
   simp only [saltusref16_At.l0] at H
   by_cases c3 : x9_1 < (l0.length : Int)
   ·rw [if_pos c3] at H
    have c3b0 : decide (x9_1 < (l0.length : Int)) = true := qj c3
    clear c3
    by_cases c4 : 0 ≤ x9_1
    ·rw [if_pos c4] at H
     have c4b0 : decide (0 ≤ x9_1) = true := qj c4
     clear c4
     by_cases c5 : x9_1 < (l0.length : Int)
     ·rw [if_pos c5] at H
      have c5b0 : decide (x9_1 < (l0.length : Int)) = true := qj c5
      clear c5
      by_cases c6 : ((rd_T46 l0 x9_1).f0) = a1
      ·rw [if_pos c6] at H
       have c6b0 : (((rd_T46 l0 x9_1).f0) == a1) = true := beq_iff_eq.mpr c6
       have c6b1 : (((rd_T46 l0 x9_1).f0) != a1) = false := bne_eq_false_iff_eq.mpr c6
       clear c6
       obtain rfl := Option.some.inj H
       have p106 : 0 ≤ (x9_1 : Int) := qe (by first | (with_reducible assumption) | assumption)
       have q106 : x9_1 < (l0.length : Int) := qe (by first | (with_reducible assumption) | assumption)
       obtain ⟨ad106, e106, hx106_0, hx106_1⟩ := at_T46 HR0.out x9_1 p106 q106
       cases e106
       replace hx106_0 := (HB.out.cell (qd w _ hx106_0)).trans hx106_0
       replace hx106_1 := (HB.out.cell (qd w _ hx106_1)).trans hx106_1
       replace p106 := eq_true p106
       replace q106 := eq_true q106
       go_wp2_with (first | ((with_reducible refine gate_dst (N := 6) rfl ?_); refine box_event ?hg (N := 6) ?hd (cs := #[.int .u64 0, .string (⟨#[]⟩ : ByteArray)]) (t := 46) ?hr ?_; (case hd => rfl); (case hg => rfl); (case hr => first | (go_simp; done) | (go_simp; rfl)); intro gb107 hg w7 hbox hb; have n0_ := qf (below_step (by repeat (first | (with_reducible first | exact HB.out | apply qa | apply qb | apply qc) | exact HB.out)) hb); have n1_ := qf (hbox); have n2_ := qf ((by rw [hg]; exact (below_size (by repeat (first | (with_reducible first | exact HB.out | apply qa | apply qb | apply qc) | exact HB.out))) : w.heap.size ≤ gb107)); have n3_ := qf ((by rw [hg]; exact (below_size (by repeat (first | (with_reducible first | exact HB.out | apply qa | apply qb | apply qc) | exact HB.out))) : w.heap.size ≤ gb107)); clear HB; have HB := n0_; have BK107 := n1_; have GW107 := n2_; have GE107 := n3_; clear n0_ n1_ n2_ n3_; clear hb hbox hg; have hcz8_0 : w7.cell? ⟨gb107, 0, none⟩ = some (.int .u64 0) := (blk_cell BK107.out 0).trans rfl; have hcz8_1 : w7.cell? ⟨gb107, 1, none⟩ = some (.string (⟨#[]⟩ : ByteArray)) := (blk_cell BK107.out 1).trans rfl; have hfz8_0 := blk_frozen BK107.out 0; have hfz8_1 := blk_frozen BK107.out 1))
       go_ret
       exact ⟨by first | rfl | (simp [errW_none, errW_some] <;> rfl) | (simp [*, errW_none, errW_some] <;> rfl), by repeat (first | (with_reducible first | exact HB.out | apply qa | apply qb | apply qc | refine qg ?_ GE107.out) | exact HB.out)⟩
      ·rw [if_neg c6] at H
       have c6b0 : (((rd_T46 l0 x9_1).f0) == a1) = false := beq_eq_false_iff_ne.mpr c6
       have c6b1 : (((rd_T46 l0 x9_1).f0) != a1) = true := bne_iff_ne.mpr c6
       have H' := qf H
       clear H
       have p106 : 0 ≤ (x9_1 : Int) := qe (by first | (with_reducible assumption) | assumption)
       have q106 : x9_1 < (l0.length : Int) := qe (by first | (with_reducible assumption) | assumption)
       obtain ⟨ad106, e106, hx106_0, hx106_1⟩ := at_T46 HR0.out x9_1 p106 q106
       cases e106
       replace hx106_0 := (HB.out.cell (qd w _ hx106_0)).trans hx106_0
       replace hx106_1 := (HB.out.cell (qd w _ hx106_1)).trans hx106_1
       replace p106 := eq_true p106
       replace q106 := eq_true q106
       go_wp2_with (first | ((with_reducible refine gate_dst (N := 6) rfl ?_); refine box_event ?hg (N := 6) ?hd (cs := #[.int .u64 0, .string (⟨#[]⟩ : ByteArray)]) (t := 46) ?hr ?_; (case hd => rfl); (case hg => rfl); (case hr => first | (go_simp; done) | (go_simp; rfl)); intro gb107 hg w9 hbox hb; have n0_ := qf (below_step (by repeat (first | (with_reducible first | exact HB.out | apply qa | apply qb | apply qc) | exact HB.out)) hb); have n1_ := qf (hbox); have n2_ := qf ((by rw [hg]; exact (below_size (by repeat (first | (with_reducible first | exact HB.out | apply qa | apply qb | apply qc) | exact HB.out))) : w.heap.size ≤ gb107)); have n3_ := qf ((by rw [hg]; exact (below_size (by repeat (first | (with_reducible first | exact HB.out | apply qa | apply qb | apply qc) | exact HB.out))) : w.heap.size ≤ gb107)); clear HB; have HB := n0_; have BK107 := n1_; have GW107 := n2_; have GE107 := n3_; clear n0_ n1_ n2_ n3_; clear hb hbox hg; have hcz10_0 : w9.cell? ⟨gb107, 0, none⟩ = some (.int .u64 0) := (blk_cell BK107.out 0).trans rfl; have hcz10_1 : w9.cell? ⟨gb107, 1, none⟩ = some (.string (⟨#[]⟩ : ByteArray)) := (blk_cell BK107.out 1).trans rfl; have hfz10_0 := blk_frozen BK107.out 0; have hfz10_1 := blk_frozen BK107.out 1))
       go_roundg k1
       case measure => have := HK1.out; omega
       case rel => exact ⟨(wrap64 (x9_1 + 1)), (by first | rfl | (simp; done) | (simp [*]; done)), H', ⟨by have := HK1.out; omega⟩, ⟨by repeat (first | (with_reducible first | exact HB.out | apply qa | apply qb | apply qc | refine qg ?_ GE107.out) | exact HB.out)⟩⟩
     ·rw [if_neg c5] at H
      exact absurd H (by simp)
    ·rw [if_neg c4] at H
     exact absurd H (by simp)
   ·rw [if_neg c3] at H
    have c3b0 : decide (x9_1 < (l0.length : Int)) = false := decide_eq_false c3
    clear c3
    obtain rfl := Option.some.inj H
    go_wp2
    go_ret
    exact ⟨by first | rfl | (simp [errW_none, errW_some] <;> rfl) | (simp [*, errW_none, errW_some] <;> rfl), by repeat (first | (with_reducible first | exact HB.out | apply qa | apply qb | apply qc) | exact HB.out)⟩
/-! ### saltusref16_Drop: function 50 -/
end Go.Proofs.YtolbhliepkcihaaDoor.QSQ
end
section
namespace Go.Proofs.YtolbhliepkcihaaDoor.SkipOps
open Go.RowKit Kinds QSF YtolbhliepkcihaaDoorW.PrintWords YtolbhliepkcihaaDoorW.PrintLast YtolbhliepkcihaaDoorW.PrintMore Sha Mac Codec Tower Skip SkipPure
abbrev It := S46
def has (l : List It) (q : Int) : Bool := l.any fun y => y.f0 == q
theorem has_iff (l : List It) (q : Int) : has l q = true ↔ ∃ y, y ∈ l ∧ y.f0 = q := by
 unfold has
 rw [List.any_eq_true]
 constructor
 ·rintro ⟨y, hy, e⟩; exact ⟨y, hy, by simpa using e⟩
 ·rintro ⟨y, hy, e⟩; exact ⟨y, hy, by simpa using e⟩
theorem not_has (l : List It) (q : Int) (h : has l q = false) (y : It) (hy : y ∈ l) : y.f0 ≠ q := by
 intro e
 have := (has_iff l q).2 ⟨y, hy, e⟩
 rw [h] at this
 cases this
/-! ### where the search by halves ends -/
/-! ### put and drop -/
end Go.Proofs.YtolbhliepkcihaaDoor.SkipOps
end
section
namespace Go.Proofs.YtolbhliepkcihaaDoor.SkipOps
open Go.RowKit Kinds QSF QSQ YtolbhliepkcihaaDoorW.PrintWords YtolbhliepkcihaaDoorW.PrintLast YtolbhliepkcihaaDoorW.PrintMore Sha Mac Codec Tower Skip SkipPure
/-! ### the callees, at plain functions -/
theorem c_right (A : Option Addr) (c : Nat) (l : List It) (hn : l.length ≤ 100000) : ∃ r, (r = true ↔ RightP l) ∧
  (∀ w, Kd.C k46 w A l.length l → l.length ≤ c → Calls Tryd.prog 38 #[.slice A l.length c] w fun e w' => e = .returned (.bool r) ∧ Below w.heap.size w w') ∧
  (∀ w, Kd.C k46 w A l.length l → l.length ≤ c → Calls Tryd.prog 25 #[.slice A l.length c] w fun e w' => e = .returned (.bool r) ∧ Below w.heap.size w w') := by
 rcases right_ev l hn with ⟨p1, h1⟩ | ⟨p1, h1⟩
 ·rcases refright_ev l hn with ⟨p2, h2⟩ | ⟨p2, h2⟩
  ·obtain ⟨k1, e1⟩ := h1.rounds
   obtain ⟨k2, e2⟩ := h2.rounds
   exact ⟨true, ⟨fun _ => p1, fun _ => rfl⟩, fun w q1 q2 => skip_Right.calls k1 A c l true w q1 q2 e1, fun w q1 q2 => saltusref16_Right.calls k2 A c l true w q1 q2 e2⟩
  ·exact absurd p1 p2
 ·rcases refright_ev l hn with ⟨p2, h2⟩ | ⟨p2, h2⟩
  ·exact absurd p2 p1
  ·obtain ⟨k1, e1⟩ := h1.rounds
   obtain ⟨k2, e2⟩ := h2.rounds
   exact ⟨false, ⟨(fun h => by cases h), fun h => absurd h p1⟩, fun w q1 q2 => skip_Right.calls k1 A c l false w q1 q2 e1, fun w q1 q2 => saltusref16_Right.calls k2 A c l false w q1 q2 e2⟩
end Go.Proofs.YtolbhliepkcihaaDoor.SkipOps
end
section
namespace Go.Proofs.YtolbhliepkcihaaDoor.Lab
open Go.RowKit YtolbhliepkcihaaDoorW.PrintWords Kinds Build Sha Mac Codec Tower Mem SkipOps SkipPure
theorem Row_bad (key : ByteArray) (A0 : Option Addr) (c0 : Nat) (l : List S46) (lv : Int) (w : World) (hr0 : Kd.C k46 w A0 l.length l) (hc0 : l.length ≤ c0) (hl : l.length ≤ 1000) (hb : ¬RightP l) :
  Calls Tryd.prog 30 #[.string key, .slice A0 l.length c0, .int .i64 lv] w fun e w' => e = .returned (.tuple #[.slice none 0 0, .int .i64 1]) ∧ Below w.heap.size w w' := by
 obtain ⟨r, hr, hA, _⟩ := c_right A0 c0 l (by omega)
 obtain rfl : r = false := by
  cases r
  ·rfl
  ·exact absurd (hr.1 rfl) hb
 have HA := Lib.hid (hA w hr0 hc0)
 clear hr hA
 go_enter Tryd.func30, Tryd.ntmps30
 go_wp2_with (go_at_call 38; refine (HA.out).mono ?_; rintro e w1 ⟨rfl, hb1⟩)
 go_ret2
 exact ⟨rfl, hb1⟩
theorem Root_bad (key : ByteArray) (A0 : Option Addr) (c0 : Nat) (l : List S46) (w : World) (hr0 : Kd.C k46 w A0 l.length l) (hc0 : l.length ≤ c0) (hl : l.length ≤ 1000) (hb : ¬RightP l) :
  Calls Tryd.prog 31 #[.string key, .slice A0 l.length c0] w fun e w' => e = .returned (.tuple #[.string ⟨#[]⟩, .int .i64 1]) ∧ Below w.heap.size w w' := by
 obtain ⟨r, hr, hA, _⟩ := c_right A0 c0 l (by omega)
 obtain rfl : r = false := by
  cases r
  ·rfl
  ·exact absurd (hr.1 rfl) hb
 have HA := Lib.hid (hA w hr0 hc0)
 clear hr hA
 go_enter Tryd.func31, Tryd.ntmps31
 go_wp2_with (go_at_call 38; refine (HA.out).mono ?_; rintro e w1 ⟨rfl, hb1⟩)
 go_ret2
 exact ⟨rfl, hb1⟩
theorem Row_ok (key : ByteArray) (A0 : Option Addr) (c0 : Nat) (l : List S46) (lv : Nat) (w : World) (hr0 : Kd.C k46 w A0 l.length l) (hc0 : l.length ≤ c0) (hl : l.length ≤ 1000) (hkey : key.size ≤ 1000000000) (hok : ∀ x, x ∈ l → x.f1.size ≤ 4096 ∧ 0 ≤ x.f0 ∧ x.f0 < 18446744073709551616) (hlv : lv ≤ 8) (hT : TabW w) (hb : RightP l) :
  Calls Tryd.prog 30 #[.string key, .slice A0 l.length c0, .int .i64 (lv : Int)] w fun e w' => ∃ v, e = .returned (.tuple #[v, .int .i64 0]) ∧ w'.ownsRow w.heap.size 9 1 v (rowL key l lv).length (strV (rowL key l lv)) ∧ Below w.heap.size w w' := by
 obtain ⟨r, hr, hA, _⟩ := c_right A0 c0 l (by omega)
 obtain rfl := hr.2 hb
 have HA := Lib.hid (hA w hr0 hc0)
 have HR := Lib.hid (fun W (h : Below w.heap.size w W) => row_walk key A0 c0 l lv W (Kd.C_below hr0 h) hl hkey hok hlv (tab_below hT h (Nat.le_refl _)))
 clear hr hA hr0 hok hT hb
 have d1 : decide ((lv : Int) < 0) = false := decide_eq_false (by omega)
 have d2 : decide ((8 : Int) < (lv : Int)) = false := decide_eq_false (by omega)
 go_enter Tryd.func30, Tryd.ntmps30
 go_wp2_with (first | (go_at_call 38; refine (HA.out).mono ?_; rintro e w1 ⟨rfl, hb1⟩) | (go_at_call 68; refine (HR.out _ hb1).mono ?_; rintro e w2 ⟨v, rfl, ho, hb2⟩; have HS := hb1.size; have ho' := qf (own_le ho HS); have hb' := qf (below_step hb1 hb2); clear ho hb2 HS))
 go_ret2
 exact ⟨_, rfl, ho'.out, hb'.out⟩
theorem rootL_row (key : ByteArray) (l : List S46) : rowL key l 8 = [rootL key l] := by
 have h : ∀ s : List S46, rowF (lab 8) 8 (s.map (ent key)) = [] := fun s => by
  induction s with
  | nil => rfl
  | cons x r ih =>
   have := height_hi key x.f0.toNat
   rw [List.map_cons, rowF, if_neg (by show ¬8 < heightN key x.f0.toNat; omega), ih]
 unfold rowL ents rootL
 rw [rowF, if_pos (by decide), h]
 rfl
theorem Root_ok (key : ByteArray) (A0 : Option Addr) (c0 : Nat) (l : List S46) (w : World) (hr0 : Kd.C k46 w A0 l.length l) (hc0 : l.length ≤ c0) (hl : l.length ≤ 1000) (hkey : key.size ≤ 1000000000) (hok : ∀ x, x ∈ l → x.f1.size ≤ 4096 ∧ 0 ≤ x.f0 ∧ x.f0 < 18446744073709551616) (hT : TabW w) (hb : RightP l) :
  Calls Tryd.prog 31 #[.string key, .slice A0 l.length c0] w fun e w' => e = .returned (.tuple #[.string (rootL key l), .int .i64 0]) ∧ Below w.heap.size w w' := by
 obtain ⟨r, hr, hA, _⟩ := c_right A0 c0 l (by omega)
 obtain rfl := hr.2 hb
 have HA := Lib.hid (hA w hr0 hc0)
 have HR := Lib.hid (fun W (h : Below w.heap.size w W) => row_walk key A0 c0 l 8 W (Kd.C_below hr0 h) hl hkey hok (by decide) (tab_below hT h (Nat.le_refl _)))
 rw [rootL_row] at HR
 clear hr hA hr0 hok hT hb
 generalize rootL key l = y at *
 go_enter Tryd.func31, Tryd.ntmps31
 go_wp2_with (first | (go_at_call 38; refine (HA.out).mono ?_; rintro e w1 ⟨rfl, hb1⟩) | (go_at_call 68; refine (HR.out _ hb1).mono ?_; rintro e w2 ⟨v, rfl, ho, hb2⟩; obtain ⟨g, cp, rfl, _⟩ := own_succ3 (k := 0) ho; have hcc : w2.cell? ⟨g, 0, none⟩ = some (.string y) := ho.cellAt 0 (by decide); have hb' := qf (below_step hb1 hb2); clear ho hb2))
 go_ret2
 exact ⟨rfl, hb'.out⟩
end Go.Proofs.YtolbhliepkcihaaDoor.Lab
end
section
namespace Go.Proofs.YtolbhliepkcihaaDoor.Lab
open Go.RowKit YtolbhliepkcihaaDoorW.PrintWords Kinds Build Sha Mac Codec Tower Mem SkipOps SkipPure
def okL (l : List S46) : Prop := ∀ x, x ∈ l → x.f1.size ≤ 4096 ∧ 0 ≤ x.f0 ∧ x.f0 < 18446744073709551616
theorem keys_ev (l : List S46) (hn : l.length ≤ 50000) : Ev (fun k => QSF.saltusref16_Keys.f k l) (l.map (·.f0)) := by
 have h1 := keys_l0 l (by omega) l.length 0 [] (by omega) (by simp; omega)
 simp only [List.nil_append, List.drop_zero] at h1
 exact h1
theorem heights_ev (key : ByteArray) (hkey : key.size ≤ 1000000000) (l : List S46) (hn : l.length ≤ 50000) (hok : okL l) : Ev (fun k => QSF.saltusref15_Heights.f k key (l.map (·.f0))) (htsL key l) := by
 have h2 := heights_l0 key hkey (l.map (·.f0)) (by rw [List.length_map]; omega) (fun y hy => by
  obtain ⟨z, hz, rfl⟩ := List.mem_map.1 hy
  have := hok z hz
  omega) (l.map (·.f0)).length 0 [] (by omega) (by simp; omega)
 simp only [List.nil_append, List.drop_zero, List.map_map] at h2
 exact h2
theorem okT_of (key : ByteArray) (l : List S46) (hn : l.length ≤ 1000) (hok : okL l) : okT l (htsL key l) = true := by
 unfold okT okIt okHt htsL
 simp only [Bool.and_eq_true, List.all_eq_true, decide_eq_true_eq, List.length_map]
 refine ⟨⟨⟨fun x hx => ?_, fun x hx => ?_⟩, trivial⟩, by omega⟩
 ·have := hok x hx
  exact ⟨⟨this.1, this.2.1⟩, this.2.2⟩
 ·obtain ⟨y, _, rfl⟩ := List.mem_map.1 hx
  have := height_hi key y.f0.toNat
  omega
theorem esOf_hts (key : ByteArray) : ∀ l : List S46, esOf l (htsL key l) = l.map (ent key)
 | [] => rfl
 | x :: r => by
  have ih := esOf_hts key r
  have e : esOf (x :: r) (htsL key (x :: r)) = ⟨((heightN key x.f0.toNat : Nat) : Int).toNat, itemT x⟩ :: esOf r (htsL key r) := by
   unfold esOf htsL
   rw [List.map_cons, List.zipWith_cons_cons]
  rw [e, ih, Int.toNat_natCast, List.map_cons]
  unfold ent
  exact List.cons_eq_cons.2 ⟨rfl, rfl⟩
theorem suf_at (key : ByteArray) (l : List S46) (a : Int) : sufT l (htsL key l) a = (ents key l).drop (a + 1).toNat := by
 unfold sufT ents
 rw [esOf_hts]
theorem set_grown_at (w : World) (b i : Nat) (u : Value) : w.grownBy (w.setCell ⟨b, i, none⟩ u) (some b) :=
 ⟨rfl, rfl, rfl, by simp, fun k _ hk => heap_setCell_other w ⟨b, i, none⟩ k u (fun e => hk (by simp [e]))⟩
set_option maxHeartbeats 2000000 in
set_option maxRecDepth 100000 in
theorem list_walk (key : ByteArray) (A0 : Option Addr) (c0 : Nat) (l : List S46) (w : World) (hr0 : Kd.C k46 w A0 l.length l) (hc0 : l.length ≤ c0) (hl : l.length ≤ 1000) (hkey : key.size ≤ 1000000000) (hok : okL l) :
  Calls Tryd.prog 70 #[.string key, .slice A0 l.length c0] w fun e w' => ∃ A2 c2, e = .returned (.agg #[.slice A0 l.length c0, .slice A2 l.length c2]) ∧ Kd.C (Kd.int .i64) w' A2 l.length (htsL key l) ∧ l.length ≤ c2 ∧ w'.ownsRow w.heap.size 3 1 (.slice A2 l.length c2) l.length (intV (htsL key l)) ∧ Below w.heap.size w w' := by
 obtain ⟨k1, e1⟩ := (keys_ev l (by omega)).rounds
 obtain ⟨k2, e2⟩ := (heights_ev key hkey l (by omega) hok).rounds
 have HK := Lib.hid (fun W (h : Below w.heap.size w W) => QSF.saltusref16_Keys.calls k1 A0 c0 l _ W (Kd.C_below hr0 h) hc0 e1)
 have HH := Lib.hid (fun A c W h h2 => QSF.saltusref15_Heights.calls k2 key A c (l.map (·.f0)) _ W h h2 e2)
 have hlen : (l.map (·.f0)).length = l.length := List.length_map _
 have hlen2 : (htsL key l).length = l.length := by unfold htsL; exact List.length_map _
 clear e1 e2 hr0 hok hkey
 go_enter Tryd.func70, Tryd.ntmps70
 generalize l.map (·.f0) = ks at *
 generalize htsL key l = hs at *
 rw [hlen] at HH
 go_upto_region 1 with (fail)
 have N := qf (Blk.new w 101 #[.slice none 0 0, .slice none 0 0])
 have HB := qf (Below.alloc (Below.refl w.heap.size w) (Nat.le_refl _) (.cells #[.slice none 0 0, .slice none 0 0] 101))
 obtain ⟨g, hg⟩ : ∃ g, w.heap.size = g := ⟨_, rfl⟩
 rw [hg] at N
 have HK2 := Lib.hid (HK.out _ HB.out)
 clear HK
 generalize w.alloc (.cells #[.slice none 0 0, .slice none 0 0] 101) = w0 at *
 rw [hg]
 go_wp2_with fail
 refine (HK2.out).mono ?_
 rintro e w1 ⟨v1, rfl, hr1, hb1⟩
 obtain ⟨A1, c1, rfl⟩ := Kd.R_slice hr1
 have q1 := qf (Kd.R_reads' hr1)
 replace N := qf (N.out.below hb1 N.out.lt)
 replace HB := qf (below_step HB.out hb1)
 have hw1 := HB.out.size
 clear hr1 hb1 HK2
 go_wp2_with fail
 have q1c : Kd.C (Kd.int .u64) w1 A1 l.length ks := by rw [← hlen]; exact q1.out.2.2
 have q1d : l.length ≤ c1 := by rw [← hlen]; exact q1.out.2.1
 refine (HH.out A1 c1 w1 q1c q1d).mono ?_
 rintro e w2 ⟨v2, rfl, hr2, hb2⟩
 obtain ⟨A2, c2, rfl⟩ := Kd.R_slice hr2
 have q2 := qf (Kd.R_reads' hr2)
 replace N := qf (N.out.below hb2 N.out.lt)
 replace HB := qf (below_step HB.out hb2)
 have hc0' := N.out.cell 0
 have hc1' := N.out.cell 1
 have hf0' := N.out.frozen 0
 have hf1' := N.out.frozen 1
 clear hb2 HH q1 q1c
 go_wp2_with fail
 have ho := own_le (Kd.own_of_R hr2) hw1
 have h1 : w.heap.size ≤ g := Nat.le_of_eq hg
 have n1 := own_ne ho N.out (by decide)
 have ho1 := ho.kept (set_grown_at w2 g 0 (.slice A0 l.length c0)) (.inr n1)
 have N1 := N.out.set_ 0 (.slice A0 l.length c0)
 have ho2 := ho1.kept (set_grown_at _ g 1 (.slice A2 l.length c2)) (.inr n1)
 have N2 := N1.set_ 1 (.slice A2 l.length c2)
 have HB2 := (HB.out.setCell (p := ⟨g, 0, none⟩) h1 (.slice A0 l.length c0)).setCell (p := ⟨g, 1, none⟩) h1 (.slice A2 l.length c2)
 generalize (w2.setCell ⟨g, 0, none⟩ (.slice A0 l.length c0)).setCell ⟨g, 1, none⟩ (.slice A2 l.length c2) = w3 at *
 have q3 := (Kd.R_reads' (Kd.R_of_own (h1 := fun _ => rfl) (ok := fun _ => True) ho2 (fun _ _ => trivial))).2
 refine bodyPost_ret (v := .agg #[.slice A0 l.length c0, .slice A2 l.length c2]) ?_ rfl ?_
 ·exact results_cell_row rfl _ _ g 101 #[.slice A0 l.length c0, .slice A2 l.length c2] (0, 0) _ rfl N2 Tryd.underlying101 rfl (by kernel_rfl)
 ·rw [hlen2] at q3 ho2
  exact ⟨A2, c2, rfl, q3.2, q3.1, ho2, HB2⟩
end Go.Proofs.YtolbhliepkcihaaDoor.Lab
end
section
namespace Go.Proofs.YtolbhliepkcihaaDoor
open Go.RowKit YtolbhliepkcihaaDoorW.PrintWords Kinds Build Lab Sha Mac Codec Tower SkipOps SkipPure
def keysB (l : List S46) : Bool := l.all fun x => decide (0 ≤ x.f0) && decide (x.f0 < 18446744073709551616)
def rightB (l : List S46) : Bool := (List.range l.length).all (fun i => decide ((it l i).f1.size ≤ 64) && (decide (i = 0) || decide (ky l (i - 1) < ky l i))) && decide (l.length ≤ 64)
theorem rightB_iff (l : List S46) : rightB l = true ↔ RightP l := by
 unfold rightB RightP okAt
 simp only [Bool.and_eq_true, List.all_eq_true, List.mem_range, decide_eq_true_eq, Bool.or_eq_true]
 constructor
 ·rintro ⟨h1, h2⟩
  refine ⟨fun i hi => ⟨(h1 i hi).1, fun h0 => ?_⟩, h2⟩
  rcases (h1 i hi).2 with h | h
  ·omega
  ·exact h
 ·rintro ⟨h1, h2⟩
  refine ⟨fun i hi => ⟨(h1 i hi).1, ?_⟩, h2⟩
  rcases Nat.eq_zero_or_pos i with h | h
  ·exact .inl h
  ·exact .inr ((h1 i hi).2 h)
theorem keysB_all (l : List S46) (h : keysB l = true) : ∀ x, x ∈ l → 0 ≤ x.f0 ∧ x.f0 < 18446744073709551616 := fun x hx => by
 have := List.all_eq_true.1 h x hx
 simpa [Bool.and_eq_true] using this
theorem right_size (l : List S46) (h : RightP l) : ∀ x, x ∈ l → x.f1.size ≤ 64 := fun x hx => by
 obtain ⟨i, hi, rfl⟩ := List.mem_iff_getElem.1 hx
 have := (h.1 i hi).1
 rw [it_mem l i hi] at this
 exact this
theorem okL_of (l : List S46) (h : RightP l) (hk : keysB l = true) : okL l := fun x hx => by
 have h1 := right_size l h x hx
 have h2 := keysB_all l hk x hx
 exact ⟨by omega, h2.1, h2.2⟩
def domB (key : ByteArray) (l : List S46) : Bool := decide (key.size ≤ 1000000000) && decide (l.length ≤ 1000) && keysB l
def saltusref16_Right.f (l0 : List S46) : Option Bool := if l0.length ≤ 100000 then some (rightB l0) else none
def leafB (a0 : Int) (a1 : ByteArray) : Bool := decide (0 ≤ a0) && decide (a0 < 18446744073709551616) && decide (a1.size ≤ 4096)
def saltusref17_Leaf.f (a0 : Int) (a1 : ByteArray) : Option ByteArray := if leafB a0 a1 = true then some (sumS (itemT ⟨a0, a1⟩)) else none
def saltusref17_Text.f (a0 : Int) (l1 : List ByteArray) : Option ByteArray := if 0 ≤ a0 ∧ a0 ≤ 1000 ∧ l1.length ≤ 1000000 ∧ (catS l1).size ≤ 1000000000000 then some (joinT a0.toNat l1) else none
theorem saltusref17_Text.calls (a0 : Int) (A1 : Option Addr) (c1 : Nat) (l1 : List ByteArray) (r : ByteArray) (w : World) (hr1 : Kd.C Kd.string w A1 l1.length l1) (hc1 : l1.length ≤ c1) (h : saltusref17_Text.f a0 l1 = some r) :
  Calls Tryd.prog 46 #[.int .i64 a0, .slice A1 l1.length c1] w fun e w' => e = .returned (.string r) ∧ Below w.heap.size w w' := by
 unfold saltusref17_Text.f at h
 split at h
 ·rename_i hd
  obtain rfl := Option.some.inj h
  obtain ⟨m, rfl⟩ : ∃ m : Nat, a0 = (m : Int) := ⟨a0.toNat, by omega⟩
  obtain ⟨k, hk⟩ := (text_ev m (by omega) l1 hd.2.2.1 hd.2.2.2).rounds
  exact QLA.saltusref17_Text.calls k (m : Int) A1 c1 l1 _ w hr1 hc1 hk
 ·cases h
end Go.Proofs.YtolbhliepkcihaaDoor
end
section
namespace Go.Proofs.YtolbhliepkcihaaDoor.Lab
open Go.RowKit YtolbhliepkcihaaDoorW.PrintWords Kinds Build Sha Mac Codec Tower Mem
def oddR (r : List ByteArray) : Bool := decide (64 < r.length) || odds r
def oddRs (l : List (List ByteArray)) : Bool := l.any oddR
theorem oddRs_snoc (l : List (List ByteArray)) (k : Nat) (h : k < l.length) : oddRs (l.take (k + 1)) = (oddRs (l.take k) || oddR l[k]) := by
 unfold oddRs
 rw [List.take_succ_eq_append_getElem h, List.any_append]
 simp
theorem oddRs_take (l : List (List ByteArray)) (k : Nat) (h : k < l.length) (ho : oddR l[k] = true) : oddRs l = true := List.any_eq_true.2 ⟨_, List.getElem_mem h, ho⟩
theorem oddR_m (A : Option Addr) (c : Nat) (r : List ByteArray) (w : World) (hr : Kd.C Kd.string w A r.length r) :
  Calls Tryd.prog 112 #[.slice A r.length c] w fun e w' => e = .returned (.bool (oddR r)) ∧ w' = w := by
 by_cases h : 64 < r.length
 ·have e : oddR r = true := by unfold oddR; rw [qj h]; rfl
  rw [e]
  have d : decide ((64 : Int) < (r.length : Int)) = true := qj (by omega)
  clear hr e
  go_enter Tryd.func112, Tryd.ntmps112
  go_wp2
  go_ret
  exact ⟨rfl, rfl⟩
 ·have e : oddR r = odds r := by unfold oddR; rw [decide_eq_false h]; rfl
  rw [e]
  have H := Lib.hid (has_b A c r w hr (by omega))
  have d : decide ((64 : Int) < (r.length : Int)) = false := decide_eq_false (by omega)
  clear hr e
  generalize odds r = b at *
  go_enter Tryd.func112, Tryd.ntmps112
  go_wp2_with (go_at_call 73; refine (H.out).mono ?_; rintro e w1 ⟨rfl, rfl⟩)
  go_ret
  exact ⟨rfl, rfl⟩
theorem rows_at {w : World} {A : Option Addr} {l : List (List ByteArray)} (h : Kd.C (Kd.slice 9 Kd.string) w A l.length l) (h0 : 0 < l.length) :
  ∃ ad, A = some ad ∧ ∀ k, (hk : k < l.length) → ∃ B d, w.cell? (ad.add k) = some (.slice B l[k].length d) ∧ l[k].length ≤ d ∧ Kd.C Kd.string w B l[k].length l[k] := by
 obtain ⟨ad, e, hc⟩ := h.2.2 h0
 refine ⟨ad, e, fun k hk => ?_⟩
 obtain ⟨c, _, ⟨B, d, rfl, hd, hC⟩, hcell⟩ := hc k _ (List.getElem?_eq_getElem hk)
 have h1 := hcell 0 _ rfl
 have h3 : k * (Kd.slice 9 Kd.string).sz + 0 = k := by show k * 1 + 0 = k; omega
 rw [h3] at h1
 exact ⟨B, d, h1, hd, hC⟩
set_option maxRecDepth 100000 in
set_option maxHeartbeats 4000000 in
theorem idx_m (ad : Addr) (c : Nat) (l : List (List ByteArray)) (w : World) (hn : l.length ≤ 1000000) (hx : ∀ k, (hk : k < l.length) → ∃ B d, w.cell? (ad.add k) = some (.slice B l[k].length d) ∧ l[k].length ≤ d ∧ Kd.C Kd.string w B l[k].length l[k]) :
  Calls Tryd.prog 130 #[.slice (some ad) l.length c, .func (.func 112) #[] #[]] w fun e w' => (∃ i : Int, e = .returned (.int .i64 i) ∧ decide (0 ≤ i) = oddRs l) ∧ w' = w := by
 have HX := Lib.hid hx
 clear hx
 go_enter Tryd.func130, Tryd.ntmps130
 go_wp2
 go_loop [8] (fun iv => ∃ k : Nat, k ≤ l.length ∧ iv = .int .i64 k ∧ Aside0 (oddRs (l.take k) = false)) (fun iv => l.length - (intOf iv).toNat)
 case atStart => exact ⟨0, Nat.zero_le _, rfl, ⟨rfl⟩⟩
 case round =>
  obtain ⟨k, hk, rfl, HO⟩ := hrel
  by_cases hlt : k < l.length
  ·obtain ⟨B, d, hcx, _, hC⟩ := HX.out k hlt
   have HS := Lib.hid (oddRs_snoc l k hlt)
   have HT := Lib.hid (oddRs_take l k hlt)
   have G := Lib.hid (oddR_m B d l[k] w hC)
   clear hC
   generalize l[k] = x at *
   cases ho : oddR x with
   | true =>
    rw [ho] at G
    go_wp2_with (go_at_call 112; refine (G.out).mono ?_; rintro e w1 ⟨rfl, rfl⟩)
    go_ret
    exact ⟨⟨_, rfl, by rw [HT.out ho]; exact qj (by omega)⟩, rfl⟩
   | false =>
    rw [ho] at G
    have HO2 := Lib.hid ho
    clear ho
    go_wp2_with (go_at_call 112; refine (G.out).mono ?_; rintro e w1 ⟨rfl, rfl⟩)
    go_round
    case rel => exact ⟨k + 1, by omega, by go_num, ⟨by rw [HS.out, HO.out, HO2.out]; rfl⟩⟩
    case measure => simp [intOf]; omega
  ·obtain rfl : k = l.length := by omega
   rw [List.take_length] at HO
   go_wp2
   go_ret
   exact ⟨⟨_, rfl, by rw [HO.out]; rfl⟩, rfl⟩
theorem idx_nil_m (A : Option Addr) (c : Nat) (w : World) : Calls Tryd.prog 130 #[.slice A 0 c, .func (.func 112) #[] #[]] w fun e w' => e = .returned (.int .i64 (-1)) ∧ w' = w := by
 go_enter Tryd.func130, Tryd.ntmps130
 go_wp2
 go_loop [8] (fun iv => iv = .int .i64 0) (fun _ => 0)
 case atStart => rfl
 case round =>
  obtain rfl := hrel
  go_wp2
  go_ret
  exact ⟨rfl, rfl⟩
set_option maxRecDepth 100000 in
theorem has_m (A : Option Addr) (c : Nat) (l : List (List ByteArray)) (w : World) (hr : Kd.C (Kd.slice 9 Kd.string) w A l.length l) (hn : l.length ≤ 1000000) :
  Calls Tryd.prog 114 #[.slice A l.length c, .func (.func 112) #[] #[]] w fun e w' => e = .returned (.bool (oddRs l)) ∧ w' = w := by
 by_cases h0 : 0 < l.length
 ·obtain ⟨ad, rfl, hx⟩ := rows_at hr h0
  have H := Lib.hid (idx_m ad c l w hn hx)
  clear hx hr h0 hn
  generalize oddRs l = b at *
  go_enter Tryd.func114, Tryd.ntmps114
  go_wp2_with (go_at_call 130; refine (H.out).mono ?_; rintro e w1 ⟨⟨i, rfl, hi⟩, rfl⟩; have HI := Lib.hid hi; clear hi)
  all_goals go_ret
  all_goals exact ⟨by rw [← HI.out]; simp, rfl⟩
 ·obtain rfl : l = [] := List.eq_nil_of_length_eq_zero (by omega)
  have H := Lib.hid (idx_nil_m A c w)
  clear hr h0 hn
  go_enter Tryd.func114, Tryd.ntmps114
  go_wp2_with (go_at_call 130; refine (H.out).mono ?_; rintro e w1 ⟨rfl, rfl⟩)
  go_ret
  exact ⟨rfl, rfl⟩
def mayN (v : ByteArray) (b a : List (List ByteArray)) : Int := if 64 < v.size then 4 else if b.length ≠ 8 ∨ a.length ≠ 8 ∨ oddRs b = true ∨ oddRs a = true then 1 else 0
theorem may_walk (a0 : Int) (v : ByteArray) (A : Option Addr) (c : Nat) (b : List (List ByteArray)) (B : Option Addr) (d : Nat) (a : List (List ByteArray)) (w : World) (hr1 : Kd.C (Kd.slice 9 Kd.string) w A b.length b) (hr2 : Kd.C (Kd.slice 9 Kd.string) w B a.length a) (hn1 : b.length ≤ 1000000) (hn2 : a.length ≤ 1000000) :
  Calls Tryd.prog 83 #[.agg #[.int .u64 a0, .string v], .agg #[.slice A b.length c, .slice B a.length d]] w fun e w' => e = .returned (.int .i64 (mayN v b a)) ∧ Below w.heap.size w w' := by
 have H1 := Lib.hid (fun W (h : Below w.heap.size w W) => has_m A c b W (Kd.C_below hr1 h) hn1)
 have H2 := Lib.hid (fun W (h : Below w.heap.size w W) => has_m B d a W (Kd.C_below hr2 h) hn2)
 clear hr1 hr2
 have HBW := qa (qa (Below.refl w.heap.size w) (.cells #[.int .u64 a0, .string v] 46)) (.cells #[.slice A b.length c, .slice B a.length d] 78)
 obtain ⟨r, hr⟩ : ∃ r, mayN v b a = r := ⟨_, rfl⟩
 rw [hr]
 unfold mayN at hr
 by_cases g : 64 < v.size
 ·rw [if_pos g] at hr
  subst hr
  have q : decide ((64 : Int) < (v.size : Int)) = true := qj (by omega)
  go_enter Tryd.func83, Tryd.ntmps83
  go_wp2
  go_ret
  exact ⟨rfl, HBW⟩
 ·rw [if_neg g] at hr
  have q : decide ((64 : Int) < (v.size : Int)) = false := decide_eq_false (by omega)
  by_cases g1 : b.length = 8
  ·have q1 : (((b.length : Nat) : Int) != 8) = false := bne_eq_false_iff_eq.2 (by omega)
   have G1 := qf g1
   clear g1
   by_cases g2 : a.length = 8
   ·have q2 : (((a.length : Nat) : Int) != 8) = false := bne_eq_false_iff_eq.2 (by omega)
    have G2 := qf g2
    clear g2
    cases o1 : oddRs b with
    | true =>
     rw [o1] at H1 hr
     rw [if_pos (.inr (.inr (.inl rfl)))] at hr
     subst hr
     go_enter Tryd.func83, Tryd.ntmps83
     go_wp2_with (go_at_call 114; (first | (with_reducible refine (H1.out _ HBW).mono ?_) | (with_reducible refine (H2.out _ HBW).mono ?_)); rintro e w1 ⟨rfl, rfl⟩)
     go_ret
     exact ⟨rfl, HBW⟩
    | false =>
     rw [o1] at H1 hr
     cases o2 : oddRs a with
     | true =>
      rw [o2] at H2 hr
      rw [if_pos (.inr (.inr (.inr rfl)))] at hr
      subst hr
      go_enter Tryd.func83, Tryd.ntmps83
      go_wp2_with (go_at_call 114; (first | (with_reducible refine (H1.out _ HBW).mono ?_) | (with_reducible refine (H2.out _ HBW).mono ?_)); rintro e w1 ⟨rfl, rfl⟩)
      go_ret
      exact ⟨rfl, HBW⟩
     | false =>
      rw [o2] at H2 hr
      rw [if_neg (by rintro (h | h | h | h); exact h G1.out; exact h G2.out; exact absurd h (by decide); exact absurd h (by decide))] at hr
      subst hr
      go_enter Tryd.func83, Tryd.ntmps83
      go_wp2_with (go_at_call 114; (first | (with_reducible refine (H1.out _ HBW).mono ?_) | (with_reducible refine (H2.out _ HBW).mono ?_)); rintro e w1 ⟨rfl, rfl⟩)
      go_ret
      exact ⟨rfl, HBW⟩
   ·have q2 : (((a.length : Nat) : Int) != 8) = true := bne_iff_ne.2 (by omega)
    rw [if_pos (.inr (.inl g2))] at hr
    subst hr
    go_enter Tryd.func83, Tryd.ntmps83
    go_wp2
    go_ret
    exact ⟨rfl, HBW⟩
  ·have q1 : (((b.length : Nat) : Int) != 8) = true := bne_iff_ne.2 (by omega)
   rw [if_pos (.inl g1)] at hr
   subst hr
   go_enter Tryd.func83, Tryd.ntmps83
   go_wp2
   go_ret
   exact ⟨rfl, HBW⟩
end Go.Proofs.YtolbhliepkcihaaDoor.Lab
namespace Go.Proofs.YtolbhliepkcihaaDoor
open Go.RowKit YtolbhliepkcihaaDoorW.PrintWords Lab
def proof_may.f (_ : Int) (a0_1 : ByteArray) (l1_0 l1_1 : List (List ByteArray)) : Option Int := if l1_0.length ≤ 1000000 ∧ l1_1.length ≤ 1000000 then some (mayN a0_1 l1_0 l1_1) else none
theorem proof_may.calls (a0_0 : Int) (a0_1 : ByteArray) (A1_0 : Option Addr) (c1_0 : Nat) (l1_0 : List (List ByteArray)) (A1_1 : Option Addr) (c1_1 : Nat) (l1_1 : List (List ByteArray)) (r : Int) (w : World) (hr1_0 : Kd.C (Kd.slice 9 Kd.string) w A1_0 l1_0.length l1_0) (_ : l1_0.length ≤ c1_0) (hr1_1 : Kd.C (Kd.slice 9 Kd.string) w A1_1 l1_1.length l1_1) (_ : l1_1.length ≤ c1_1) (h : proof_may.f a0_0 a0_1 l1_0 l1_1 = some r) :
  Calls Tryd.prog 83 #[.agg #[.int .u64 a0_0, .string a0_1], .agg #[.slice A1_0 l1_0.length c1_0, .slice A1_1 l1_1.length c1_1]] w fun e w' => e = .returned (.int .i64 r) ∧ Below w.heap.size w w' := by
 unfold proof_may.f at h
 split at h
 ·rename_i hc
  obtain rfl := Option.some.inj h
  exact may_walk a0_0 a0_1 A1_0 c1_0 l1_0 A1_1 c1_1 l1_1 w hr1_0 hr1_1 hc.1 hc.2
 ·cases h
end Go.Proofs.YtolbhliepkcihaaDoor
end
section
namespace Go.Proofs.YtolbhliepkcihaaDoor.QPA
open Go.RowKit Kinds YtolbhliepkcihaaDoorW.PrintWords YtolbhliepkcihaaDoorW.PrintLast YtolbhliepkcihaaDoorW.PrintMore
attribute [local go_sem] max2_int min2_int max_two min_two max_three min_three max_four min_four   -- for this text's walks alone
set_option linter.unusedVariables false
set_option linter.unusedSimpArgs false
theorem info9 : (Tryd.prog.info? 9).map (fun i => (i.zero, i.size, i.bytes)) = some (some (.string ⟨#[]⟩), 1, 16) := by kernel_rfl
def rd_L1 (xs : List (List ByteArray)) (i : Int) : (List ByteArray) := xs.getD i.toNat ([] : List ByteArray)
theorem at_L1 {w : World} {A : Option Addr} {n : Nat} {xs : List (List ByteArray)} (h : Kd.C (Kd.slice 9 Kd.string) w A n xs) (i : Int) (h0 : 0 ≤ i) (h1 : i < n) : ∃ ad A0 c0, A = some ad ∧ w.cell? (ad.add i.toNat) = some (.slice A0 (rd_L1 xs i).length c0) ∧ (rd_L1 xs i).length ≤ c0 ∧ Kd.string.C w A0 (rd_L1 xs i).length (rd_L1 xs i) := by
 obtain ⟨ad, c, e, _, hK, hc0⟩ := Kd.C_get h ([] : List ByteArray) i h0 h1
 have hc : ∀ j u, c[j]? = some u → w.cell? (ad.add (i.toNat * 1 + j)) = some u := hc0
 obtain ⟨A0, c0, rfl, l0, g0⟩ := hK
 exact ⟨ad, A0, c0, e, by have hq := hc 0 _ rfl; rwa [Nat.mul_one, Nat.add_zero] at hq, l0, g0⟩
end Go.Proofs.YtolbhliepkcihaaDoor.QPA
end
section
namespace Go.Proofs.YtolbhliepkcihaaDoor.QPA
open Go.RowKit Kinds YtolbhliepkcihaaDoorW.PrintWords YtolbhliepkcihaaDoorW.PrintLast YtolbhliepkcihaaDoorW.PrintMore
attribute [local go_sem] max2_int min2_int max_two min_two max_three min_three max_four min_four   -- for this text's walks alone
set_option linter.unusedVariables false
set_option linter.unusedSimpArgs false
/-! ### saltuslaw18_cut: function 82 -/
/-! ### saltuslaw18_few: function 52 -/
end Go.Proofs.YtolbhliepkcihaaDoor.QPA
end
section
namespace Go.Proofs.YtolbhliepkcihaaDoor.QPA
open Go.RowKit Kinds YtolbhliepkcihaaDoorW.PrintWords YtolbhliepkcihaaDoorW.PrintLast YtolbhliepkcihaaDoorW.PrintMore
attribute [local go_sem] max2_int min2_int max_two min_two max_three min_three max_four min_four   -- for this text's walks alone
set_option linter.unusedVariables false
set_option linter.unusedSimpArgs false
/-! ### proof_Steps: function 53 -/
def proof_Steps.l0 : Nat → List ByteArray → Int → List (List ByteArray) → List (List ByteArray) → Option (List ByteArray × Int)
 | 0, _, _, _, _ => none
 | k + 1, x9, x32, x124000, x124001 => if x32 < 8 then (if 0 ≤ x32 then (if x32 < (x9.length : Int) then ((sha_Sum.f (rdOf ByteArray.empty x9 x32)).bind fun t134 => ((codec_Number.f (IntKind.u64.wrap ((IntKind.u64.wrap (x32)) + 1))).bind fun t135 => (if 1 + t135.size ≤ 9223372036854775807 then (if x32 < (x124000.length : Int) then ((strings_Join.f (rd_L1 x124000 x32) (⟨#[]⟩ : ByteArray)).bind fun t137 => (if ((⟨#[2]⟩ : ByteArray) ++ t135).size + t137.size ≤ 9223372036854775807 then (if (((⟨#[2]⟩ : ByteArray) ++ t135) ++ t137).size + t134.size ≤ 9223372036854775807 then (if x32 < (x124001.length : Int) then ((strings_Join.f (rd_L1 x124001 x32) (⟨#[]⟩ : ByteArray)).bind fun t139 => (if ((((⟨#[2]⟩ : ByteArray) ++ t135) ++ t137) ++ t134).size + t139.size ≤ 9223372036854775807 then (if x9.length < 8796093022208 then (proof_Steps.l0 k (x9 ++ [((((⟨#[2]⟩ : ByteArray) ++ t135) ++ t137) ++ t134) ++ t139]) (wrap64 (x32 + 1)) x124000 x124001) else (none)) else (none))) else (none)) else (none)) else (none))) else (none)) else (none)))) else (none)) else (none)) else (some (x9, 0))
def proof_Steps.f (k : Nat) (a0_0 : Int) (a0_1 : ByteArray) (l1_0 : List (List ByteArray)) (l1_1 : List (List ByteArray)) : Option (List ByteArray × Int) := (proof_may.f a0_0 a0_1 l1_0 l1_1).bind fun t124 => (if t124 = 0 then ((codec_Join.f (([(⟨false, a0_0, (⟨#[]⟩ : ByteArray)⟩ : S115), (⟨true, 0, a0_1⟩ : S115)] : List (S115)))).bind fun bt128 => (if 1 + bt128.1.size ≤ 9223372036854775807 then (proof_Steps.l0 k (([(⟨#[0]⟩ : ByteArray) ++ bt128.1] : List ByteArray)) 0 l1_0 l1_1) else (none))) else (some (([] : List ByteArray), t124)))
def proof_Steps.T10 : Bool × List (List Nat × List Nat) := (true, [([], []), ([], []), ([1], [1]), ([2], [2]), ([3], [3]), ([4], [4]), ([], []), ([6], [6]), ([], []), ([7, 8], [7, 8]), ([9], [9]), ([10, 4], [10]), ([5, 11], [5, 11]), ([], []), ([12, 13], [12, 13]), ([], []), ([15], [15]), ([], []), ([16, 17], [16, 17]), ([18], [18]), ([19, 11], [19]), ([14, 20], [14, 20]), ([21], [21]), ([0, 22, 20], [0, 22]), ([23, 23, 0, 1, 2, 3, 4, 5, 6, 7, 8, 9, 10, 11, 12, 13, 14, 15, 16, 17, 18, 19, 20, 21, 22, 23], [0, 23])])
def proof_Steps.B10 : List Nat := [0, 0, 2, 6, 14, 30, 0, 64, 0, 448, 960, 2014, 4094, 0, 16382, 0, 32768, 0, 229376, 491520, 1019870, 2097150, 4194302, 8388607, 16777215]
theorem proof_Steps.tab10 : rtab .any (opsOf Tryd.f53 10) = proof_Steps.T10 := by kernel_rfl
theorem proof_Steps.bits10 : waitsOk proof_Steps.T10.2 proof_Steps.B10 = true := by kernel_rfl
set_option maxHeartbeats 8000000 in
set_option maxRecDepth 100000 in
theorem proof_Steps.calls (k : Nat) (a0_0 : Int) (a0_1 : ByteArray) (A1_0 : Option Addr) (c1_0 : Nat) (l1_0 : List (List ByteArray)) (A1_1 : Option Addr) (c1_1 : Nat) (l1_1 : List (List ByteArray)) (r1 : List ByteArray) (r2 : Int) (w : World) (hr1_0 : Kd.C (Kd.slice 9 Kd.string) w A1_0 l1_0.length l1_0) (hc1_0 : l1_0.length ≤ c1_0) (hr1_1 : Kd.C (Kd.slice 9 Kd.string) w A1_1 l1_1.length l1_1) (hc1_1 : l1_1.length ≤ c1_1) (h : proof_Steps.f k a0_0 a0_1 l1_0 l1_1 = some (r1, r2)) :
  Calls Tryd.prog 53 #[.agg #[.int .u64 a0_0, .string a0_1], .agg #[.slice A1_0 l1_0.length c1_0, .slice A1_1 l1_1.length c1_1]] w fun e w' => ∃ v0_ : Value, e = .returned (.tuple #[v0_, .int .i64 r2]) ∧ Kd.R Kd.string 9 w' w.heap.size (fun _ => True) v0_ r1 ∧ Below w.heap.size w w' := by
 have hu46 := Tryd.underlying46
 have hu78 := Tryd.underlying78
 have hu115 := Tryd.underlying115
 have HR1_0 := qf hr1_0
 have HC1_0 := qf hc1_0
 clear hr1_0 hc1_0
 have HR1_1 := qf hr1_1
 have HC1_1 := qf hc1_1
 clear hr1_1 hc1_1
 have HB := qf (Below.refl w.heap.size w)
 have H : ((proof_may.f a0_0 a0_1 l1_0 l1_1).bind fun t124 => (if t124 = 0 then ((codec_Join.f (([(⟨false, a0_0, (⟨#[]⟩ : ByteArray)⟩ : S115), (⟨true, 0, a0_1⟩ : S115)] : List (S115)))).bind fun bt128 => (if 1 + bt128.1.size ≤ 9223372036854775807 then (proof_Steps.l0 k (([(⟨#[0]⟩ : ByteArray) ++ bt128.1] : List ByteArray)) 0 l1_0 l1_1) else (none))) else (some (([] : List ByteArray), t124)))) = some (r1, r2) := h
 clear h
 replace H := qi H
 obtain ⟨t124, A30, H⟩ := H
 (try dsimp only at H)
 have A3 := qf A30
 clear A30
 by_cases c4 : t124 = 0
 ·rw [if_pos c4] at H
  have c4b0 : (t124 == 0) = true := beq_iff_eq.mpr c4
  have c4b1 : (t124 != 0) = false := bne_eq_false_iff_eq.mpr c4
  clear c4
  obtain ⟨y125, hy125⟩ : ∃ y_ : List (S115), y_ = (([(⟨false, a0_0, (⟨#[]⟩ : ByteArray)⟩ : S115), (⟨true, 0, a0_1⟩ : S115)] : List (S115))) := ⟨_, rfl⟩
  replace H : ((codec_Join.f y125).bind fun bt128 => (if 1 + bt128.1.size ≤ 9223372036854775807 then (proof_Steps.l0 k (([(⟨#[0]⟩ : ByteArray) ++ bt128.1] : List ByteArray)) 0 l1_0 l1_1) else (none))) = some (r1, r2) := by first | (rw [hy125]; with_reducible exact H) | (have H2_ := (qv _ _).symm.trans H; rw [hy125]; with_reducible exact H2_) | (have H2_ := (qv _ _).symm.trans H; with_reducible exact H2_) | with_reducible exact H | (rw [hy125]; exact H) | exact H
  have Ny125 := qf hy125
  clear hy125
  replace H := qi H
  obtain ⟨⟨t128, t129⟩, A50, H⟩ := H
  (try dsimp only at H)
  have A5 := qf A50
  clear A50
  by_cases c6 : 1 + t128.size ≤ 9223372036854775807
  ·rw [if_pos c6] at H
   have c6b0 := eq_true c6
   have c6b1 : decide (1 + t128.size ≤ 9223372036854775807) = true := qj c6
   try have c6b2 : (9223372036854775807 < 1 + t128.size) = False := eq_false (Nat.not_lt.2 c6)
   obtain ⟨y130, hy130⟩ : ∃ y_ : List ByteArray, y_ = (([(⟨#[0]⟩ : ByteArray) ++ t128] : List ByteArray)) := ⟨_, rfl⟩
   replace H : (proof_Steps.l0 k y130 0 l1_0 l1_1) = some (r1, r2) := by first | (rw [hy130]; with_reducible exact H) | (have H2_ := (qv _ _).symm.trans H; rw [hy130]; with_reducible exact H2_) | (have H2_ := (qv _ _).symm.trans H; with_reducible exact H2_) | with_reducible exact H | (rw [hy130]; exact H) | exact H
   have Ny130 := qf hy130
   clear hy130
   have H' := qf H
   clear H
   go_enter Tryd.func53, Tryd.ntmps53
   go_wp2_with (first | ((with_reducible refine gate_dst (N := 2) rfl ?_); refine box_event ?hg (N := 2) ?hd (cs := #[.int .u64 a0_0, .string a0_1]) (t := 46) ?hr ?_; (case hd => rfl); (case hg => rfl); (case hr => first | (go_simp; done) | (go_simp; rfl)); intro gb122 hg w7 hbox hb; have n0_ := qf (below_step (by repeat (first | (with_reducible first | exact HB.out | apply qa | apply qb | apply qc) | exact HB.out)) hb); have n1_ := qf (hbox); have n2_ := qf ((by rw [hg]; exact (below_size (by repeat (first | (with_reducible first | exact HB.out | apply qa | apply qb | apply qc) | exact HB.out))) : w.heap.size ≤ gb122)); have n3_ := qf ((by rw [hg]; exact (below_size (by repeat (first | (with_reducible first | exact HB.out | apply qa | apply qb | apply qc) | exact HB.out))) : w.heap.size ≤ gb122)); clear HB; have HB := n0_; have BK122 := n1_; have GW122 := n2_; have GE122 := n3_; clear n0_ n1_ n2_ n3_; clear hb hbox hg) | ((with_reducible refine gate_dst (N := 3) rfl ?_); refine box_event ?hg (N := 3) ?hd (cs := #[.slice A1_0 l1_0.length c1_0, .slice A1_1 l1_1.length c1_1]) (t := 78) ?hr ?_; (case hd => rfl); (case hg => rfl); (case hr => first | (go_simp; done) | (go_simp; rfl)); intro gb123 hg w8 hbox hb; have n0_ := qf (blk_below (g := gb122) (o := .cells #[.int .u64 a0_0, .string a0_1] 46 (0, 0)) (by (with_reducible repeat (first | refine blk_drewN ?_ _ | refine blk_drew ?_ | refine qh ?_ _)); exact BK122.out) hb); have n1_ := qf (below_step (by repeat (first | (with_reducible first | exact HB.out | apply qa | apply qb | apply qc | refine qg ?_ GE122.out) | exact HB.out)) hb); have n2_ := qf (hbox); have n3_ := qf ((by rw [hg]; exact (below_size (by repeat (first | (with_reducible first | exact HB.out | apply qa | apply qb | apply qc | refine qg ?_ GE122.out) | exact HB.out))) : w.heap.size ≤ gb123)); have n4_ := qf ((by rw [hg]; exact (below_size (by repeat (first | (with_reducible first | exact HB.out | apply qa | apply qb | apply qc | refine qg ?_ GE122.out) | exact HB.out))) : w.heap.size ≤ gb123)); have n5_ := qf ((by rw [hg]; exact Nat.ne_of_lt (blk_lt (g := gb122) (o := .cells #[.int .u64 a0_0, .string a0_1] 46 (0, 0)) (by (with_reducible repeat (first | refine blk_drewN ?_ _ | refine blk_drew ?_ | refine qh ?_ _)); exact BK122.out)) : gb122 ≠ gb123)); have n6_ := qf ((by rw [hg]; exact Nat.ne_of_gt (blk_lt (g := gb122) (o := .cells #[.int .u64 a0_0, .string a0_1] 46 (0, 0)) (by (with_reducible repeat (first | refine blk_drewN ?_ _ | refine blk_drew ?_ | refine qh ?_ _)); exact BK122.out)) : gb123 ≠ gb122)); clear BK122; clear HB; have BK122 := n0_; have HB := n1_; have BK123 := n2_; have GW123 := n3_; have GE123 := n4_; have NB122_123 := n5_; have NB123_122 := n6_; clear n0_ n1_ n2_ n3_ n4_ n5_ n6_; clear hb hbox hg; have hnb9 := NB122_123.out; have hnc9 := NB123_122.out; have hcz10_0 : w8.cell? ⟨gb122, 0, none⟩ = some (.int .u64 a0_0) := (blk_cell BK122.out 0).trans rfl; have hcz10_1 : w8.cell? ⟨gb122, 1, none⟩ = some (.string a0_1) := (blk_cell BK122.out 1).trans rfl; have hfz10_0 := blk_frozen BK122.out 0; have hfz10_1 := blk_frozen BK122.out 1; have hcz11_0 : w8.cell? ⟨gb123, 0, none⟩ = some (.slice A1_0 l1_0.length c1_0) := (blk_cell BK123.out 0).trans rfl; have hcz11_1 : w8.cell? ⟨gb123, 1, none⟩ = some (.slice A1_1 l1_1.length c1_1) := (blk_cell BK123.out 1).trans rfl; have hfz11_0 := blk_frozen BK123.out 0; have hfz11_1 := blk_frozen BK123.out 1) | ((with_reducible refine gate_callee (f := 83) rfl ?_); refine goesL_ (some 14) rfl rfl Tryd.func83 (by kernel_rfl) rfl #[.agg #[.int .u64 a0_0, .string a0_1], .agg #[.slice A1_0 l1_0.length c1_0, .slice A1_1 l1_1.length c1_1]] rfl (by (try simp only [List.map_toArray, List.map_cons, List.map_nil]); first | done | rfl | (simp only [List.length_drop, qw]; rfl)) ?_; (with_reducible refine (proof_may.calls a0_0 a0_1 _ _ l1_0 _ _ l1_1 t124 _ ?side1 ?side2 ?side3 ?side4 A3.out).mono ?_); (case side1 => repeat (first | exact (Kd.C_below HR1_0.out HB.out) | (with_reducible refine Kd.C_alloc ?_ _) | (with_reducible refine Kd.C_drewN ?_ _) | (with_reducible refine Kd.C_drew ?_))); (case side2 => exact HC1_0.out); (case side3 => repeat (first | exact (Kd.C_below HR1_1.out HB.out) | (with_reducible refine Kd.C_alloc ?_ _) | (with_reducible refine Kd.C_drewN ?_ _) | (with_reducible refine Kd.C_drew ?_))); (case side4 => exact HC1_1.out); rintro e w12 ⟨rfl, hb⟩; refine ⟨_, rfl, ?_⟩; have n0_ := qf (blk_below (g := gb122) (o := .cells #[.int .u64 a0_0, .string a0_1] 46 (0, 0)) (by (with_reducible repeat (first | refine blk_drewN ?_ _ | refine blk_drew ?_ | refine qh ?_ _)); exact BK122.out) hb); have n1_ := qf (blk_below (g := gb123) (o := .cells #[.slice A1_0 l1_0.length c1_0, .slice A1_1 l1_1.length c1_1] 78 (0, 0)) (by (with_reducible repeat (first | refine blk_drewN ?_ _ | refine blk_drew ?_ | refine qh ?_ _)); exact BK123.out) hb); have n2_ := qf (below_step (by repeat (first | (with_reducible first | exact HB.out | apply qa | apply qb | apply qc | refine qg ?_ GE122.out | refine qg ?_ GE123.out) | exact HB.out)) hb); clear BK122; clear BK123; clear HB; have BK122 := n0_; have BK123 := n1_; have HB := n2_; clear n0_ n1_ n2_; (try clear hb); (try clear hb2); (try clear hk); (try clear hi); have hcz13_0 : w12.cell? ⟨gb122, 0, none⟩ = some (.int .u64 a0_0) := (blk_cell BK122.out 0).trans rfl; have hcz13_1 : w12.cell? ⟨gb122, 1, none⟩ = some (.string a0_1) := (blk_cell BK122.out 1).trans rfl; have hfz13_0 := blk_frozen BK122.out 0; have hfz13_1 := blk_frozen BK122.out 1) | ((with_reducible refine gate_dst (N := 25) rfl ?_); refine Kd.R_lit k115 _ 115 ?hg (N := 25) ?hd (xs := ([(⟨false, a0_0, (⟨#[]⟩ : ByteArray)⟩ : S115), (⟨true, 0, a0_1⟩ : S115)] : List (S115))) (inner := [.bool false, .int .u64 a0_0, .string (⟨#[]⟩ : ByteArray), .bool true, .int .u64 0, .string a0_1]) (ok := fun _ => True) (okp := fun _ => True) ?hr ?hp (fun _ hk => hk) trivial (Below.refl _ _) (Nat.le_refl _) (by simp) ?_; (case hd => rfl); (case hg => rfl); (case hr => first | (go_simp; done) | (go_simp; rfl)); (case hp => exact (Reps.c3 (show Kd.M k115 _ _ _ (⟨false, a0_0, (⟨#[]⟩ : ByteArray)⟩ : S115) [.bool false, .int .u64 a0_0, .string (⟨#[]⟩ : ByteArray)] from (k115_mkM _ _ _ (⟨false, a0_0, (⟨#[]⟩ : ByteArray)⟩ : S115) )) (Reps.c3 (show Kd.M k115 _ _ _ (⟨true, 0, a0_1⟩ : S115) [.bool true, .int .u64 0, .string a0_1] from (k115_mkM _ _ _ (⟨true, 0, a0_1⟩ : S115) )) (Reps.none _ _)))); intro v126 w14 ho15 hb hg_ hnew_; clear hg_ hnew_; (first | rw [← Ny125.out] at ho15 | (simp only [Int.reduceToNat] at ho15; rw [← Ny125.out] at ho15)); have n0_ := qf (Kd.R_lower ho15 (below_size (by repeat (first | (with_reducible first | exact HB.out | apply qa | apply qb | apply qc | refine qg ?_ GE122.out | refine qg ?_ GE123.out) | exact HB.out)))); have n1_ := qf (blk_below (g := gb122) (o := .cells #[.int .u64 a0_0, .string a0_1] 46 (0, 0)) (by (with_reducible repeat (first | refine blk_drewN ?_ _ | refine blk_drew ?_ | refine qh ?_ _)); exact BK122.out) hb); have n2_ := qf (blk_below (g := gb123) (o := .cells #[.slice A1_0 l1_0.length c1_0, .slice A1_1 l1_1.length c1_1] 78 (0, 0)) (by (with_reducible repeat (first | refine blk_drewN ?_ _ | refine blk_drew ?_ | refine qh ?_ _)); exact BK123.out) hb); have n3_ := qf (below_step (by repeat (first | (with_reducible first | exact HB.out | apply qa | apply qb | apply qc | refine qg ?_ GE122.out | refine qg ?_ GE123.out) | exact HB.out)) hb); clear BK122; clear BK123; clear HB; have HO127 := n0_; have BK122 := n1_; have BK123 := n2_; have HB := n3_; clear n0_ n1_ n2_ n3_; clear hb ho15; obtain ⟨Ao16, co16, eo16⟩ := Kd.R_slice HO127.out; subst eo16) | ((with_reducible refine gate_callee (f := 84) rfl ?_); refine goesL_ (some 26) rfl rfl Tryd.func84 (by kernel_rfl) rfl #[.slice Ao16 y125.length co16] rfl (by (try simp only [List.map_toArray, List.map_cons, List.map_nil]); first | done | rfl | (simp only [List.length_drop, qw]; rfl)) ?_; (with_reducible refine (codec_Join.calls _ _ y125 t128 t129 _ ?side1 ?side2 A5.out).mono ?_); (case side1 => repeat (first | exact (Kd.R_reads' HO127.out).2.2 | (with_reducible refine Kd.C_alloc ?_ _) | (with_reducible refine Kd.C_drewN ?_ _) | (with_reducible refine Kd.C_drew ?_))); (case side2 => exact (Kd.R_reads' HO127.out).2.1); rintro e w17 ⟨rfl, hb⟩; refine ⟨_, rfl, ?_⟩; have n0_ := qf (Kd.R_below (by (with_reducible repeat (first | apply Kd.R_alloc | apply Kd.R_drewN | apply Kd.R_drew)); exact HO127.out) hb); have n1_ := qf (blk_below (g := gb122) (o := .cells #[.int .u64 a0_0, .string a0_1] 46 (0, 0)) (by (with_reducible repeat (first | refine blk_drewN ?_ _ | refine blk_drew ?_ | refine qh ?_ _)); exact BK122.out) hb); have n2_ := qf (blk_below (g := gb123) (o := .cells #[.slice A1_0 l1_0.length c1_0, .slice A1_1 l1_1.length c1_1] 78 (0, 0)) (by (with_reducible repeat (first | refine blk_drewN ?_ _ | refine blk_drew ?_ | refine qh ?_ _)); exact BK123.out) hb); have n3_ := qf (below_step (by repeat (first | (with_reducible first | exact HB.out | apply qa | apply qb | apply qc | refine qg ?_ GE122.out | refine qg ?_ GE123.out) | exact HB.out)) hb); clear HO127; clear BK122; clear BK123; clear HB; have HO127 := n0_; have BK122 := n1_; have BK123 := n2_; have HB := n3_; clear n0_ n1_ n2_ n3_; (try clear hb); (try clear hb2); (try clear hk); (try clear hi)) | ((with_reducible refine gate_dst (N := 31) rfl ?_); refine Kd.R_lit Kd.string _ 9 ?hg (N := 31) ?hd (xs := ([(⟨#[0]⟩ : ByteArray) ++ t128] : List ByteArray)) (inner := [.string ((⟨#[0]⟩ : ByteArray) ++ t128)]) (ok := fun _ => True) (okp := fun _ => True) ?hr ?hp (fun _ hk => hk) trivial (Below.refl _ _) (Nat.le_refl _) (by simp) ?_; (case hd => rfl); (case hg => rfl); (case hr => first | (go_simp; done) | (go_simp; rfl)); (case hp => exact (Reps.one (show Kd.M Kd.string _ _ _ ((⟨#[0]⟩ : ByteArray) ++ t128) [.string ((⟨#[0]⟩ : ByteArray) ++ t128)] from rfl) (Reps.none _ _))); intro v131 w18 ho19 hb hg_ hnew_; clear hg_ hnew_; (first | rw [← Ny130.out] at ho19 | (simp only [Int.reduceToNat] at ho19; rw [← Ny130.out] at ho19)); have n0_ := qf (Kd.R_below (by (with_reducible repeat (first | apply Kd.R_alloc | apply Kd.R_drewN | apply Kd.R_drew)); exact HO127.out) hb); have n1_ := qf (Kd.R_lower ho19 (below_size (by repeat (first | (with_reducible first | exact HB.out | apply qa | apply qb | apply qc | refine qg ?_ GE122.out | refine qg ?_ GE123.out) | exact HB.out)))); have n2_ := qf (blk_below (g := gb122) (o := .cells #[.int .u64 a0_0, .string a0_1] 46 (0, 0)) (by (with_reducible repeat (first | refine blk_drewN ?_ _ | refine blk_drew ?_ | refine qh ?_ _)); exact BK122.out) hb); have n3_ := qf (blk_below (g := gb123) (o := .cells #[.slice A1_0 l1_0.length c1_0, .slice A1_1 l1_1.length c1_1] 78 (0, 0)) (by (with_reducible repeat (first | refine blk_drewN ?_ _ | refine blk_drew ?_ | refine qh ?_ _)); exact BK123.out) hb); have n4_ := qf (below_step (by repeat (first | (with_reducible first | exact HB.out | apply qa | apply qb | apply qc | refine qg ?_ GE122.out | refine qg ?_ GE123.out) | exact HB.out)) hb); clear HO127; clear BK122; clear BK123; clear HB; have HO127 := n0_; have HO132 := n1_; have BK122 := n2_; have BK123 := n3_; have HB := n4_; clear n0_ n1_ n2_ n3_ n4_; clear hb ho19))
   go_loopg [9, 32] k (fun kq v9 v32 w' => ∃ (x9_1 : List ByteArray) (x32_1 : Int), v32 = .int .i64 x32_1 ∧ Aside0 (proof_Steps.l0 kq x9_1 x32_1 l1_0 l1_1 = some (r1, r2)) ∧ Aside0 (kq ≤ k) ∧ Aside0 (Kd.R Kd.string 9 w' w.heap.size (fun _ => True) v9 x9_1) ∧ Aside0 (w'.heap[gb122]? = some (.cells #[.int .u64 a0_0, .string a0_1] 46 (0, 0))) ∧ Aside0 (w'.heap[gb123]? = some (.cells #[(.slice A1_0 l1_0.length c1_0), (.slice A1_1 l1_1.length c1_1)] 78 (0, 0))) ∧ Aside0 (Below w.heap.size w w'))
   case atStart => exact ⟨(y130), (0), (by first | rfl | (simp; done) | (simp [*]; done)), H', ⟨Nat.le_refl _⟩, ⟨by (with_reducible repeat (first | apply Kd.R_alloc | apply Kd.R_drewN | apply Kd.R_drew)); exact HO132.out⟩, ⟨by (with_reducible repeat (first | refine blk_drewN ?_ _ | refine blk_drew ?_ | refine qh ?_ _)); exact BK122.out⟩, ⟨by (with_reducible repeat (first | refine blk_drewN ?_ _ | refine blk_drew ?_ | refine qh ?_ _)); exact BK123.out⟩, ⟨by repeat (first | (with_reducible first | exact HB.out | apply qa | apply qb | apply qc | refine qg ?_ GE122.out | refine qg ?_ GE123.out) | exact HB.out)⟩⟩
   case round =>
    clear H'
    try clear c1
    try clear p2
    try clear c3
    try clear c4
    try clear c4b0
    try clear c4b1
    try clear c5
    try clear c6
    try clear c6b0
    try clear c6b1
    try clear c6b2
    try clear c8
    try clear c9
    try clear hcz10_0
    try clear hcz10_1
    try clear hcz11_0
    try clear hcz11_1
    try clear hcz13_0
    try clear hcz13_1
    try clear hfz10_0
    try clear hfz10_1
    try clear hfz11_0
    try clear hfz11_1
    try clear hfz13_0
    try clear hfz13_1
    obtain ⟨x9_1, x32_1, rfl, HA, HK1, HO_9, BK122, BK123, HB⟩ := hrel
    cases gk with
    | zero => exact absurd HA.out (by simp [proof_Steps.l0])
    | succ k1 =>
     have H := HA.out
     clear HA
     simp only [proof_Steps.l0] at H
     by_cases c20 : x32_1 < 8
     ·rw [if_pos c20] at H
      have c20b0 : decide (x32_1 < 8) = true := qj c20
      clear c20
      by_cases c21 : 0 ≤ x32_1
      ·rw [if_pos c21] at H
       have c21b0 : decide (0 ≤ x32_1) = true := qj c21
       clear c21
       by_cases c22 : x32_1 < (x9_1.length : Int)
       ·rw [if_pos c22] at H
        have c22b0 : decide (x32_1 < (x9_1.length : Int)) = true := qj c22
        clear c22
        replace H := qi H
        obtain ⟨t134, A230, H⟩ := H
        (try dsimp only at H)
        have A23 := qf A230
        clear A230
        replace H := qi H
        obtain ⟨t135, A240, H⟩ := H
        (try dsimp only at H)
        have A24 := qf A240
        clear A240
        by_cases c25 : 1 + t135.size ≤ 9223372036854775807
        ·rw [if_pos c25] at H
         have c25b0 := eq_true c25
         have c25b1 : decide (1 + t135.size ≤ 9223372036854775807) = true := qj c25
         try have c25b2 : (9223372036854775807 < 1 + t135.size) = False := eq_false (Nat.not_lt.2 c25)
         by_cases c26 : x32_1 < (l1_0.length : Int)
         ·rw [if_pos c26] at H
          have c26b0 : decide (x32_1 < (l1_0.length : Int)) = true := qj c26
          clear c26
          replace H := qi H
          obtain ⟨t137, A270, H⟩ := H
          (try dsimp only at H)
          have A27 := qf A270
          clear A270
          by_cases c28 : ((⟨#[2]⟩ : ByteArray) ++ t135).size + t137.size ≤ 9223372036854775807
          ·rw [if_pos c28] at H
           have c28b0 := eq_true c28
           have c28b1 : decide (((⟨#[2]⟩ : ByteArray) ++ t135).size + t137.size ≤ 9223372036854775807) = true := qj c28
           try have c28b2 : (9223372036854775807 < ((⟨#[2]⟩ : ByteArray) ++ t135).size + t137.size) = False := eq_false (Nat.not_lt.2 c28)
           have c28m : (9223372036854775807 < 1 + t135.size + t137.size) = False := by have z0_ : (⟨#[2]⟩ : ByteArray).size = 1 := rfl; have h_ := c28; simp only [ByteArray.size_extract, ByteArray.size_append, Nat.min_self] at h_; exact eq_false (by omega)
           by_cases c29 : (((⟨#[2]⟩ : ByteArray) ++ t135) ++ t137).size + t134.size ≤ 9223372036854775807
           ·rw [if_pos c29] at H
            have c29b0 := eq_true c29
            have c29b1 : decide ((((⟨#[2]⟩ : ByteArray) ++ t135) ++ t137).size + t134.size ≤ 9223372036854775807) = true := qj c29
            try have c29b2 : (9223372036854775807 < (((⟨#[2]⟩ : ByteArray) ++ t135) ++ t137).size + t134.size) = False := eq_false (Nat.not_lt.2 c29)
            have c29m : (9223372036854775807 < (1 + t135.size + t137.size) + t134.size) = False := by have z0_ : (⟨#[2]⟩ : ByteArray).size = 1 := rfl; have h_ := c29; simp only [ByteArray.size_extract, ByteArray.size_append, Nat.min_self] at h_; exact eq_false (by omega)
            by_cases c30 : x32_1 < (l1_1.length : Int)
            ·rw [if_pos c30] at H
             have c30b0 : decide (x32_1 < (l1_1.length : Int)) = true := qj c30
             clear c30
             replace H := qi H
             obtain ⟨t139, A310, H⟩ := H
             (try dsimp only at H)
             have A31 := qf A310
             clear A310
             by_cases c32 : ((((⟨#[2]⟩ : ByteArray) ++ t135) ++ t137) ++ t134).size + t139.size ≤ 9223372036854775807
             ·rw [if_pos c32] at H
              have c32b0 := eq_true c32
              have c32b1 : decide (((((⟨#[2]⟩ : ByteArray) ++ t135) ++ t137) ++ t134).size + t139.size ≤ 9223372036854775807) = true := qj c32
              try have c32b2 : (9223372036854775807 < ((((⟨#[2]⟩ : ByteArray) ++ t135) ++ t137) ++ t134).size + t139.size) = False := eq_false (Nat.not_lt.2 c32)
              have c32m : (9223372036854775807 < ((1 + t135.size + t137.size) + t134.size) + t139.size) = False := by have z0_ : (⟨#[2]⟩ : ByteArray).size = 1 := rfl; have h_ := c32; simp only [ByteArray.size_extract, ByteArray.size_append, Nat.min_self] at h_; exact eq_false (by omega)
              by_cases c33 : x9_1.length < 8796093022208
              ·rw [if_pos c33] at H
               have LMc33 := qf c33
               clear c33
               obtain ⟨y140, hy140⟩ : ∃ y_ : List ByteArray, y_ = (x9_1 ++ [((((⟨#[2]⟩ : ByteArray) ++ t135) ++ t137) ++ t134) ++ t139]) := ⟨_, rfl⟩
               replace H : (proof_Steps.l0 k1 y140 (wrap64 (x32_1 + 1)) l1_0 l1_1) = some (r1, r2) := by first | (rw [hy140]; with_reducible exact H) | (have H2_ := (qv _ _).symm.trans H; rw [hy140]; with_reducible exact H2_) | (have H2_ := (qv _ _).symm.trans H; with_reducible exact H2_) | with_reducible exact H | (rw [hy140]; exact H) | exact H
               have Ny140 := qf hy140
               clear hy140
               have H' := qf H
               clear H
               obtain ⟨Ao34, co34, eo34⟩ := Kd.R_slice HO_9.out
               subst eo34
               have p133 : 0 ≤ (x32_1 : Int) := qe (by first | (with_reducible assumption) | assumption)
               have q133 : x32_1 < (x9_1.length : Int) := qe (by first | (with_reducible assumption) | assumption)
               obtain ⟨ad133, e133, hx133_0⟩ := Kd.at_string (Kd.R_reads' HO_9.out).2.2 x32_1 p133 q133
               cases e133
               replace p133 := eq_true p133
               replace q133 := eq_true q133
               try go_wp2_with (((with_reducible refine gate_callee (f := 85) rfl ?_); refine goesL_ (some 39) rfl rfl Tryd.func85 (by kernel_rfl) rfl #[.string (rdOf ByteArray.empty x9_1 x32_1)] rfl (by (try simp only [List.map_toArray, List.map_cons, List.map_nil]); first | done | rfl | (simp only [List.length_drop, qw]; rfl)) ?_; (with_reducible refine (sha_Sum.calls (rdOf ByteArray.empty x9_1 x32_1) t134 _ A23.out).mono ?_); rintro e w35 ⟨rfl, hb⟩; refine ⟨_, rfl, ?_⟩; have n0_ := qf (Kd.R_below (by (with_reducible repeat (first | apply Kd.R_alloc | apply Kd.R_drewN | apply Kd.R_drew)); exact HO_9.out) hb); have n1_ := qf (blk_below (g := gb122) (o := .cells #[.int .u64 a0_0, .string a0_1] 46 (0, 0)) (by (with_reducible repeat (first | refine blk_drewN ?_ _ | refine blk_drew ?_ | refine qh ?_ _)); exact BK122.out) hb); have n2_ := qf (blk_below (g := gb123) (o := .cells #[.slice A1_0 l1_0.length c1_0, .slice A1_1 l1_1.length c1_1] 78 (0, 0)) (by (with_reducible repeat (first | refine blk_drewN ?_ _ | refine blk_drew ?_ | refine qh ?_ _)); exact BK123.out) hb); have n3_ := qf (below_step (by repeat (first | (with_reducible first | exact HB.out | apply qa | apply qb | apply qc | refine qg ?_ GE122.out | refine qg ?_ GE123.out) | exact HB.out)) hb); clear HO_9; clear BK122; clear BK123; clear HB; have HO_9 := n0_; have BK122 := n1_; have BK123 := n2_; have HB := n3_; clear n0_ n1_ n2_ n3_; (try clear hb); (try clear hb2); (try clear hk); (try clear hi)))
               have n0_ := qf (Kd.R_drew HO_9.out)
               have n1_ := qf (blk_drew BK122.out)
               have n2_ := qf (blk_drew BK123.out)
               have n3_ := qf (qc HB.out)
               clear HO_9
               clear BK122
               clear BK123
               clear HB
               have HO_9 := n0_
               have BK122 := n1_
               have BK123 := n2_
               have HB := n3_
               clear n0_ n1_ n2_ n3_
               have p136 : 0 ≤ (x32_1 : Int) := qe (by first | (with_reducible assumption) | assumption)
               have q136 : x32_1 < (l1_0.length : Int) := qe (by first | (with_reducible assumption) | assumption)
               obtain ⟨ad136, A136_0, c136_0, e136, hx136_0, hl136_0, hi136_0⟩ := at_L1 HR1_0.out x32_1 p136 q136
               have hw136_0 := hx136_0
               cases e136
               replace hx136_0 := (HB.out.cell (qd w _ hx136_0)).trans hx136_0
               have HR136_0 := qf hi136_0
               have HC136_0 := qf hl136_0
               clear hi136_0 hl136_0
               replace p136 := eq_true p136
               replace q136 := eq_true q136
               have p138 : 0 ≤ (x32_1 : Int) := qe (by first | (with_reducible assumption) | assumption)
               have q138 : x32_1 < (l1_1.length : Int) := qe (by first | (with_reducible assumption) | assumption)
               obtain ⟨ad138, A138_0, c138_0, e138, hx138_0, hl138_0, hi138_0⟩ := at_L1 HR1_1.out x32_1 p138 q138
               have hw138_0 := hx138_0
               cases e138
               replace hx138_0 := (HB.out.cell (qd w _ hx138_0)).trans hx138_0
               have HR138_0 := qf hi138_0
               have HC138_0 := qf hl138_0
               clear hi138_0 hl138_0
               replace p138 := eq_true p138
               replace q138 := eq_true q138
               refine start_ (n := 25) (S := fun w' => w'.cell? ⟨gb123, 0, none⟩ = some (.slice (some ad136) l1_0.length c1_0) ∧ w'.cell? ⟨gb123, 1, none⟩ = some (.slice (some ad138) l1_1.length c1_1) ∧ w'.cell? (ad136.add (x32_1).toNat) = some (.slice A136_0 (rd_L1 l1_0 x32_1).length c136_0) ∧ w'.cell? (ad138.add (x32_1).toNat) = some (.slice A138_0 (rd_L1 l1_1 x32_1).length c138_0)) (ds := []) (bm 25 0) (by kernel_rfl) rfl rfl ⟨(blk_cell BK123.out 0).trans rfl, (blk_cell BK123.out 1).trans rfl, ((HB.out.cell (qd w _ hw136_0)).trans hw136_0), ((HB.out.cell (qd w _ hw138_0)).trans hw138_0)⟩ (fun hHeld => ?_); refine with_tabW proof_Steps.tab10 proof_Steps.bits10 (fun HT_ HW_ => ?_)
               generalize w35.drew = w36 at HO_9 BK122 BK123 HB HR136_0 HR138_0 hx136_0 hx138_0 hHeld ⊢
               refine pure_ (i := 0) (N := some 40) (v := ?_) (a' := ?_) (bm 25 1) rfl rfl (any_of HT_.out (by kernel_rfl)) (fun _ _ _ h => h) (Or.inl ⟨by rfl, ?_⟩) ?_ ?_
               rotate_left
               ·intro w'
                go_simp
                with_reducible rfl
               rotate_left
               ·simp only [Act.put, qs, qt, qu, i64_w, i32_w]
                rfl
               refine pure_ (i := 1) (N := some 41) (v := ?_) (a' := ?_) (bm 25 3) rfl rfl (any_of HT_.out (by kernel_rfl)) (fun _ _ _ h => h) (Or.inl ⟨by rfl, ?_⟩) ?_ ?_
               rotate_left
               ·intro w'
                go_simp
                with_reducible rfl
               rotate_left
               ·simp only [Act.put, qs, qt, qu, i64_w, i32_w]
                rfl
               refine pure_ (i := 2) (N := some 42) (v := ?_) (a' := ?_) (bm 25 7) rfl rfl (any_of HT_.out (by kernel_rfl)) (fun _ _ _ h => h) (Or.inl ⟨by rfl, ?_⟩) ?_ ?_
               rotate_left
               ·intro w'
                go_simp
                with_reducible rfl
               rotate_left
               ·simp only [Act.put, qs, qt, qu, i64_w, i32_w]
                rfl
               refine pure_ (i := 3) (N := some 43) (v := ?_) (a' := ?_) (bm 25 15) rfl rfl (any_of HT_.out (by kernel_rfl)) (fun _ _ _ h => h) (Or.inl ⟨by rfl, ?_⟩) ?_ ?_
               rotate_left
               ·intro w'
                go_simp
                with_reducible rfl
               rotate_left
               ·simp only [Act.put, qs, qt, qu, i64_w, i32_w]
                rfl
               refine pure_ (i := 6) (N := some 46) (v := ?_) (a' := ?_) (bm 25 79) rfl rfl (any_of HT_.out (by kernel_rfl)) (fun _ _ _ h => h) (Or.inl ⟨by rfl, ?_⟩) ?_ ?_
               rotate_left
               ·intro w'
                go_simp
                with_reducible rfl
               rotate_left
               ·simp only [Act.put, qs, qt, qu, i64_w, i32_w]
                rfl
               refine pure_ (i := 8) (N := some 48) (v := ?_) (a' := ?_) (bm 25 335) rfl rfl (any_of HT_.out (by kernel_rfl)) (fun _ _ _ h => h) (Or.inl ⟨by rfl, ?_⟩) ?_ ?_
               rotate_left
               ·intro w'
                go_simp
                with_reducible rfl
               rotate_left
               ·simp only [Act.put, qs, qt, qu, i64_w, i32_w]
                rfl
               refine pure_ (i := 13) (N := some 53) (v := ?_) (a' := ?_) (bm 25 8527) rfl rfl (any_of HT_.out (by kernel_rfl)) (fun _ _ _ h => h) (Or.inl ⟨by rfl, ?_⟩) ?_ ?_
               rotate_left
               ·intro w'
                go_simp
                with_reducible rfl
               rotate_left
               ·simp only [Act.put, qs, qt, qu, i64_w, i32_w]
                rfl
               refine pure_ (i := 15) (N := some 55) (v := ?_) (a' := ?_) (bm 25 41295) rfl rfl (any_of HT_.out (by kernel_rfl)) (fun _ _ _ h => h) (Or.inl ⟨by rfl, ?_⟩) ?_ ?_
               rotate_left
               ·intro w'
                go_simp
                with_reducible rfl
               rotate_left
               ·simp only [Act.put, qs, qt, qu, i64_w, i32_w]
                rfl
               refine pure_ (i := 17) (N := some 57) (v := ?_) (a' := ?_) (bm 25 172367) rfl rfl (any_of HT_.out (by kernel_rfl)) (fun _ _ _ h => h) (Or.inl ⟨by rfl, ?_⟩) ?_ ?_
               rotate_left
               ·intro w'
                go_simp
                with_reducible rfl
               rotate_left
               ·simp only [Act.put, qs, qt, qu, i64_w, i32_w]
                rfl
               refine take_ (i := 7) (N := some 47) (v := ?_) (a' := ?_) (bm 25 172495) rfl rfl (take_ofW HT_.out HW_.out (by kernel_rfl)) (fun _ _ _ h => h) (Or.inl ⟨by rfl, ?_⟩) hHeld ?_ ?_
               rotate_left
               ·rintro w' ⟨s0, s1, s2, s3⟩
                go_simp
                with_reducible rfl
               rotate_left
               ·simp only [Act.put, qs, qt, qu, i64_w, i32_w]
                rfl
               refine pure_ (i := 9) (N := some 49) (v := ?_) (a' := ?_) (bm 25 173007) rfl rfl (any_of HT_.out (by kernel_rfl)) (fun _ _ _ h => h) (Or.inl ⟨by rfl, ?_⟩) ?_ ?_
               rotate_left
               ·intro w'
                go_simp
                with_reducible rfl
               rotate_left
               ·simp only [Act.put, qs, qt, qu, i64_w, i32_w]
                rfl
               refine take_ (i := 10) (N := some 50) (v := ?_) (a' := ?_) (bm 25 174031) rfl rfl (take_ofW HT_.out HW_.out (by kernel_rfl)) (fun _ _ _ h => h) (Or.inl ⟨by rfl, ?_⟩) hHeld ?_ ?_
               rotate_left
               ·rintro w' ⟨s0, s1, s2, s3⟩
                go_simp
                with_reducible rfl
               rotate_left
               ·simp only [Act.put, qs, qt, qu, i64_w, i32_w]
                rfl
               refine take_ (i := 16) (N := some 56) (v := ?_) (a' := ?_) (bm 25 239567) rfl rfl (take_ofW HT_.out HW_.out (by kernel_rfl)) (fun _ _ _ h => h) (Or.inl ⟨by rfl, ?_⟩) hHeld ?_ ?_
               rotate_left
               ·rintro w' ⟨s0, s1, s2, s3⟩
                go_simp
                with_reducible rfl
               rotate_left
               ·simp only [Act.put, qs, qt, qu, i64_w, i32_w]
                rfl
               refine pure_ (i := 18) (N := some 58) (v := ?_) (a' := ?_) (bm 25 501711) rfl rfl (any_of HT_.out (by kernel_rfl)) (fun _ _ _ h => h) (Or.inl ⟨by rfl, ?_⟩) ?_ ?_
               rotate_left
               ·intro w'
                go_simp
                with_reducible rfl
               rotate_left
               ·simp only [Act.put, qs, qt, qu, i64_w, i32_w]
                rfl
               refine take_ (i := 19) (N := some 59) (v := ?_) (a' := ?_) (bm 25 1025999) rfl rfl (take_ofW HT_.out HW_.out (by kernel_rfl)) (fun _ _ _ h => h) (Or.inl ⟨by rfl, ?_⟩) hHeld ?_ ?_
               rotate_left
               ·rintro w' ⟨s0, s1, s2, s3⟩
                go_simp
                with_reducible rfl
               rotate_left
               ·simp only [Act.put, qs, qt, qu, i64_w, i32_w]
                rfl
               refine one_ (i := 4) (N := some 44) (bm 25 1026015) rfl rfl (one_of HT_.out (by kernel_rfl)) (by decide) (fun K hK => ?_)
               refine goes_ Tryd.func62 (by kernel_rfl) rfl #[.int .u64 (IntKind.u64.wrap ((IntKind.u64.wrap (x32_1)) + 1))] (by rfl) rfl rfl (by (try simp only [List.map_toArray, List.map_cons, List.map_nil]); first | done | rfl | (simp only [List.length_drop, qw]; rfl)) ?_
               with_reducible refine (codec_Number.calls (IntKind.u64.wrap ((IntKind.u64.wrap (x32_1)) + 1)) t135 _ A24.out).mono ?_
               rintro e w37 ⟨rfl, hb⟩
               refine ⟨_, rfl, ?_⟩
               have n0_ := qf (Kd.R_below (by (with_reducible repeat (first | apply Kd.R_alloc | apply Kd.R_drewN | apply Kd.R_drew)); exact HO_9.out) hb)
               have n1_ := qf (blk_below (g := gb122) (o := .cells #[.int .u64 a0_0, .string a0_1] 46 (0, 0)) (by (with_reducible repeat (first | refine blk_drewN ?_ _ | refine blk_drew ?_ | refine qh ?_ _)); exact BK122.out) hb)
               have n2_ := qf (blk_below (g := gb123) (o := .cells #[.slice (some ad136) l1_0.length c1_0, .slice (some ad138) l1_1.length c1_1] 78 (0, 0)) (by (with_reducible repeat (first | refine blk_drewN ?_ _ | refine blk_drew ?_ | refine qh ?_ _)); exact BK123.out) hb)
               have n3_ := qf (below_step (by repeat (first | (with_reducible first | exact HB.out | apply qa | apply qb | apply qc | refine qg ?_ GE122.out | refine qg ?_ GE123.out) | exact HB.out)) hb)
               clear HO_9
               clear BK122
               clear BK123
               clear HB
               have HO_9 := n0_
               have BK122 := n1_
               have BK123 := n2_
               have HB := n3_
               clear n0_ n1_ n2_ n3_
               (try clear hb)
               (try clear hb2)
               (try clear hk)
               (try clear hi)
               refine hK.out _ _ ⟨(blk_cell BK123.out 0).trans rfl, (blk_cell BK123.out 1).trans rfl, ((HB.out.cell (qd w _ hw136_0)).trans hw136_0), ((HB.out.cell (qd w _ hw138_0)).trans hw138_0)⟩ (fun hHeld => ?_)
               clear hK K
               refine norm_ (a' := ?_) ?_ ?_
               rotate_left
               ·show Act.put _ (some 44) _ = _
                simp only [Act.put, qs, qt, qu, i64_w, i32_w]
                rfl
               refine pure_ (i := 5) (N := some 45) (v := ?_) (a' := ?_) (bm 25 1026047) rfl rfl (any_of HT_.out (by kernel_rfl)) (fun _ _ _ h => h) (Or.inl ⟨by rfl, ?_⟩) ?_ ?_
               rotate_left
               ·intro w'
                go_simp
                with_reducible rfl
               rotate_left
               ·simp only [Act.put, qs, qt, qu, i64_w, i32_w]
                rfl
               refine one_ (i := 11) (N := some 51) (bm 25 1028095) rfl rfl (one_of HT_.out (by kernel_rfl)) (by decide) (fun K hK => ?_)
               refine goes_ Tryd.func86 (by kernel_rfl) rfl #[.slice A136_0 (rd_L1 l1_0 x32_1).length c136_0, .string (⟨#[]⟩ : ByteArray)] (by rfl) rfl rfl (by (try simp only [List.map_toArray, List.map_cons, List.map_nil]); first | done | rfl | (simp only [List.length_drop, qw]; rfl)) ?_
               with_reducible refine (strings_Join.calls _ _ (rd_L1 l1_0 x32_1) (⟨#[]⟩ : ByteArray) t137 _ ?side1 ?side2 A27.out).mono ?_
               (case side1 => repeat (first | exact (Kd.C_below HR136_0.out HB.out) | (with_reducible refine Kd.C_alloc ?_ _) | (with_reducible refine Kd.C_drewN ?_ _) | (with_reducible refine Kd.C_drew ?_)))
               (case side2 => exact HC136_0.out)
               rintro e w38 ⟨rfl, hb⟩
               refine ⟨_, rfl, ?_⟩
               have n0_ := qf (Kd.R_below (by (with_reducible repeat (first | apply Kd.R_alloc | apply Kd.R_drewN | apply Kd.R_drew)); exact HO_9.out) hb)
               have n1_ := qf (blk_below (g := gb122) (o := .cells #[.int .u64 a0_0, .string a0_1] 46 (0, 0)) (by (with_reducible repeat (first | refine blk_drewN ?_ _ | refine blk_drew ?_ | refine qh ?_ _)); exact BK122.out) hb)
               have n2_ := qf (blk_below (g := gb123) (o := .cells #[.slice (some ad136) l1_0.length c1_0, .slice (some ad138) l1_1.length c1_1] 78 (0, 0)) (by (with_reducible repeat (first | refine blk_drewN ?_ _ | refine blk_drew ?_ | refine qh ?_ _)); exact BK123.out) hb)
               have n3_ := qf (below_step (by repeat (first | (with_reducible first | exact HB.out | apply qa | apply qb | apply qc | refine qg ?_ GE122.out | refine qg ?_ GE123.out) | exact HB.out)) hb)
               clear HO_9
               clear BK122
               clear BK123
               clear HB
               have HO_9 := n0_
               have BK122 := n1_
               have BK123 := n2_
               have HB := n3_
               clear n0_ n1_ n2_ n3_
               (try clear hb)
               (try clear hb2)
               (try clear hk)
               (try clear hi)
               refine hK.out _ _ ⟨(blk_cell BK123.out 0).trans rfl, (blk_cell BK123.out 1).trans rfl, ((HB.out.cell (qd w _ hw136_0)).trans hw136_0), ((HB.out.cell (qd w _ hw138_0)).trans hw138_0)⟩ (fun hHeld => ?_)
               clear hK K
               refine norm_ (a' := ?_) ?_ ?_
               rotate_left
               ·show Act.put _ (some 51) _ = _
                simp only [Act.put, qs, qt, qu, i64_w, i32_w]
                rfl
               refine pure_ (i := 12) (N := some 52) (v := ?_) (a' := ?_) (bm 25 1032191) rfl rfl (any_of HT_.out (by kernel_rfl)) (fun _ _ _ h => h) (Or.inl ⟨by rfl, ?_⟩) ?_ ?_
               rotate_left
               ·intro w'
                go_simp
                with_reducible rfl
               rotate_left
               ·simp only [Act.put, qs, qt, qu, i64_w, i32_w]
                rfl
               refine pure_ (i := 14) (N := some 54) (v := ?_) (a' := ?_) (bm 25 1048575) rfl rfl (any_of HT_.out (by kernel_rfl)) (fun _ _ _ h => h) (Or.inl ⟨by rfl, ?_⟩) ?_ ?_
               rotate_left
               ·intro w'
                go_simp
                with_reducible rfl
               rotate_left
               ·simp only [Act.put, qs, qt, qu, i64_w, i32_w]
                rfl
               refine one_ (i := 20) (N := some 60) (bm 25 2097151) rfl rfl (one_of HT_.out (by kernel_rfl)) (by decide) (fun K hK => ?_)
               refine goes_ Tryd.func86 (by kernel_rfl) rfl #[.slice A138_0 (rd_L1 l1_1 x32_1).length c138_0, .string (⟨#[]⟩ : ByteArray)] (by rfl) rfl rfl (by (try simp only [List.map_toArray, List.map_cons, List.map_nil]); first | done | rfl | (simp only [List.length_drop, qw]; rfl)) ?_
               with_reducible refine (strings_Join.calls _ _ (rd_L1 l1_1 x32_1) (⟨#[]⟩ : ByteArray) t139 _ ?side1 ?side2 A31.out).mono ?_
               (case side1 => repeat (first | exact (Kd.C_below HR138_0.out HB.out) | (with_reducible refine Kd.C_alloc ?_ _) | (with_reducible refine Kd.C_drewN ?_ _) | (with_reducible refine Kd.C_drew ?_)))
               (case side2 => exact HC138_0.out)
               rintro e w39 ⟨rfl, hb⟩
               refine ⟨_, rfl, ?_⟩
               have n0_ := qf (Kd.R_below (by (with_reducible repeat (first | apply Kd.R_alloc | apply Kd.R_drewN | apply Kd.R_drew)); exact HO_9.out) hb)
               have n1_ := qf (blk_below (g := gb122) (o := .cells #[.int .u64 a0_0, .string a0_1] 46 (0, 0)) (by (with_reducible repeat (first | refine blk_drewN ?_ _ | refine blk_drew ?_ | refine qh ?_ _)); exact BK122.out) hb)
               have n2_ := qf (blk_below (g := gb123) (o := .cells #[.slice (some ad136) l1_0.length c1_0, .slice (some ad138) l1_1.length c1_1] 78 (0, 0)) (by (with_reducible repeat (first | refine blk_drewN ?_ _ | refine blk_drew ?_ | refine qh ?_ _)); exact BK123.out) hb)
               have n3_ := qf (below_step (by repeat (first | (with_reducible first | exact HB.out | apply qa | apply qb | apply qc | refine qg ?_ GE122.out | refine qg ?_ GE123.out) | exact HB.out)) hb)
               clear HO_9
               clear BK122
               clear BK123
               clear HB
               have HO_9 := n0_
               have BK122 := n1_
               have BK123 := n2_
               have HB := n3_
               clear n0_ n1_ n2_ n3_
               (try clear hb)
               (try clear hb2)
               (try clear hk)
               (try clear hi)
               refine hK.out _ _ ⟨(blk_cell BK123.out 0).trans rfl, (blk_cell BK123.out 1).trans rfl, ((HB.out.cell (qd w _ hw136_0)).trans hw136_0), ((HB.out.cell (qd w _ hw138_0)).trans hw138_0)⟩ (fun hHeld => ?_)
               clear hK K
               refine norm_ (a' := ?_) ?_ ?_
               rotate_left
               ·show Act.put _ (some 60) _ = _
                simp only [Act.put, qs, qt, qu, i64_w, i32_w]
                rfl
               refine pure_ (i := 21) (N := some 61) (v := ?_) (a' := ?_) (bm 25 4194303) rfl rfl (any_of HT_.out (by kernel_rfl)) (fun _ _ _ h => h) (Or.inl ⟨by rfl, ?_⟩) ?_ ?_
               rotate_left
               ·intro w'
                go_simp
                with_reducible rfl
               rotate_left
               ·simp only [Act.put, qs, qt, qu, i64_w, i32_w]
                rfl
               refine one_ (i := 22) (N := some 62) (bm 25 8388607) rfl rfl (one_of HT_.out (by kernel_rfl)) (by decide) (fun K hK => ?_)
               refine value_ (w1 := ?_) (v := ?_) (by rfl) rfl ?_ ?_
               rotate_left 2
               ·go_simp
                constructor
                ·rfl
                ·rfl
               refine hK.out _ _ ⟨(blk_cell (qh BK123.out _) 0).trans rfl, (blk_cell (qh BK123.out _) 1).trans rfl, (World.cell?_alloc_lt _ _ _ (qd _ _ (((HB.out.cell (qd w _ hw136_0)).trans hw136_0)))).trans (((HB.out.cell (qd w _ hw136_0)).trans hw136_0)), (World.cell?_alloc_lt _ _ _ (qd _ _ (((HB.out.cell (qd w _ hw138_0)).trans hw138_0)))).trans (((HB.out.cell (qd w _ hw138_0)).trans hw138_0))⟩ (fun hHeld => ?_)
               clear hK K
               refine norm_ (a' := ?_) ?_ ?_
               rotate_left
               ·show Act.put _ (some 62) _ = _
                simp only [Act.put, qs, qt, qu, i64_w, i32_w]
                rfl
               refine one_ (i := 23) (N := some 63) (bm 25 16777215) rfl rfl (one_of HT_.out (by kernel_rfl)) (by decide) (fun K hK => ?_)
               refine Kd.R_append_step Kd.string (w0 := w) w.heap.size (by rfl) (.tmp 40) (.tmp 62) 49 9 (.string ⟨#[]⟩) 16 rfl Tryd.underlying49 info9 rfl (by decide) (by omega) (.slice (some ad133) x9_1.length co34) x9_1 (((((⟨#[2]⟩ : ByteArray) ++ t135) ++ t137) ++ t134) ++ t139) [.string (((((⟨#[2]⟩ : ByteArray) ++ t135) ++ t137) ++ t134) ++ t139)] (fun _ => True) (fun _ => False) rfl rfl ?aP (fun _ hk => hk.elim) ?aF ?aO ?aB ?aS ?aL ?_
               (case aP => exact rfl)
               (case aB => exact (by repeat (first | (with_reducible first | exact HB.out | apply qa | apply qb | apply qc | refine qg ?_ GE122.out | refine qg ?_ GE123.out) | exact HB.out)))
               (case aF => exact (fun _ _ => trivial))
               (case aO => exact (by (with_reducible repeat (first | apply Kd.R_alloc | apply Kd.R_drewN | apply Kd.R_drew)); exact HO_9.out))
               (case aS => exact (below_size (by repeat (first | (with_reducible first | exact HB.out | apply qa | apply qb | apply qc | refine qg ?_ GE122.out | refine qg ?_ GE123.out) | exact HB.out))))
               (case aL => have := LMc33.out; omega)
               intro v141 w40 ho hb hg hat
               rw [← Ny140.out] at ho
               have n0_ := qf (blk_grown (g := gb122) (o := .cells #[.int .u64 a0_0, .string a0_1] 46 (0, 0)) (by (with_reducible repeat (first | refine blk_drewN ?_ _ | refine blk_drew ?_ | refine qh ?_ _)); exact BK122.out) hg (Kd.R_ne HO_9.out BK122.out (by decide)))
               have n1_ := qf (blk_grown (g := gb123) (o := .cells #[.slice (some ad136) l1_0.length c1_0, .slice (some ad138) l1_1.length c1_1] 78 (0, 0)) (by (with_reducible repeat (first | refine blk_drewN ?_ _ | refine blk_drew ?_ | refine qh ?_ _)); exact BK123.out) hg (Kd.R_ne HO_9.out BK123.out (by decide)))
               have n2_ := qf (hb)
               have n3_ := qf (ho)
               clear BK122
               clear BK123
               clear HB
               clear HO_9
               have BK122 := n0_
               have BK123 := n1_
               have HB := n2_
               have HO142 := n3_
               clear n0_ n1_ n2_ n3_
               clear ho hb hg hat
               refine hK.out _ _ ⟨(blk_cell BK123.out 0).trans rfl, (blk_cell BK123.out 1).trans rfl, ((HB.out.cell (qd w _ hw136_0)).trans hw136_0), ((HB.out.cell (qd w _ hw138_0)).trans hw138_0)⟩ (fun hHeld => ?_)
               clear hK K
               refine norm_ (a' := ?_) ?_ ?_
               rotate_left
               ·show Act.put _ (some 63) _ = _
                simp only [Act.put, qs, qt, qu, i64_w, i32_w]
                rfl
               refine pure_ (i := 24) (N := some 9) (v := ?_) (a' := ?_) (bm 25 33554431) rfl rfl (any_of HT_.out (by kernel_rfl)) (fun _ _ _ h => h) (Or.inl ⟨by rfl, ?_⟩) ?_ ?_
               rotate_left
               ·intro w'
                go_simp
                with_reducible rfl
               rotate_left
               ·simp only [Act.put, qs, qt, qu, i64_w, i32_w]
                rfl
               refine done_ (done_of HT_.out (by kernel_rfl)) ?_
               try go_wp2
               go_roundg k1
               case measure => have := HK1.out; omega
               case rel => exact ⟨(y140), (wrap64 (x32_1 + 1)), (by first | rfl | (simp; done) | (simp [*]; done)), H', ⟨by have := HK1.out; omega⟩, ⟨by (with_reducible repeat (first | apply Kd.R_alloc | apply Kd.R_drewN | apply Kd.R_drew)); exact HO142.out⟩, ⟨by (with_reducible repeat (first | refine blk_drewN ?_ _ | refine blk_drew ?_ | refine qh ?_ _)); exact BK122.out⟩, ⟨by (with_reducible repeat (first | refine blk_drewN ?_ _ | refine blk_drew ?_ | refine qh ?_ _)); exact BK123.out⟩, ⟨by repeat (first | (with_reducible first | exact HB.out | apply qa | apply qb | apply qc | refine qg ?_ GE122.out | refine qg ?_ GE123.out) | exact HB.out)⟩⟩
              ·rw [if_neg c33] at H
               exact absurd H (by simp)
             ·rw [if_neg c32] at H
              exact absurd H (by simp)
            ·rw [if_neg c30] at H
             exact absurd H (by simp)
           ·rw [if_neg c29] at H
            exact absurd H (by simp)
          ·rw [if_neg c28] at H
           exact absurd H (by simp)
         ·rw [if_neg c26] at H
          exact absurd H (by simp)
        ·rw [if_neg c25] at H
         exact absurd H (by simp)
       ·rw [if_neg c22] at H
        exact absurd H (by simp)
      ·rw [if_neg c21] at H
       exact absurd H (by simp)
     ·rw [if_neg c20] at H
      have c20b0 : decide (x32_1 < 8) = false := decide_eq_false c20
      clear c20
      simp only [Option.some.injEq, Prod.mk.injEq] at H
      obtain ⟨rfl, rfl⟩ := H
      go_wp2
      go_ret2
      exact ⟨_, by first | rfl | (simp [errW_none, errW_some] <;> rfl) | (simp [*, errW_none, errW_some] <;> rfl), by (with_reducible repeat (first | apply Kd.R_alloc | apply Kd.R_drewN | apply Kd.R_drew)); exact HO_9.out, by repeat (first | (with_reducible first | exact HB.out | apply qa | apply qb | apply qc | refine qg ?_ GE122.out | refine qg ?_ GE123.out) | exact HB.out)⟩
  ·rw [if_neg c6] at H
   exact absurd H (by simp)
 ·rw [if_neg c4] at H
  have c4b0 : (t124 == 0) = false := beq_eq_false_iff_ne.mpr c4
  have c4b1 : (t124 != 0) = true := bne_iff_ne.mpr c4
  simp only [Option.some.injEq, Prod.mk.injEq] at H
  obtain ⟨rfl, rfl⟩ := H
  go_enter Tryd.func53, Tryd.ntmps53
  go_wp2_with (first | ((with_reducible refine gate_dst (N := 2) rfl ?_); refine box_event ?hg (N := 2) ?hd (cs := #[.int .u64 a0_0, .string a0_1]) (t := 46) ?hr ?_; (case hd => rfl); (case hg => rfl); (case hr => first | (go_simp; done) | (go_simp; rfl)); intro gb122 hg w41 hbox hb; have n0_ := qf (below_step (by repeat (first | (with_reducible first | exact HB.out | apply qa | apply qb | apply qc) | exact HB.out)) hb); have n1_ := qf (hbox); have n2_ := qf ((by rw [hg]; exact (below_size (by repeat (first | (with_reducible first | exact HB.out | apply qa | apply qb | apply qc) | exact HB.out))) : w.heap.size ≤ gb122)); have n3_ := qf ((by rw [hg]; exact (below_size (by repeat (first | (with_reducible first | exact HB.out | apply qa | apply qb | apply qc) | exact HB.out))) : w.heap.size ≤ gb122)); clear HB; have HB := n0_; have BK122 := n1_; have GW122 := n2_; have GE122 := n3_; clear n0_ n1_ n2_ n3_; clear hb hbox hg) | ((with_reducible refine gate_dst (N := 3) rfl ?_); refine box_event ?hg (N := 3) ?hd (cs := #[.slice A1_0 l1_0.length c1_0, .slice A1_1 l1_1.length c1_1]) (t := 78) ?hr ?_; (case hd => rfl); (case hg => rfl); (case hr => first | (go_simp; done) | (go_simp; rfl)); intro gb123 hg w42 hbox hb; have n0_ := qf (blk_below (g := gb122) (o := .cells #[.int .u64 a0_0, .string a0_1] 46 (0, 0)) (by (with_reducible repeat (first | refine blk_drewN ?_ _ | refine blk_drew ?_ | refine qh ?_ _)); exact BK122.out) hb); have n1_ := qf (below_step (by repeat (first | (with_reducible first | exact HB.out | apply qa | apply qb | apply qc | refine qg ?_ GE122.out) | exact HB.out)) hb); have n2_ := qf (hbox); have n3_ := qf ((by rw [hg]; exact (below_size (by repeat (first | (with_reducible first | exact HB.out | apply qa | apply qb | apply qc | refine qg ?_ GE122.out) | exact HB.out))) : w.heap.size ≤ gb123)); have n4_ := qf ((by rw [hg]; exact (below_size (by repeat (first | (with_reducible first | exact HB.out | apply qa | apply qb | apply qc | refine qg ?_ GE122.out) | exact HB.out))) : w.heap.size ≤ gb123)); have n5_ := qf ((by rw [hg]; exact Nat.ne_of_lt (blk_lt (g := gb122) (o := .cells #[.int .u64 a0_0, .string a0_1] 46 (0, 0)) (by (with_reducible repeat (first | refine blk_drewN ?_ _ | refine blk_drew ?_ | refine qh ?_ _)); exact BK122.out)) : gb122 ≠ gb123)); have n6_ := qf ((by rw [hg]; exact Nat.ne_of_gt (blk_lt (g := gb122) (o := .cells #[.int .u64 a0_0, .string a0_1] 46 (0, 0)) (by (with_reducible repeat (first | refine blk_drewN ?_ _ | refine blk_drew ?_ | refine qh ?_ _)); exact BK122.out)) : gb123 ≠ gb122)); clear BK122; clear HB; have BK122 := n0_; have HB := n1_; have BK123 := n2_; have GW123 := n3_; have GE123 := n4_; have NB122_123 := n5_; have NB123_122 := n6_; clear n0_ n1_ n2_ n3_ n4_ n5_ n6_; clear hb hbox hg; have hnb43 := NB122_123.out; have hnc43 := NB123_122.out; have hcz44_0 : w42.cell? ⟨gb122, 0, none⟩ = some (.int .u64 a0_0) := (blk_cell BK122.out 0).trans rfl; have hcz44_1 : w42.cell? ⟨gb122, 1, none⟩ = some (.string a0_1) := (blk_cell BK122.out 1).trans rfl; have hfz44_0 := blk_frozen BK122.out 0; have hfz44_1 := blk_frozen BK122.out 1; have hcz45_0 : w42.cell? ⟨gb123, 0, none⟩ = some (.slice A1_0 l1_0.length c1_0) := (blk_cell BK123.out 0).trans rfl; have hcz45_1 : w42.cell? ⟨gb123, 1, none⟩ = some (.slice A1_1 l1_1.length c1_1) := (blk_cell BK123.out 1).trans rfl; have hfz45_0 := blk_frozen BK123.out 0; have hfz45_1 := blk_frozen BK123.out 1) | ((with_reducible refine gate_callee (f := 83) rfl ?_); refine goesL_ (some 14) rfl rfl Tryd.func83 (by kernel_rfl) rfl #[.agg #[.int .u64 a0_0, .string a0_1], .agg #[.slice A1_0 l1_0.length c1_0, .slice A1_1 l1_1.length c1_1]] rfl (by (try simp only [List.map_toArray, List.map_cons, List.map_nil]); first | done | rfl | (simp only [List.length_drop, qw]; rfl)) ?_; (with_reducible refine (proof_may.calls a0_0 a0_1 _ _ l1_0 _ _ l1_1 t124 _ ?side1 ?side2 ?side3 ?side4 A3.out).mono ?_); (case side1 => repeat (first | exact (Kd.C_below HR1_0.out HB.out) | (with_reducible refine Kd.C_alloc ?_ _) | (with_reducible refine Kd.C_drewN ?_ _) | (with_reducible refine Kd.C_drew ?_))); (case side2 => exact HC1_0.out); (case side3 => repeat (first | exact (Kd.C_below HR1_1.out HB.out) | (with_reducible refine Kd.C_alloc ?_ _) | (with_reducible refine Kd.C_drewN ?_ _) | (with_reducible refine Kd.C_drew ?_))); (case side4 => exact HC1_1.out); rintro e w46 ⟨rfl, hb⟩; refine ⟨_, rfl, ?_⟩; have n0_ := qf (blk_below (g := gb122) (o := .cells #[.int .u64 a0_0, .string a0_1] 46 (0, 0)) (by (with_reducible repeat (first | refine blk_drewN ?_ _ | refine blk_drew ?_ | refine qh ?_ _)); exact BK122.out) hb); have n1_ := qf (blk_below (g := gb123) (o := .cells #[.slice A1_0 l1_0.length c1_0, .slice A1_1 l1_1.length c1_1] 78 (0, 0)) (by (with_reducible repeat (first | refine blk_drewN ?_ _ | refine blk_drew ?_ | refine qh ?_ _)); exact BK123.out) hb); have n2_ := qf (below_step (by repeat (first | (with_reducible first | exact HB.out | apply qa | apply qb | apply qc | refine qg ?_ GE122.out | refine qg ?_ GE123.out) | exact HB.out)) hb); clear BK122; clear BK123; clear HB; have BK122 := n0_; have BK123 := n1_; have HB := n2_; clear n0_ n1_ n2_; (try clear hb); (try clear hb2); (try clear hk); (try clear hi)))
  go_ret2
  exact ⟨_, by first | rfl | (simp [errW_none, errW_some] <;> rfl) | (simp [*, errW_none, errW_some] <;> rfl), by first | exact Kd.R_nil _ _ _ _ _ | exact Kd.N_nil _ _ _ _ _ | exact Kd.V_nil _ _ _ _ _ | exact Kd.Q_nil _ _ _ _ _ | exact Kd.S_nil _ _ _ _ _, by repeat (first | (with_reducible first | exact HB.out | apply qa | apply qb | apply qc | refine qg ?_ GE122.out | refine qg ?_ GE123.out) | exact HB.out)⟩
/-! ### proof_Check: function 54 -/
def proof_Check.f (k : Nat) (a0 : ByteArray) (a1_0 : Int) (a1_1 : ByteArray) (l2_0 : List (List ByteArray)) (l2_1 : List (List ByteArray)) : Option (Bool × Int) := (proof_Steps.f k a1_0 a1_1 l2_0 l2_1).bind fun bt145 => (if bt145.2 = 0 then (if 0 ≤ (wrap64 ((bt145.1.length : Int) - 1)) then (if (wrap64 ((bt145.1.length : Int) - 1)) < (bt145.1.length : Int) then ((sha_Sum.f (rdOf ByteArray.empty bt145.1 (wrap64 ((bt145.1.length : Int) - 1)))).bind fun t150 => (some ((t150.toList == a0.toList), 0))) else (none)) else (none)) else (some (false, bt145.2)))
set_option maxHeartbeats 8000000 in
set_option maxRecDepth 100000 in
theorem proof_Check.calls (k : Nat) (a0 : ByteArray) (a1_0 : Int) (a1_1 : ByteArray) (A2_0 : Option Addr) (c2_0 : Nat) (l2_0 : List (List ByteArray)) (A2_1 : Option Addr) (c2_1 : Nat) (l2_1 : List (List ByteArray)) (r1 : Bool) (r2 : Int) (w : World) (hr2_0 : Kd.C (Kd.slice 9 Kd.string) w A2_0 l2_0.length l2_0) (hc2_0 : l2_0.length ≤ c2_0) (hr2_1 : Kd.C (Kd.slice 9 Kd.string) w A2_1 l2_1.length l2_1) (hc2_1 : l2_1.length ≤ c2_1) (h : proof_Check.f k a0 a1_0 a1_1 l2_0 l2_1 = some (r1, r2)) :
  Calls Tryd.prog 54 #[.string a0, .agg #[.int .u64 a1_0, .string a1_1], .agg #[.slice A2_0 l2_0.length c2_0, .slice A2_1 l2_1.length c2_1]] w fun e w' => e = .returned (.tuple #[.bool r1, .int .i64 r2]) ∧ Below w.heap.size w w' := by
 have hu46 := Tryd.underlying46
 have hu78 := Tryd.underlying78
 have HR2_0 := qf hr2_0
 have HC2_0 := qf hc2_0
 clear hr2_0 hc2_0
 have HR2_1 := qf hr2_1
 have HC2_1 := qf hc2_1
 clear hr2_1 hc2_1
 have HB := qf (Below.refl w.heap.size w)
 have H : ((proof_Steps.f k a1_0 a1_1 l2_0 l2_1).bind fun bt145 => (if bt145.2 = 0 then (if 0 ≤ (wrap64 ((bt145.1.length : Int) - 1)) then (if (wrap64 ((bt145.1.length : Int) - 1)) < (bt145.1.length : Int) then ((sha_Sum.f (rdOf ByteArray.empty bt145.1 (wrap64 ((bt145.1.length : Int) - 1)))).bind fun t150 => (some ((t150.toList == a0.toList), 0))) else (none)) else (none)) else (some (false, bt145.2)))) = some (r1, r2) := h
 clear h
 replace H := qi H
 obtain ⟨⟨t145, t148⟩, A40, H⟩ := H
 (try dsimp only at H)
 have A4 := qf A40
 clear A40
 by_cases c5 : t148 = 0
 ·rw [if_pos c5] at H
  have c5b0 : (t148 == 0) = true := beq_iff_eq.mpr c5
  have c5b1 : (t148 != 0) = false := bne_eq_false_iff_eq.mpr c5
  clear c5
  obtain ⟨ji6, hji6⟩ : ∃ j_ : Int, (wrap64 ((t145.length : Int) - 1)) = j_ := ⟨_, rfl⟩
  replace H : (if 0 ≤ (ji6) then (if (ji6) < (t145.length : Int) then ((sha_Sum.f (rdOf ByteArray.empty t145 (ji6))).bind fun t150 => (some ((t150.toList == a0.toList), 0))) else (none)) else (none)) = some (r1, r2) := by first | (rw [hji6] at H; exact H) | (simp only [hji6] at H ⊢; exact H)
  (try rw [hji6] at A4)
  have hji6w : (IntKind.i64.wrap ((t145.length : Int) - 1)) = ji6 := (i64_w _).trans hji6
  by_cases c7 : 0 ≤ (ji6)
  ·rw [if_pos c7] at H
   have c7b0 : decide (0 ≤ (ji6)) = true := qj c7
   clear c7
   by_cases c8 : (ji6) < (t145.length : Int)
   ·rw [if_pos c8] at H
    have c8b0 : decide ((ji6) < (t145.length : Int)) = true := qj c8
    clear c8
    replace H := qi H
    obtain ⟨t150, A90, H⟩ := H
    (try dsimp only at H)
    have A9 := qf A90
    clear A90
    simp only [Option.some.injEq, Prod.mk.injEq] at H
    obtain ⟨rfl, rfl⟩ := H
    go_enter Tryd.func54, Tryd.ntmps54
    go_wp2_with (first | ((with_reducible refine gate_dst (N := 4) rfl ?_); refine box_event ?hg (N := 4) ?hd (cs := #[.int .u64 a1_0, .string a1_1]) (t := 46) ?hr ?_; (case hd => rfl); (case hg => rfl); (case hr => first | (go_simp; done) | (go_simp; rfl)); intro gb143 hg w10 hbox hb; have n0_ := qf (below_step (by repeat (first | (with_reducible first | exact HB.out | apply qa | apply qb | apply qc) | exact HB.out)) hb); have n1_ := qf (hbox); have n2_ := qf ((by rw [hg]; exact (below_size (by repeat (first | (with_reducible first | exact HB.out | apply qa | apply qb | apply qc) | exact HB.out))) : w.heap.size ≤ gb143)); have n3_ := qf ((by rw [hg]; exact (below_size (by repeat (first | (with_reducible first | exact HB.out | apply qa | apply qb | apply qc) | exact HB.out))) : w.heap.size ≤ gb143)); clear HB; have HB := n0_; have BK143 := n1_; have GW143 := n2_; have GE143 := n3_; clear n0_ n1_ n2_ n3_; clear hb hbox hg) | ((with_reducible refine gate_dst (N := 5) rfl ?_); refine box_event ?hg (N := 5) ?hd (cs := #[.slice A2_0 l2_0.length c2_0, .slice A2_1 l2_1.length c2_1]) (t := 78) ?hr ?_; (case hd => rfl); (case hg => rfl); (case hr => first | (go_simp; done) | (go_simp; rfl)); intro gb144 hg w11 hbox hb; have n0_ := qf (blk_below (g := gb143) (o := .cells #[.int .u64 a1_0, .string a1_1] 46 (0, 0)) (by (with_reducible repeat (first | refine blk_drewN ?_ _ | refine blk_drew ?_ | refine qh ?_ _)); exact BK143.out) hb); have n1_ := qf (below_step (by repeat (first | (with_reducible first | exact HB.out | apply qa | apply qb | apply qc | refine qg ?_ GE143.out) | exact HB.out)) hb); have n2_ := qf (hbox); have n3_ := qf ((by rw [hg]; exact (below_size (by repeat (first | (with_reducible first | exact HB.out | apply qa | apply qb | apply qc | refine qg ?_ GE143.out) | exact HB.out))) : w.heap.size ≤ gb144)); have n4_ := qf ((by rw [hg]; exact (below_size (by repeat (first | (with_reducible first | exact HB.out | apply qa | apply qb | apply qc | refine qg ?_ GE143.out) | exact HB.out))) : w.heap.size ≤ gb144)); have n5_ := qf ((by rw [hg]; exact Nat.ne_of_lt (blk_lt (g := gb143) (o := .cells #[.int .u64 a1_0, .string a1_1] 46 (0, 0)) (by (with_reducible repeat (first | refine blk_drewN ?_ _ | refine blk_drew ?_ | refine qh ?_ _)); exact BK143.out)) : gb143 ≠ gb144)); have n6_ := qf ((by rw [hg]; exact Nat.ne_of_gt (blk_lt (g := gb143) (o := .cells #[.int .u64 a1_0, .string a1_1] 46 (0, 0)) (by (with_reducible repeat (first | refine blk_drewN ?_ _ | refine blk_drew ?_ | refine qh ?_ _)); exact BK143.out)) : gb144 ≠ gb143)); clear BK143; clear HB; have BK143 := n0_; have HB := n1_; have BK144 := n2_; have GW144 := n3_; have GE144 := n4_; have NB143_144 := n5_; have NB144_143 := n6_; clear n0_ n1_ n2_ n3_ n4_ n5_ n6_; clear hb hbox hg; have hnb12 := NB143_144.out; have hnc12 := NB144_143.out; have hcz13_0 : w11.cell? ⟨gb143, 0, none⟩ = some (.int .u64 a1_0) := (blk_cell BK143.out 0).trans rfl; have hcz13_1 : w11.cell? ⟨gb143, 1, none⟩ = some (.string a1_1) := (blk_cell BK143.out 1).trans rfl; have hfz13_0 := blk_frozen BK143.out 0; have hfz13_1 := blk_frozen BK143.out 1; have hcz14_0 : w11.cell? ⟨gb144, 0, none⟩ = some (.slice A2_0 l2_0.length c2_0) := (blk_cell BK144.out 0).trans rfl; have hcz14_1 : w11.cell? ⟨gb144, 1, none⟩ = some (.slice A2_1 l2_1.length c2_1) := (blk_cell BK144.out 1).trans rfl; have hfz14_0 := blk_frozen BK144.out 0; have hfz14_1 := blk_frozen BK144.out 1) | ((with_reducible refine gate_callee (f := 53) rfl ?_); refine goesL_ (some 13) rfl rfl Tryd.func53 (by kernel_rfl) rfl #[.agg #[.int .u64 a1_0, .string a1_1], .agg #[.slice A2_0 l2_0.length c2_0, .slice A2_1 l2_1.length c2_1]] rfl (by (try simp only [List.map_toArray, List.map_cons, List.map_nil]); first | done | rfl | (simp only [List.length_drop, qw]; rfl)) ?_; (with_reducible refine (proof_Steps.calls k a1_0 a1_1 _ _ l2_0 _ _ l2_1 t145 t148 _ ?side1 ?side2 ?side3 ?side4 A4.out).mono ?_); (case side1 => repeat (first | exact (Kd.C_below HR2_0.out HB.out) | (with_reducible refine Kd.C_alloc ?_ _) | (with_reducible refine Kd.C_drewN ?_ _) | (with_reducible refine Kd.C_drew ?_))); (case side2 => exact HC2_0.out); (case side3 => repeat (first | exact (Kd.C_below HR2_1.out HB.out) | (with_reducible refine Kd.C_alloc ?_ _) | (with_reducible refine Kd.C_drewN ?_ _) | (with_reducible refine Kd.C_drew ?_))); (case side4 => exact HC2_1.out); rintro e w15 ⟨v146, rfl, ho0, hb⟩; refine ⟨_, rfl, ?_⟩; have n0_ := qf (Kd.R_lower ho0 (below_size (by repeat (first | (with_reducible first | exact HB.out | apply qa | apply qb | apply qc | refine qg ?_ GE143.out | refine qg ?_ GE144.out) | exact HB.out)))); have n1_ := qf (blk_below (g := gb143) (o := .cells #[.int .u64 a1_0, .string a1_1] 46 (0, 0)) (by (with_reducible repeat (first | refine blk_drewN ?_ _ | refine blk_drew ?_ | refine qh ?_ _)); exact BK143.out) hb); have n2_ := qf (blk_below (g := gb144) (o := .cells #[.slice A2_0 l2_0.length c2_0, .slice A2_1 l2_1.length c2_1] 78 (0, 0)) (by (with_reducible repeat (first | refine blk_drewN ?_ _ | refine blk_drew ?_ | refine qh ?_ _)); exact BK144.out) hb); have n3_ := qf (below_step (by repeat (first | (with_reducible first | exact HB.out | apply qa | apply qb | apply qc | refine qg ?_ GE143.out | refine qg ?_ GE144.out) | exact HB.out)) hb); clear BK143; clear BK144; clear HB; have HO147 := n0_; have BK143 := n1_; have BK144 := n2_; have HB := n3_; clear n0_ n1_ n2_ n3_; (try clear hb); (try clear hb2); (try clear hk); (try clear hi); (try clear ho0); obtain ⟨Ao16, co16, eo16⟩ := Kd.R_slice HO147.out; subst eo16; have p149 : 0 ≤ ((ji6) : Int) := qe (by first | (with_reducible assumption) | assumption); have q149 : (ji6) < (t145.length : Int) := qe (by first | (with_reducible assumption) | assumption); obtain ⟨ad149, e149, hx149_0⟩ := Kd.at_string (Kd.R_reads' HO147.out).2.2 (ji6) p149 q149; cases e149; replace p149 := eq_true p149; replace q149 := eq_true q149) | ((with_reducible refine gate_callee (f := 85) rfl ?_); refine goesL_ (some 25) rfl rfl Tryd.func85 (by kernel_rfl) rfl #[.string (rdOf ByteArray.empty t145 (ji6))] rfl (by (try simp only [List.map_toArray, List.map_cons, List.map_nil]); first | done | (simp only [hji6]; rfl) | rfl | (simp only [List.length_drop, qw]; rfl)) ?_; (with_reducible refine (sha_Sum.calls (rdOf ByteArray.empty t145 (ji6)) t150 _ A9.out).mono ?_); rintro e w17 ⟨rfl, hb⟩; refine ⟨_, rfl, ?_⟩; have n0_ := qf (Kd.R_below (by (with_reducible repeat (first | apply Kd.R_alloc | apply Kd.R_drewN | apply Kd.R_drew)); exact HO147.out) hb); have n1_ := qf (blk_below (g := gb143) (o := .cells #[.int .u64 a1_0, .string a1_1] 46 (0, 0)) (by (with_reducible repeat (first | refine blk_drewN ?_ _ | refine blk_drew ?_ | refine qh ?_ _)); exact BK143.out) hb); have n2_ := qf (blk_below (g := gb144) (o := .cells #[.slice A2_0 l2_0.length c2_0, .slice A2_1 l2_1.length c2_1] 78 (0, 0)) (by (with_reducible repeat (first | refine blk_drewN ?_ _ | refine blk_drew ?_ | refine qh ?_ _)); exact BK144.out) hb); have n3_ := qf (below_step (by repeat (first | (with_reducible first | exact HB.out | apply qa | apply qb | apply qc | refine qg ?_ GE143.out | refine qg ?_ GE144.out) | exact HB.out)) hb); clear HO147; clear BK143; clear BK144; clear HB; have HO147 := n0_; have BK143 := n1_; have BK144 := n2_; have HB := n3_; clear n0_ n1_ n2_ n3_; (try clear hb); (try clear hb2); (try clear hk); (try clear hi)))
    go_ret2
    exact ⟨by first | rfl | (simp [errW_none, errW_some] <;> rfl) | (simp only [← hji6]; first | rfl | (simp [errW_none, errW_some] <;> rfl)) | (simp [*, errW_none, errW_some] <;> rfl), by repeat (first | (with_reducible first | exact HB.out | apply qa | apply qb | apply qc | refine qg ?_ GE143.out | refine qg ?_ GE144.out) | exact HB.out)⟩
   ·rw [if_neg c8] at H
    exact absurd H (by simp)
  ·rw [if_neg c7] at H
   exact absurd H (by simp)
 ·rw [if_neg c5] at H
  have c5b0 : (t148 == 0) = false := beq_eq_false_iff_ne.mpr c5
  have c5b1 : (t148 != 0) = true := bne_iff_ne.mpr c5
  simp only [Option.some.injEq, Prod.mk.injEq] at H
  obtain ⟨rfl, rfl⟩ := H
  go_enter Tryd.func54, Tryd.ntmps54
  go_wp2_with (first | ((with_reducible refine gate_dst (N := 4) rfl ?_); refine box_event ?hg (N := 4) ?hd (cs := #[.int .u64 a1_0, .string a1_1]) (t := 46) ?hr ?_; (case hd => rfl); (case hg => rfl); (case hr => first | (go_simp; done) | (go_simp; rfl)); intro gb143 hg w18 hbox hb; have n0_ := qf (below_step (by repeat (first | (with_reducible first | exact HB.out | apply qa | apply qb | apply qc) | exact HB.out)) hb); have n1_ := qf (hbox); have n2_ := qf ((by rw [hg]; exact (below_size (by repeat (first | (with_reducible first | exact HB.out | apply qa | apply qb | apply qc) | exact HB.out))) : w.heap.size ≤ gb143)); have n3_ := qf ((by rw [hg]; exact (below_size (by repeat (first | (with_reducible first | exact HB.out | apply qa | apply qb | apply qc) | exact HB.out))) : w.heap.size ≤ gb143)); clear HB; have HB := n0_; have BK143 := n1_; have GW143 := n2_; have GE143 := n3_; clear n0_ n1_ n2_ n3_; clear hb hbox hg) | ((with_reducible refine gate_dst (N := 5) rfl ?_); refine box_event ?hg (N := 5) ?hd (cs := #[.slice A2_0 l2_0.length c2_0, .slice A2_1 l2_1.length c2_1]) (t := 78) ?hr ?_; (case hd => rfl); (case hg => rfl); (case hr => first | (go_simp; done) | (go_simp; rfl)); intro gb144 hg w19 hbox hb; have n0_ := qf (blk_below (g := gb143) (o := .cells #[.int .u64 a1_0, .string a1_1] 46 (0, 0)) (by (with_reducible repeat (first | refine blk_drewN ?_ _ | refine blk_drew ?_ | refine qh ?_ _)); exact BK143.out) hb); have n1_ := qf (below_step (by repeat (first | (with_reducible first | exact HB.out | apply qa | apply qb | apply qc | refine qg ?_ GE143.out) | exact HB.out)) hb); have n2_ := qf (hbox); have n3_ := qf ((by rw [hg]; exact (below_size (by repeat (first | (with_reducible first | exact HB.out | apply qa | apply qb | apply qc | refine qg ?_ GE143.out) | exact HB.out))) : w.heap.size ≤ gb144)); have n4_ := qf ((by rw [hg]; exact (below_size (by repeat (first | (with_reducible first | exact HB.out | apply qa | apply qb | apply qc | refine qg ?_ GE143.out) | exact HB.out))) : w.heap.size ≤ gb144)); have n5_ := qf ((by rw [hg]; exact Nat.ne_of_lt (blk_lt (g := gb143) (o := .cells #[.int .u64 a1_0, .string a1_1] 46 (0, 0)) (by (with_reducible repeat (first | refine blk_drewN ?_ _ | refine blk_drew ?_ | refine qh ?_ _)); exact BK143.out)) : gb143 ≠ gb144)); have n6_ := qf ((by rw [hg]; exact Nat.ne_of_gt (blk_lt (g := gb143) (o := .cells #[.int .u64 a1_0, .string a1_1] 46 (0, 0)) (by (with_reducible repeat (first | refine blk_drewN ?_ _ | refine blk_drew ?_ | refine qh ?_ _)); exact BK143.out)) : gb144 ≠ gb143)); clear BK143; clear HB; have BK143 := n0_; have HB := n1_; have BK144 := n2_; have GW144 := n3_; have GE144 := n4_; have NB143_144 := n5_; have NB144_143 := n6_; clear n0_ n1_ n2_ n3_ n4_ n5_ n6_; clear hb hbox hg; have hnb20 := NB143_144.out; have hnc20 := NB144_143.out; have hcz21_0 : w19.cell? ⟨gb143, 0, none⟩ = some (.int .u64 a1_0) := (blk_cell BK143.out 0).trans rfl; have hcz21_1 : w19.cell? ⟨gb143, 1, none⟩ = some (.string a1_1) := (blk_cell BK143.out 1).trans rfl; have hfz21_0 := blk_frozen BK143.out 0; have hfz21_1 := blk_frozen BK143.out 1; have hcz22_0 : w19.cell? ⟨gb144, 0, none⟩ = some (.slice A2_0 l2_0.length c2_0) := (blk_cell BK144.out 0).trans rfl; have hcz22_1 : w19.cell? ⟨gb144, 1, none⟩ = some (.slice A2_1 l2_1.length c2_1) := (blk_cell BK144.out 1).trans rfl; have hfz22_0 := blk_frozen BK144.out 0; have hfz22_1 := blk_frozen BK144.out 1) | ((with_reducible refine gate_callee (f := 53) rfl ?_); refine goesL_ (some 13) rfl rfl Tryd.func53 (by kernel_rfl) rfl #[.agg #[.int .u64 a1_0, .string a1_1], .agg #[.slice A2_0 l2_0.length c2_0, .slice A2_1 l2_1.length c2_1]] rfl (by (try simp only [List.map_toArray, List.map_cons, List.map_nil]); first | done | rfl | (simp only [List.length_drop, qw]; rfl)) ?_; (with_reducible refine (proof_Steps.calls k a1_0 a1_1 _ _ l2_0 _ _ l2_1 t145 t148 _ ?side1 ?side2 ?side3 ?side4 A4.out).mono ?_); (case side1 => repeat (first | exact (Kd.C_below HR2_0.out HB.out) | (with_reducible refine Kd.C_alloc ?_ _) | (with_reducible refine Kd.C_drewN ?_ _) | (with_reducible refine Kd.C_drew ?_))); (case side2 => exact HC2_0.out); (case side3 => repeat (first | exact (Kd.C_below HR2_1.out HB.out) | (with_reducible refine Kd.C_alloc ?_ _) | (with_reducible refine Kd.C_drewN ?_ _) | (with_reducible refine Kd.C_drew ?_))); (case side4 => exact HC2_1.out); rintro e w23 ⟨v146, rfl, ho0, hb⟩; refine ⟨_, rfl, ?_⟩; have n0_ := qf (Kd.R_lower ho0 (below_size (by repeat (first | (with_reducible first | exact HB.out | apply qa | apply qb | apply qc | refine qg ?_ GE143.out | refine qg ?_ GE144.out) | exact HB.out)))); have n1_ := qf (blk_below (g := gb143) (o := .cells #[.int .u64 a1_0, .string a1_1] 46 (0, 0)) (by (with_reducible repeat (first | refine blk_drewN ?_ _ | refine blk_drew ?_ | refine qh ?_ _)); exact BK143.out) hb); have n2_ := qf (blk_below (g := gb144) (o := .cells #[.slice A2_0 l2_0.length c2_0, .slice A2_1 l2_1.length c2_1] 78 (0, 0)) (by (with_reducible repeat (first | refine blk_drewN ?_ _ | refine blk_drew ?_ | refine qh ?_ _)); exact BK144.out) hb); have n3_ := qf (below_step (by repeat (first | (with_reducible first | exact HB.out | apply qa | apply qb | apply qc | refine qg ?_ GE143.out | refine qg ?_ GE144.out) | exact HB.out)) hb); clear BK143; clear BK144; clear HB; have HO147 := n0_; have BK143 := n1_; have BK144 := n2_; have HB := n3_; clear n0_ n1_ n2_ n3_; (try clear hb); (try clear hb2); (try clear hk); (try clear hi); (try clear ho0)))
  go_ret2
  exact ⟨by first | rfl | (simp [errW_none, errW_some] <;> rfl) | (simp [*, errW_none, errW_some] <;> rfl), by repeat (first | (with_reducible first | exact HB.out | apply qa | apply qb | apply qc | refine qg ?_ GE143.out | refine qg ?_ GE144.out) | exact HB.out)⟩
/-! ### saltusref18_rows: function 87 -/
/-! ### saltusref18_Why: function 55 -/
end Go.Proofs.YtolbhliepkcihaaDoor.QPA
end
section
namespace Go.Proofs.YtolbhliepkcihaaDoor.QPA
open Go.RowKit Kinds YtolbhliepkcihaaDoorW.PrintWords YtolbhliepkcihaaDoorW.PrintLast YtolbhliepkcihaaDoorW.PrintMore
attribute [local go_sem] max2_int min2_int max_two min_two max_three min_three max_four min_four   -- for this text's walks alone
set_option linter.unusedVariables false
set_option linter.unusedSimpArgs false
/-! ### saltusref17_Item: function 76 -/
def saltusref17_Item.f (a0_0 : Int) (a0_1 : ByteArray) : Option (ByteArray) := (some (([0] : List Int) : List Int)).bind fun y158 => ((saltusref02_Low.f a0_0 8).bind fun t161 => (if (strOfNums y158).size + t161.size ≤ 9223372036854775807 then ((saltusref02_One.f true 0 a0_1).bind fun t162 => (if ((strOfNums y158) ++ t161).size + t162.size ≤ 9223372036854775807 then (some (((strOfNums y158) ++ t161) ++ t162)) else (none))) else (none)))
def saltusref17_Item.T1 : Bool × List (List Nat × List Nat) := (true, [([], []), ([0], [0]), ([], []), ([2], [2]), ([3], [3]), ([1, 4], [1, 4]), ([], []), ([6], [6]), ([7], [7]), ([8, 4], [8]), ([5, 9], [5, 9]), ([10, 9, 0, 1, 2, 3, 4, 5, 6, 7, 8, 9, 10], [10])])
def saltusref17_Item.B1 : List Nat := [0, 1, 0, 4, 12, 31, 0, 64, 192, 476, 1023, 2047]
theorem saltusref17_Item.tab1 : rtab .any (opsOf Tryd.f76 1) = saltusref17_Item.T1 := by kernel_rfl
theorem saltusref17_Item.bits1 : waitsOk saltusref17_Item.T1.2 saltusref17_Item.B1 = true := by kernel_rfl
set_option maxHeartbeats 8000000 in
set_option maxRecDepth 100000 in
theorem saltusref17_Item.calls (a0_0 : Int) (a0_1 : ByteArray) (r : ByteArray) (w : World) (h : saltusref17_Item.f a0_0 a0_1 = some r) :
  Calls Tryd.prog 76 #[.agg #[.int .u64 a0_0, .string a0_1]] w fun e w' => e = .returned (.string r) ∧ Below w.heap.size w w' := by
 have hu46 := Tryd.underlying46
 have hu115 := Tryd.underlying115
 have HB := qf (Below.refl w.heap.size w)
 have H : ((some (([0] : List Int) : List Int)).bind fun y158 => ((saltusref02_Low.f a0_0 8).bind fun t161 => (if (strOfNums y158).size + t161.size ≤ 9223372036854775807 then ((saltusref02_One.f true 0 a0_1).bind fun t162 => (if ((strOfNums y158) ++ t161).size + t162.size ≤ 9223372036854775807 then (some (((strOfNums y158) ++ t161) ++ t162)) else (none))) else (none)))) = some r := h
 clear h
 obtain ⟨y158, hy158⟩ : ∃ y_ : List Int, y_ = (([0] : List Int)) := ⟨_, rfl⟩
 replace H : ((saltusref02_Low.f a0_0 8).bind fun t161 => (if (strOfNums y158).size + t161.size ≤ 9223372036854775807 then ((saltusref02_One.f true 0 a0_1).bind fun t162 => (if ((strOfNums y158) ++ t161).size + t162.size ≤ 9223372036854775807 then (some (((strOfNums y158) ++ t161) ++ t162)) else (none))) else (none))) = some r := by first | (rw [hy158]; with_reducible exact H) | (have H2_ := (qv _ _).symm.trans H; rw [hy158]; with_reducible exact H2_) | (have H2_ := (qv _ _).symm.trans H; with_reducible exact H2_) | with_reducible exact H | (rw [hy158]; exact H) | exact H
 have Ny158 := qf hy158
 clear hy158
 replace H := qi H
 obtain ⟨t161, A20, H⟩ := H
 (try dsimp only at H)
 have A2 := qf A20
 clear A20
 by_cases c3 : (strOfNums y158).size + t161.size ≤ 9223372036854775807
 ·rw [if_pos c3] at H
  have c3b0 := eq_true c3
  have c3b1 : decide ((strOfNums y158).size + t161.size ≤ 9223372036854775807) = true := qj c3
  try have c3b2 : (9223372036854775807 < (strOfNums y158).size + t161.size) = False := eq_false (Nat.not_lt.2 c3)
  replace H := qi H
  obtain ⟨t162, A40, H⟩ := H
  (try dsimp only at H)
  have A4 := qf A40
  clear A40
  by_cases c5 : ((strOfNums y158) ++ t161).size + t162.size ≤ 9223372036854775807
  ·rw [if_pos c5] at H
   have c5b0 := eq_true c5
   have c5b1 : decide (((strOfNums y158) ++ t161).size + t162.size ≤ 9223372036854775807) = true := qj c5
   try have c5b2 : (9223372036854775807 < ((strOfNums y158) ++ t161).size + t162.size) = False := eq_false (Nat.not_lt.2 c5)
   have c5m : (9223372036854775807 < ((strOfNums y158).size + t161.size) + t162.size) = False := by have h_ := c5; simp only [ByteArray.size_extract, ByteArray.size_append, Nat.min_self] at h_; exact eq_false (by omega)
   obtain rfl := Option.some.inj H
   go_enter Tryd.func76, Tryd.ntmps76
   try go_wp2_with (((with_reducible refine gate_dst (N := 1) rfl ?_); refine box_event ?hg (N := 1) ?hd (cs := #[.int .u64 a0_0, .string a0_1]) (t := 46) ?hr ?_; (case hd => rfl); (case hg => rfl); (case hr => first | (go_simp; done) | (go_simp; rfl)); intro gb157 hg w6 hbox hb; have n0_ := qf (below_step (by repeat (first | (with_reducible first | exact HB.out | apply qa | apply qb | apply qc) | exact HB.out)) hb); have n1_ := qf (hbox); have n2_ := qf ((by rw [hg]; exact (below_size (by repeat (first | (with_reducible first | exact HB.out | apply qa | apply qb | apply qc) | exact HB.out))) : w.heap.size ≤ gb157)); have n3_ := qf ((by rw [hg]; exact (below_size (by repeat (first | (with_reducible first | exact HB.out | apply qa | apply qb | apply qc) | exact HB.out))) : w.heap.size ≤ gb157)); clear HB; have HB := n0_; have BK157 := n1_; have GW157 := n2_; have GE157 := n3_; clear n0_ n1_ n2_ n3_; clear hb hbox hg))
   have n0_ := qf (blk_drew BK157.out)
   have n1_ := qf (qc HB.out)
   clear BK157
   clear HB
   have BK157 := n0_
   have HB := n1_
   clear n0_ n1_
   refine start_ (n := 12) (S := fun w' => w'.cell? ⟨gb157, 0, none⟩ = some (.int .u64 a0_0) ∧ w'.cell? ⟨gb157, 1, none⟩ = some (.string a0_1)) (ds := []) (bm 12 0) (by kernel_rfl) rfl rfl ⟨(blk_cell BK157.out 0).trans rfl, (blk_cell BK157.out 1).trans rfl⟩ (fun hHeld => ?_); refine with_tabW saltusref17_Item.tab1 saltusref17_Item.bits1 (fun HT_ HW_ => ?_)
   generalize w6.drew = w7 at BK157 HB hHeld ⊢
   refine pure_ (i := 2) (N := some 5) (v := ?_) (a' := ?_) (bm 12 4) rfl rfl (any_of HT_.out (by kernel_rfl)) (fun _ _ _ h => h) (Or.inl ⟨by rfl, ?_⟩) ?_ ?_
   rotate_left
   ·intro w'
    go_simp
    with_reducible rfl
   rotate_left
   ·simp only [Act.put, qs, qt, qu, i64_w, i32_w]
    rfl
   refine pure_ (i := 6) (N := some 9) (v := ?_) (a' := ?_) (bm 12 68) rfl rfl (any_of HT_.out (by kernel_rfl)) (fun _ _ _ h => h) (Or.inl ⟨by rfl, ?_⟩) ?_ ?_
   rotate_left
   ·intro w'
    go_simp
    with_reducible rfl
   rotate_left
   ·simp only [Act.put, qs, qt, qu, i64_w, i32_w]
    rfl
   refine take_ (i := 3) (N := some 6) (v := ?_) (a' := ?_) (bm 12 76) rfl rfl (take_ofW HT_.out HW_.out (by kernel_rfl)) (fun _ _ _ h => h) (Or.inl ⟨by rfl, ?_⟩) hHeld ?_ ?_
   rotate_left
   ·rintro w' ⟨s0, s1⟩
    go_simp
    with_reducible rfl
   rotate_left
   ·simp only [Act.put, qs, qt, qu, i64_w, i32_w]
    rfl
   refine take_ (i := 7) (N := some 10) (v := ?_) (a' := ?_) (bm 12 204) rfl rfl (take_ofW HT_.out HW_.out (by kernel_rfl)) (fun _ _ _ h => h) (Or.inl ⟨by rfl, ?_⟩) hHeld ?_ ?_
   rotate_left
   ·rintro w' ⟨s0, s1⟩
    go_simp
    with_reducible rfl
   rotate_left
   ·simp only [Act.put, qs, qt, qu, i64_w, i32_w]
    rfl
   refine pure_ (i := 8) (N := some 11) (v := ?_) (a' := ?_) (bm 12 460) rfl rfl (any_of HT_.out (by kernel_rfl)) (fun _ _ _ h => h) (Or.inl ⟨by rfl, ?_⟩) ?_ ?_
   rotate_left
   ·intro w'
    go_simp
    with_reducible rfl
   rotate_left
   ·simp only [Act.put, qs, qt, qu, i64_w, i32_w]
    rfl
   refine join_ (σ := Value) 2 (bm 12 1023) (fun s_ => [(3, s_), (4, .string (strOfNums y158)), (7, .string t161), (12, .string t162), (8, .string ((strOfNums y158) ++ t161))]) (fun s_ w' => (w'.cell? ⟨gb157, 0, none⟩ = some (.int .u64 a0_0) ∧ w'.cell? ⟨gb157, 1, none⟩ = some (.string a0_1)) ∧ (Kd.R (Kd.int .u8) 5 w' w.heap.size (fun _ => True) s_ y158) ∧ (w'.heap[gb157]? = some (.cells #[.int .u64 a0_0, .string a0_1] 46 (0, 0))) ∧ (Below w.heap.size w w')) ?_ ?_
   rotate_left
   ·intro hJ0_1_4_9
    refine join_ (σ := Value) 3 (bm 12 511) (fun s_ => [(3, s_), (4, .string (strOfNums y158)), (7, .string t161), (8, .string ((strOfNums y158) ++ t161))]) (fun s_ w' => (w'.cell? ⟨gb157, 0, none⟩ = some (.int .u64 a0_0) ∧ w'.cell? ⟨gb157, 1, none⟩ = some (.string a0_1)) ∧ (Kd.R (Kd.int .u8) 5 w' w.heap.size (fun _ => True) s_ y158) ∧ (w'.heap[gb157]? = some (.cells #[.int .u64 a0_0, .string a0_1] 46 (0, 0))) ∧ (Below w.heap.size w w')) ?_ ?_
    rotate_left
    ·intro hJ0_1_4
     refine join_ (σ := Value) 4 (bm 12 989) (fun s_ => [(3, s_), (7, .string t161), (12, .string t162)]) (fun s_ w' => (w'.cell? ⟨gb157, 0, none⟩ = some (.int .u64 a0_0) ∧ w'.cell? ⟨gb157, 1, none⟩ = some (.string a0_1)) ∧ (Kd.R (Kd.int .u8) 5 w' w.heap.size (fun _ => True) s_ y158) ∧ (w'.heap[gb157]? = some (.cells #[.int .u64 a0_0, .string a0_1] 46 (0, 0))) ∧ (Below w.heap.size w w')) ?_ ?_
     rotate_left
     ·intro hJ0_4_9
      refine join_ (σ := Value) 5 (bm 12 463) (fun s_ => [(3, s_), (4, .string (strOfNums y158))]) (fun s_ w' => (w'.cell? ⟨gb157, 0, none⟩ = some (.int .u64 a0_0) ∧ w'.cell? ⟨gb157, 1, none⟩ = some (.string a0_1)) ∧ (Kd.R (Kd.int .u8) 5 w' w.heap.size (fun _ => True) s_ y158) ∧ (w'.heap[gb157]? = some (.cells #[.int .u64 a0_0, .string a0_1] 46 (0, 0))) ∧ (Below w.heap.size w w')) ?_ ?_
      rotate_left
      ·intro hJ0_1
       refine join_ (σ := Value) 5 (bm 12 477) (fun s_ => [(3, s_), (7, .string t161)]) (fun s_ w' => (w'.cell? ⟨gb157, 0, none⟩ = some (.int .u64 a0_0) ∧ w'.cell? ⟨gb157, 1, none⟩ = some (.string a0_1)) ∧ (Kd.R (Kd.int .u8) 5 w' w.heap.size (fun _ => True) s_ y158) ∧ (w'.heap[gb157]? = some (.cells #[.int .u64 a0_0, .string a0_1] 46 (0, 0))) ∧ (Below w.heap.size w w')) ?_ ?_
       rotate_left
       ·intro hJ0_4
        refine join_ (σ := Unit) 5 (bm 12 988) (fun s_ => [(7, .string t161), (12, .string t162)]) (fun s_ w' => (w'.cell? ⟨gb157, 0, none⟩ = some (.int .u64 a0_0) ∧ w'.cell? ⟨gb157, 1, none⟩ = some (.string a0_1)) ∧ (w'.heap[gb157]? = some (.cells #[.int .u64 a0_0, .string a0_1] 46 (0, 0))) ∧ (Below w.heap.size w w')) ?_ ?_
        rotate_left
        ·intro hJ4_9
         refine join_ (σ := Value) 6 (bm 12 461) (fun s_ => [(3, s_)]) (fun s_ w' => (w'.cell? ⟨gb157, 0, none⟩ = some (.int .u64 a0_0) ∧ w'.cell? ⟨gb157, 1, none⟩ = some (.string a0_1)) ∧ (Kd.R (Kd.int .u8) 5 w' w.heap.size (fun _ => True) s_ y158) ∧ (w'.heap[gb157]? = some (.cells #[.int .u64 a0_0, .string a0_1] 46 (0, 0))) ∧ (Below w.heap.size w w')) ?_ ?_
         rotate_left
         ·intro hJ0
          refine join_ (σ := Unit) 6 (bm 12 476) (fun s_ => [(7, .string t161)]) (fun s_ w' => (w'.cell? ⟨gb157, 0, none⟩ = some (.int .u64 a0_0) ∧ w'.cell? ⟨gb157, 1, none⟩ = some (.string a0_1)) ∧ (w'.heap[gb157]? = some (.cells #[.int .u64 a0_0, .string a0_1] 46 (0, 0))) ∧ (Below w.heap.size w w')) ?_ ?_
          rotate_left
          ·intro hJ4
           refine two_ (i := 0) (j := 4) (Ni := some 3) (Nj := some 7) (bm 12 461) (bm 12 476) rfl rfl rfl rfl (two_of HT_.out (by kernel_rfl)) (by decide) (by decide) (fun K hK => ?_) (fun K hK => ?_)
           ·skip
            refine Kd.R_lit_step (Kd.int .u8) _ 5 ?hg (N := 3) ?hd (xs := ([0] : List Int)) (inner := [.int .u8 0]) (ok := fun _ => True) (okp := fun _ => True) ?hr ?hp (fun _ hk => hk) trivial (Below.refl _ _) (Nat.le_refl _) (by simp) ?_; (case hd => rfl); (case hg => rfl); (case hr => first | (go_simp; done) | (go_simp; rfl)); (case hp => exact (Reps.one (show Kd.M (Kd.int .u8) _ _ _ 0 [.int .u8 0] from rfl) (Reps.none _ _)))
            intro v159 w8 ho9 hb hg_ hnew_
            clear hg_ hnew_
            (first | rw [← Ny158.out] at ho9 | (simp only [Int.reduceToNat] at ho9; rw [← Ny158.out] at ho9))
            have n0_ := qf (Kd.R_lower ho9 (below_size (by repeat (first | (with_reducible first | exact HB.out | apply qa | apply qb | apply qc | refine qg ?_ GE157.out) | exact HB.out))))
            have n1_ := qf (blk_below (g := gb157) (o := .cells #[.int .u64 a0_0, .string a0_1] 46 (0, 0)) (by (with_reducible repeat (first | refine blk_drewN ?_ _ | refine blk_drew ?_ | refine qh ?_ _)); exact BK157.out) hb)
            have n2_ := qf (below_step (by repeat (first | (with_reducible first | exact HB.out | apply qa | apply qb | apply qc | refine qg ?_ GE157.out) | exact HB.out)) hb)
            clear BK157
            clear HB
            have HO160 := n0_
            have BK157 := n1_
            have HB := n2_
            clear n0_ n1_ n2_
            clear hb ho9
            refine hK.out _ _ ⟨(blk_cell BK157.out 0).trans rfl, (blk_cell BK157.out 1).trans rfl⟩ (fun hHeld => ?_)
            clear hK K
            refine norm_ (a' := ?_) ?_ ?_
            rotate_left
            ·show Act.put _ (some 3) _ = _
             simp only [Act.put, qs, qt, qu, i64_w, i32_w]
             rfl
            exact norm_ (by first | (simp only [putAll, Act.put, qs, qt, qu]; done) | (simp only [putAll, Act.put, qs, qt, qu]; rfl)) (hJ0 (v159) _ ⟨hHeld, (by (with_reducible repeat (first | apply Kd.R_alloc | apply Kd.R_drewN | apply Kd.R_drew)); exact HO160.out), (by (with_reducible repeat (first | refine blk_drewN ?_ _ | refine blk_drew ?_ | refine qh ?_ _)); exact BK157.out), (by repeat (first | (with_reducible first | exact HB.out | apply qa | apply qb | apply qc | refine qg ?_ GE157.out) | exact HB.out))⟩)
           ·skip
            refine goes_ Tryd.func64 (by kernel_rfl) rfl #[.int .u64 a0_0, .int .i64 8] (by rfl) rfl rfl (by (try simp only [List.map_toArray, List.map_cons, List.map_nil]); first | done | rfl | (simp only [List.length_drop, qw]; rfl)) ?_
            with_reducible refine (saltusref02_Low.calls a0_0 8 t161 _ A2.out).mono ?_
            rintro e w8 ⟨rfl, hb⟩
            refine ⟨_, rfl, ?_⟩
            have n0_ := qf (blk_below (g := gb157) (o := .cells #[.int .u64 a0_0, .string a0_1] 46 (0, 0)) (by (with_reducible repeat (first | refine blk_drewN ?_ _ | refine blk_drew ?_ | refine qh ?_ _)); exact BK157.out) hb)
            have n1_ := qf (below_step (by repeat (first | (with_reducible first | exact HB.out | apply qa | apply qb | apply qc | refine qg ?_ GE157.out) | exact HB.out)) hb)
            clear BK157
            clear HB
            have BK157 := n0_
            have HB := n1_
            clear n0_ n1_
            (try clear hb)
            (try clear hb2)
            (try clear hk)
            (try clear hi)
            refine hK.out _ _ ⟨(blk_cell BK157.out 0).trans rfl, (blk_cell BK157.out 1).trans rfl⟩ (fun hHeld => ?_)
            clear hK K
            refine norm_ (a' := ?_) ?_ ?_
            rotate_left
            ·show Act.put _ (some 7) _ = _
             simp only [Act.put, qs, qt, qu, i64_w, i32_w]
             rfl
            exact norm_ (by first | (simp only [putAll, Act.put, qs, qt, qu]; done) | (simp only [putAll, Act.put, qs, qt, qu]; rfl)) (hJ4 () _ ⟨hHeld, (by (with_reducible repeat (first | refine blk_drewN ?_ _ | refine blk_drew ?_ | refine qh ?_ _)); exact BK157.out), (by repeat (first | (with_reducible first | exact HB.out | apply qa | apply qb | apply qc | refine qg ?_ GE157.out) | exact HB.out))⟩)
          ·skip
           rintro _ w9 ⟨hS_, h0_, h1_⟩
           have n0_ : Aside0 (w9.heap[gb157]? = some (.cells #[.int .u64 a0_0, .string a0_1] 46 (0, 0))) := ⟨h0_⟩
           have n1_ : Aside0 (Below w.heap.size w w9) := ⟨h1_⟩
           clear BK157
           clear HB
           clear h0_ h1_
           have BK157 := n0_
           have HB := n1_
           clear n0_ n1_
           have hHeld : w9.cell? ⟨gb157, 0, none⟩ = some (.int .u64 a0_0) ∧ w9.cell? ⟨gb157, 1, none⟩ = some (.string a0_1) := hS_
           refine norm_ (a' := ?_) ?_ ?_
           rotate_left
           ·simp only [putAll, Act.put, qs, qt, qu]
            rfl
           refine two_ (i := 0) (j := 9) (Ni := some 3) (Nj := some 12) (bm 12 477) (bm 12 988) rfl rfl rfl rfl (two_of HT_.out (by kernel_rfl)) (by decide) (by decide) (fun K hK => ?_) (fun K hK => ?_)
           ·skip
            refine Kd.R_lit_step (Kd.int .u8) _ 5 ?hg (N := 3) ?hd (xs := ([0] : List Int)) (inner := [.int .u8 0]) (ok := fun _ => True) (okp := fun _ => True) ?hr ?hp (fun _ hk => hk) trivial (Below.refl _ _) (Nat.le_refl _) (by simp) ?_; (case hd => rfl); (case hg => rfl); (case hr => first | (go_simp; done) | (go_simp; rfl)); (case hp => exact (Reps.one (show Kd.M (Kd.int .u8) _ _ _ 0 [.int .u8 0] from rfl) (Reps.none _ _)))
            intro v159 w10 ho11 hb hg_ hnew_
            clear hg_ hnew_
            (first | rw [← Ny158.out] at ho11 | (simp only [Int.reduceToNat] at ho11; rw [← Ny158.out] at ho11))
            have n0_ := qf (Kd.R_lower ho11 (below_size (by repeat (first | (with_reducible first | exact HB.out | apply qa | apply qb | apply qc | refine qg ?_ GE157.out) | exact HB.out))))
            have n1_ := qf (blk_below (g := gb157) (o := .cells #[.int .u64 a0_0, .string a0_1] 46 (0, 0)) (by (with_reducible repeat (first | refine blk_drewN ?_ _ | refine blk_drew ?_ | refine qh ?_ _)); exact BK157.out) hb)
            have n2_ := qf (below_step (by repeat (first | (with_reducible first | exact HB.out | apply qa | apply qb | apply qc | refine qg ?_ GE157.out) | exact HB.out)) hb)
            clear BK157
            clear HB
            have HO160 := n0_
            have BK157 := n1_
            have HB := n2_
            clear n0_ n1_ n2_
            clear hb ho11
            refine hK.out _ _ ⟨(blk_cell BK157.out 0).trans rfl, (blk_cell BK157.out 1).trans rfl⟩ (fun hHeld => ?_)
            clear hK K
            refine norm_ (a' := ?_) ?_ ?_
            rotate_left
            ·show Act.put _ (some 3) _ = _
             simp only [Act.put, qs, qt, qu, i64_w, i32_w]
             rfl
            exact norm_ (by first | (simp only [putAll, Act.put, qs, qt, qu]; done) | (simp only [putAll, Act.put, qs, qt, qu]; rfl)) (hJ0_4 (v159) _ ⟨hHeld, (by (with_reducible repeat (first | apply Kd.R_alloc | apply Kd.R_drewN | apply Kd.R_drew)); exact HO160.out), (by (with_reducible repeat (first | refine blk_drewN ?_ _ | refine blk_drew ?_ | refine qh ?_ _)); exact BK157.out), (by repeat (first | (with_reducible first | exact HB.out | apply qa | apply qb | apply qc | refine qg ?_ GE157.out) | exact HB.out))⟩)
           ·skip
            refine goes_ Tryd.func108 (by kernel_rfl) rfl #[.agg #[.bool true, .int .u64 0, .string a0_1]] (by rfl) rfl rfl (by (try simp only [List.map_toArray, List.map_cons, List.map_nil]); first | done | rfl | (simp only [List.length_drop, qw]; rfl)) ?_
            with_reducible refine (saltusref02_One.calls true 0 a0_1 t162 _ A4.out).mono ?_
            rintro e w10 ⟨rfl, hb⟩
            refine ⟨_, rfl, ?_⟩
            have n0_ := qf (blk_below (g := gb157) (o := .cells #[.int .u64 a0_0, .string a0_1] 46 (0, 0)) (by (with_reducible repeat (first | refine blk_drewN ?_ _ | refine blk_drew ?_ | refine qh ?_ _)); exact BK157.out) hb)
            have n1_ := qf (below_step (by repeat (first | (with_reducible first | exact HB.out | apply qa | apply qb | apply qc | refine qg ?_ GE157.out) | exact HB.out)) hb)
            clear BK157
            clear HB
            have BK157 := n0_
            have HB := n1_
            clear n0_ n1_
            (try clear hb)
            (try clear hb2)
            (try clear hk)
            (try clear hi)
            refine hK.out _ _ ⟨(blk_cell BK157.out 0).trans rfl, (blk_cell BK157.out 1).trans rfl⟩ (fun hHeld => ?_)
            clear hK K
            refine norm_ (a' := ?_) ?_ ?_
            rotate_left
            ·show Act.put _ (some 12) _ = _
             simp only [Act.put, qs, qt, qu, i64_w, i32_w]
             rfl
            exact norm_ (by first | (simp only [putAll, Act.put, qs, qt, qu]; done) | (simp only [putAll, Act.put, qs, qt, qu]; rfl)) (hJ4_9 () _ ⟨hHeld, (by (with_reducible repeat (first | refine blk_drewN ?_ _ | refine blk_drew ?_ | refine qh ?_ _)); exact BK157.out), (by repeat (first | (with_reducible first | exact HB.out | apply qa | apply qb | apply qc | refine qg ?_ GE157.out) | exact HB.out))⟩)
         ·skip
          rintro v159 w10 ⟨hS_, h0_, h1_, h2_⟩
          have n0_ : Aside0 (Kd.R (Kd.int .u8) 5 w10 w.heap.size (fun _ => True) v159 y158) := ⟨h0_⟩
          have n1_ : Aside0 (w10.heap[gb157]? = some (.cells #[.int .u64 a0_0, .string a0_1] 46 (0, 0))) := ⟨h1_⟩
          have n2_ : Aside0 (Below w.heap.size w w10) := ⟨h2_⟩
          clear BK157
          clear HB
          clear h0_ h1_ h2_
          have HO160 := n0_
          have BK157 := n1_
          have HB := n2_
          clear n0_ n1_ n2_
          have hHeld : w10.cell? ⟨gb157, 0, none⟩ = some (.int .u64 a0_0) ∧ w10.cell? ⟨gb157, 1, none⟩ = some (.string a0_1) := hS_
          refine norm_ (a' := ?_) ?_ ?_
          rotate_left
          ·simp only [putAll, Act.put, qs, qt, qu]
           rfl
          refine two_ (i := 1) (j := 4) (Ni := some 4) (Nj := some 7) (bm 12 463) (bm 12 477) rfl rfl rfl rfl (two_of HT_.out (by kernel_rfl)) (by decide) (by decide) (fun K hK => ?_) (fun K hK => ?_)
          ·skip
           have hcv11 := own_string (P := Tryd.prog) Tryd.underlying111 Tryd.underlying5 Tryd.underlying9 (Kd.own_of_R HO160.out)
           refine value_ (w1 := ?_) (v := ?_) (by rfl) rfl ?_ ?_
           rotate_left 2
           ·go_simp
            constructor
            ·rfl
            ·rfl
           clear hcv11
           refine hK.out _ _ ⟨(blk_cell BK157.out 0).trans rfl, (blk_cell BK157.out 1).trans rfl⟩ (fun hHeld => ?_)
           clear hK K
           refine norm_ (a' := ?_) ?_ ?_
           rotate_left
           ·show Act.put _ (some 4) _ = _
            simp only [Act.put, qs, qt, qu, i64_w, i32_w]
            rfl
           exact norm_ (by first | (simp only [putAll, Act.put, qs, qt, qu]; done) | (simp only [putAll, Act.put, qs, qt, qu]; rfl)) (hJ0_1 (v159) _ ⟨hHeld, (by (with_reducible repeat (first | apply Kd.R_alloc | apply Kd.R_drewN | apply Kd.R_drew)); exact HO160.out), (by (with_reducible repeat (first | refine blk_drewN ?_ _ | refine blk_drew ?_ | refine qh ?_ _)); exact BK157.out), (by repeat (first | (with_reducible first | exact HB.out | apply qa | apply qb | apply qc | refine qg ?_ GE157.out) | exact HB.out))⟩)
          ·skip
           refine goes_ Tryd.func64 (by kernel_rfl) rfl #[.int .u64 a0_0, .int .i64 8] (by rfl) rfl rfl (by (try simp only [List.map_toArray, List.map_cons, List.map_nil]); first | done | rfl | (simp only [List.length_drop, qw]; rfl)) ?_
           with_reducible refine (saltusref02_Low.calls a0_0 8 t161 _ A2.out).mono ?_
           rintro e w11 ⟨rfl, hb⟩
           refine ⟨_, rfl, ?_⟩
           have n0_ := qf (Kd.R_below (by (with_reducible repeat (first | apply Kd.R_alloc | apply Kd.R_drewN | apply Kd.R_drew)); exact HO160.out) hb)
           have n1_ := qf (blk_below (g := gb157) (o := .cells #[.int .u64 a0_0, .string a0_1] 46 (0, 0)) (by (with_reducible repeat (first | refine blk_drewN ?_ _ | refine blk_drew ?_ | refine qh ?_ _)); exact BK157.out) hb)
           have n2_ := qf (below_step (by repeat (first | (with_reducible first | exact HB.out | apply qa | apply qb | apply qc | refine qg ?_ GE157.out) | exact HB.out)) hb)
           clear HO160
           clear BK157
           clear HB
           have HO160 := n0_
           have BK157 := n1_
           have HB := n2_
           clear n0_ n1_ n2_
           (try clear hb)
           (try clear hb2)
           (try clear hk)
           (try clear hi)
           refine hK.out _ _ ⟨(blk_cell BK157.out 0).trans rfl, (blk_cell BK157.out 1).trans rfl⟩ (fun hHeld => ?_)
           clear hK K
           refine norm_ (a' := ?_) ?_ ?_
           rotate_left
           ·show Act.put _ (some 7) _ = _
            simp only [Act.put, qs, qt, qu, i64_w, i32_w]
            rfl
           exact norm_ (by first | (simp only [putAll, Act.put, qs, qt, qu]; done) | (simp only [putAll, Act.put, qs, qt, qu]; rfl)) (hJ0_4 (v159) _ ⟨hHeld, (by (with_reducible repeat (first | apply Kd.R_alloc | apply Kd.R_drewN | apply Kd.R_drew)); exact HO160.out), (by (with_reducible repeat (first | refine blk_drewN ?_ _ | refine blk_drew ?_ | refine qh ?_ _)); exact BK157.out), (by repeat (first | (with_reducible first | exact HB.out | apply qa | apply qb | apply qc | refine qg ?_ GE157.out) | exact HB.out))⟩)
        ·skip
         rintro _ w10 ⟨hS_, h0_, h1_⟩
         have n0_ : Aside0 (w10.heap[gb157]? = some (.cells #[.int .u64 a0_0, .string a0_1] 46 (0, 0))) := ⟨h0_⟩
         have n1_ : Aside0 (Below w.heap.size w w10) := ⟨h1_⟩
         clear BK157
         clear HB
         clear h0_ h1_
         have BK157 := n0_
         have HB := n1_
         clear n0_ n1_
         have hHeld : w10.cell? ⟨gb157, 0, none⟩ = some (.int .u64 a0_0) ∧ w10.cell? ⟨gb157, 1, none⟩ = some (.string a0_1) := hS_
         refine norm_ (a' := ?_) ?_ ?_
         rotate_left
         ·simp only [putAll, Act.put, qs, qt, qu]
          rfl
         refine one_ (i := 0) (N := some 3) (bm 12 989) rfl rfl (one_of HT_.out (by kernel_rfl)) (by decide) (fun K hK => ?_)
         refine Kd.R_lit_step (Kd.int .u8) _ 5 ?hg (N := 3) ?hd (xs := ([0] : List Int)) (inner := [.int .u8 0]) (ok := fun _ => True) (okp := fun _ => True) ?hr ?hp (fun _ hk => hk) trivial (Below.refl _ _) (Nat.le_refl _) (by simp) ?_; (case hd => rfl); (case hg => rfl); (case hr => first | (go_simp; done) | (go_simp; rfl)); (case hp => exact (Reps.one (show Kd.M (Kd.int .u8) _ _ _ 0 [.int .u8 0] from rfl) (Reps.none _ _)))
         intro v159 w11 ho12 hb hg_ hnew_
         clear hg_ hnew_
         (first | rw [← Ny158.out] at ho12 | (simp only [Int.reduceToNat] at ho12; rw [← Ny158.out] at ho12))
         have n0_ := qf (Kd.R_lower ho12 (below_size (by repeat (first | (with_reducible first | exact HB.out | apply qa | apply qb | apply qc | refine qg ?_ GE157.out) | exact HB.out))))
         have n1_ := qf (blk_below (g := gb157) (o := .cells #[.int .u64 a0_0, .string a0_1] 46 (0, 0)) (by (with_reducible repeat (first | refine blk_drewN ?_ _ | refine blk_drew ?_ | refine qh ?_ _)); exact BK157.out) hb)
         have n2_ := qf (below_step (by repeat (first | (with_reducible first | exact HB.out | apply qa | apply qb | apply qc | refine qg ?_ GE157.out) | exact HB.out)) hb)
         clear BK157
         clear HB
         have HO160 := n0_
         have BK157 := n1_
         have HB := n2_
         clear n0_ n1_ n2_
         clear hb ho12
         refine hK.out _ _ ⟨(blk_cell BK157.out 0).trans rfl, (blk_cell BK157.out 1).trans rfl⟩ (fun hHeld => ?_)
         clear hK K
         refine norm_ (a' := ?_) ?_ ?_
         rotate_left
         ·show Act.put _ (some 3) _ = _
          simp only [Act.put, qs, qt, qu, i64_w, i32_w]
          rfl
         exact norm_ (by first | (simp only [putAll, Act.put, qs, qt, qu]; done) | (simp only [putAll, Act.put, qs, qt, qu]; rfl)) (hJ0_4_9 (v159) _ ⟨hHeld, (by (with_reducible repeat (first | apply Kd.R_alloc | apply Kd.R_drewN | apply Kd.R_drew)); exact HO160.out), (by (with_reducible repeat (first | refine blk_drewN ?_ _ | refine blk_drew ?_ | refine qh ?_ _)); exact BK157.out), (by repeat (first | (with_reducible first | exact HB.out | apply qa | apply qb | apply qc | refine qg ?_ GE157.out) | exact HB.out))⟩)
       ·skip
        rintro v159 w11 ⟨hS_, h0_, h1_, h2_⟩
        have n0_ : Aside0 (Kd.R (Kd.int .u8) 5 w11 w.heap.size (fun _ => True) v159 y158) := ⟨h0_⟩
        have n1_ : Aside0 (w11.heap[gb157]? = some (.cells #[.int .u64 a0_0, .string a0_1] 46 (0, 0))) := ⟨h1_⟩
        have n2_ : Aside0 (Below w.heap.size w w11) := ⟨h2_⟩
        clear BK157
        clear HB
        clear h0_ h1_ h2_
        have HO160 := n0_
        have BK157 := n1_
        have HB := n2_
        clear n0_ n1_ n2_
        have hHeld : w11.cell? ⟨gb157, 0, none⟩ = some (.int .u64 a0_0) ∧ w11.cell? ⟨gb157, 1, none⟩ = some (.string a0_1) := hS_
        refine norm_ (a' := ?_) ?_ ?_
        rotate_left
        ·simp only [putAll, Act.put, qs, qt, qu]
         rfl
        refine two_ (i := 1) (j := 9) (Ni := some 4) (Nj := some 12) (bm 12 479) (bm 12 989) rfl rfl rfl rfl (two_of HT_.out (by kernel_rfl)) (by decide) (by decide) (fun K hK => ?_) (fun K hK => ?_)
        ·skip
         have hcv12 := own_string (P := Tryd.prog) Tryd.underlying111 Tryd.underlying5 Tryd.underlying9 (Kd.own_of_R HO160.out)
         refine value_ (w1 := ?_) (v := ?_) (by rfl) rfl ?_ ?_
         rotate_left 2
         ·go_simp
          constructor
          ·rfl
          ·rfl
         clear hcv12
         refine hK.out _ _ ⟨(blk_cell BK157.out 0).trans rfl, (blk_cell BK157.out 1).trans rfl⟩ (fun hHeld => ?_)
         clear hK K
         refine norm_ (a' := ?_) ?_ ?_
         rotate_left
         ·show Act.put _ (some 4) _ = _
          simp only [Act.put, qs, qt, qu, i64_w, i32_w]
          rfl
         refine pure_ (i := 5) (N := some 8) (v := ?_) (a' := ?_) (bm 12 511) rfl rfl (any_of HT_.out (by kernel_rfl)) (fun _ _ _ h => h) (Or.inl ⟨by rfl, ?_⟩) ?_ ?_
         rotate_left
         ·intro w'
          go_simp
          with_reducible rfl
         rotate_left
         ·simp only [Act.put, qs, qt, qu, i64_w, i32_w]
          rfl
         exact norm_ (by first | (simp only [putAll, Act.put, qs, qt, qu]; done) | (simp only [putAll, Act.put, qs, qt, qu]; rfl)) (hJ0_1_4 (v159) _ ⟨hHeld, (by (with_reducible repeat (first | apply Kd.R_alloc | apply Kd.R_drewN | apply Kd.R_drew)); exact HO160.out), (by (with_reducible repeat (first | refine blk_drewN ?_ _ | refine blk_drew ?_ | refine qh ?_ _)); exact BK157.out), (by repeat (first | (with_reducible first | exact HB.out | apply qa | apply qb | apply qc | refine qg ?_ GE157.out) | exact HB.out))⟩)
        ·skip
         refine goes_ Tryd.func108 (by kernel_rfl) rfl #[.agg #[.bool true, .int .u64 0, .string a0_1]] (by rfl) rfl rfl (by (try simp only [List.map_toArray, List.map_cons, List.map_nil]); first | done | rfl | (simp only [List.length_drop, qw]; rfl)) ?_
         with_reducible refine (saltusref02_One.calls true 0 a0_1 t162 _ A4.out).mono ?_
         rintro e w12 ⟨rfl, hb⟩
         refine ⟨_, rfl, ?_⟩
         have n0_ := qf (Kd.R_below (by (with_reducible repeat (first | apply Kd.R_alloc | apply Kd.R_drewN | apply Kd.R_drew)); exact HO160.out) hb)
         have n1_ := qf (blk_below (g := gb157) (o := .cells #[.int .u64 a0_0, .string a0_1] 46 (0, 0)) (by (with_reducible repeat (first | refine blk_drewN ?_ _ | refine blk_drew ?_ | refine qh ?_ _)); exact BK157.out) hb)
         have n2_ := qf (below_step (by repeat (first | (with_reducible first | exact HB.out | apply qa | apply qb | apply qc | refine qg ?_ GE157.out) | exact HB.out)) hb)
         clear HO160
         clear BK157
         clear HB
         have HO160 := n0_
         have BK157 := n1_
         have HB := n2_
         clear n0_ n1_ n2_
         (try clear hb)
         (try clear hb2)
         (try clear hk)
         (try clear hi)
         refine hK.out _ _ ⟨(blk_cell BK157.out 0).trans rfl, (blk_cell BK157.out 1).trans rfl⟩ (fun hHeld => ?_)
         clear hK K
         refine norm_ (a' := ?_) ?_ ?_
         rotate_left
         ·show Act.put _ (some 12) _ = _
          simp only [Act.put, qs, qt, qu, i64_w, i32_w]
          rfl
         exact norm_ (by first | (simp only [putAll, Act.put, qs, qt, qu]; done) | (simp only [putAll, Act.put, qs, qt, qu]; rfl)) (hJ0_4_9 (v159) _ ⟨hHeld, (by (with_reducible repeat (first | apply Kd.R_alloc | apply Kd.R_drewN | apply Kd.R_drew)); exact HO160.out), (by (with_reducible repeat (first | refine blk_drewN ?_ _ | refine blk_drew ?_ | refine qh ?_ _)); exact BK157.out), (by repeat (first | (with_reducible first | exact HB.out | apply qa | apply qb | apply qc | refine qg ?_ GE157.out) | exact HB.out))⟩)
      ·skip
       rintro v159 w11 ⟨hS_, h0_, h1_, h2_⟩
       have n0_ : Aside0 (Kd.R (Kd.int .u8) 5 w11 w.heap.size (fun _ => True) v159 y158) := ⟨h0_⟩
       have n1_ : Aside0 (w11.heap[gb157]? = some (.cells #[.int .u64 a0_0, .string a0_1] 46 (0, 0))) := ⟨h1_⟩
       have n2_ : Aside0 (Below w.heap.size w w11) := ⟨h2_⟩
       clear BK157
       clear HB
       clear h0_ h1_ h2_
       have HO160 := n0_
       have BK157 := n1_
       have HB := n2_
       clear n0_ n1_ n2_
       have hHeld : w11.cell? ⟨gb157, 0, none⟩ = some (.int .u64 a0_0) ∧ w11.cell? ⟨gb157, 1, none⟩ = some (.string a0_1) := hS_
       refine norm_ (a' := ?_) ?_ ?_
       rotate_left
       ·simp only [putAll, Act.put, qs, qt, qu]
        rfl
       refine one_ (i := 4) (N := some 7) (bm 12 479) rfl rfl (one_of HT_.out (by kernel_rfl)) (by decide) (fun K hK => ?_)
       refine goes_ Tryd.func64 (by kernel_rfl) rfl #[.int .u64 a0_0, .int .i64 8] (by rfl) rfl rfl (by (try simp only [List.map_toArray, List.map_cons, List.map_nil]); first | done | rfl | (simp only [List.length_drop, qw]; rfl)) ?_
       with_reducible refine (saltusref02_Low.calls a0_0 8 t161 _ A2.out).mono ?_
       rintro e w12 ⟨rfl, hb⟩
       refine ⟨_, rfl, ?_⟩
       have n0_ := qf (Kd.R_below (by (with_reducible repeat (first | apply Kd.R_alloc | apply Kd.R_drewN | apply Kd.R_drew)); exact HO160.out) hb)
       have n1_ := qf (blk_below (g := gb157) (o := .cells #[.int .u64 a0_0, .string a0_1] 46 (0, 0)) (by (with_reducible repeat (first | refine blk_drewN ?_ _ | refine blk_drew ?_ | refine qh ?_ _)); exact BK157.out) hb)
       have n2_ := qf (below_step (by repeat (first | (with_reducible first | exact HB.out | apply qa | apply qb | apply qc | refine qg ?_ GE157.out) | exact HB.out)) hb)
       clear HO160
       clear BK157
       clear HB
       have HO160 := n0_
       have BK157 := n1_
       have HB := n2_
       clear n0_ n1_ n2_
       (try clear hb)
       (try clear hb2)
       (try clear hk)
       (try clear hi)
       refine hK.out _ _ ⟨(blk_cell BK157.out 0).trans rfl, (blk_cell BK157.out 1).trans rfl⟩ (fun hHeld => ?_)
       clear hK K
       refine norm_ (a' := ?_) ?_ ?_
       rotate_left
       ·show Act.put _ (some 7) _ = _
        simp only [Act.put, qs, qt, qu, i64_w, i32_w]
        rfl
       refine pure_ (i := 5) (N := some 8) (v := ?_) (a' := ?_) (bm 12 511) rfl rfl (any_of HT_.out (by kernel_rfl)) (fun _ _ _ h => h) (Or.inl ⟨by rfl, ?_⟩) ?_ ?_
       rotate_left
       ·intro w'
        go_simp
        with_reducible rfl
       rotate_left
       ·simp only [Act.put, qs, qt, qu, i64_w, i32_w]
        rfl
       exact norm_ (by first | (simp only [putAll, Act.put, qs, qt, qu]; done) | (simp only [putAll, Act.put, qs, qt, qu]; rfl)) (hJ0_1_4 (v159) _ ⟨hHeld, (by (with_reducible repeat (first | apply Kd.R_alloc | apply Kd.R_drewN | apply Kd.R_drew)); exact HO160.out), (by (with_reducible repeat (first | refine blk_drewN ?_ _ | refine blk_drew ?_ | refine qh ?_ _)); exact BK157.out), (by repeat (first | (with_reducible first | exact HB.out | apply qa | apply qb | apply qc | refine qg ?_ GE157.out) | exact HB.out))⟩)
     ·skip
      rintro v159 w12 ⟨hS_, h0_, h1_, h2_⟩
      have n0_ : Aside0 (Kd.R (Kd.int .u8) 5 w12 w.heap.size (fun _ => True) v159 y158) := ⟨h0_⟩
      have n1_ : Aside0 (w12.heap[gb157]? = some (.cells #[.int .u64 a0_0, .string a0_1] 46 (0, 0))) := ⟨h1_⟩
      have n2_ : Aside0 (Below w.heap.size w w12) := ⟨h2_⟩
      clear BK157
      clear HB
      clear h0_ h1_ h2_
      have HO160 := n0_
      have BK157 := n1_
      have HB := n2_
      clear n0_ n1_ n2_
      have hHeld : w12.cell? ⟨gb157, 0, none⟩ = some (.int .u64 a0_0) ∧ w12.cell? ⟨gb157, 1, none⟩ = some (.string a0_1) := hS_
      refine norm_ (a' := ?_) ?_ ?_
      rotate_left
      ·simp only [putAll, Act.put, qs, qt, qu]
       rfl
      refine one_ (i := 1) (N := some 4) (bm 12 991) rfl rfl (one_of HT_.out (by kernel_rfl)) (by decide) (fun K hK => ?_)
      have hcv13 := own_string (P := Tryd.prog) Tryd.underlying111 Tryd.underlying5 Tryd.underlying9 (Kd.own_of_R HO160.out)
      refine value_ (w1 := ?_) (v := ?_) (by rfl) rfl ?_ ?_
      rotate_left 2
      ·go_simp
       constructor
       ·rfl
       ·rfl
      clear hcv13
      refine hK.out _ _ ⟨(blk_cell BK157.out 0).trans rfl, (blk_cell BK157.out 1).trans rfl⟩ (fun hHeld => ?_)
      clear hK K
      refine norm_ (a' := ?_) ?_ ?_
      rotate_left
      ·show Act.put _ (some 4) _ = _
       simp only [Act.put, qs, qt, qu, i64_w, i32_w]
       rfl
      refine pure_ (i := 5) (N := some 8) (v := ?_) (a' := ?_) (bm 12 1023) rfl rfl (any_of HT_.out (by kernel_rfl)) (fun _ _ _ h => h) (Or.inl ⟨by rfl, ?_⟩) ?_ ?_
      rotate_left
      ·intro w'
       go_simp
       with_reducible rfl
      rotate_left
      ·simp only [Act.put, qs, qt, qu, i64_w, i32_w]
       rfl
      exact norm_ (by first | (simp only [putAll, Act.put, qs, qt, qu]; done) | (simp only [putAll, Act.put, qs, qt, qu]; rfl)) (hJ0_1_4_9 (v159) _ ⟨hHeld, (by (with_reducible repeat (first | apply Kd.R_alloc | apply Kd.R_drewN | apply Kd.R_drew)); exact HO160.out), (by (with_reducible repeat (first | refine blk_drewN ?_ _ | refine blk_drew ?_ | refine qh ?_ _)); exact BK157.out), (by repeat (first | (with_reducible first | exact HB.out | apply qa | apply qb | apply qc | refine qg ?_ GE157.out) | exact HB.out))⟩)
    ·skip
     rintro v159 w12 ⟨hS_, h0_, h1_, h2_⟩
     have n0_ : Aside0 (Kd.R (Kd.int .u8) 5 w12 w.heap.size (fun _ => True) v159 y158) := ⟨h0_⟩
     have n1_ : Aside0 (w12.heap[gb157]? = some (.cells #[.int .u64 a0_0, .string a0_1] 46 (0, 0))) := ⟨h1_⟩
     have n2_ : Aside0 (Below w.heap.size w w12) := ⟨h2_⟩
     clear BK157
     clear HB
     clear h0_ h1_ h2_
     have HO160 := n0_
     have BK157 := n1_
     have HB := n2_
     clear n0_ n1_ n2_
     have hHeld : w12.cell? ⟨gb157, 0, none⟩ = some (.int .u64 a0_0) ∧ w12.cell? ⟨gb157, 1, none⟩ = some (.string a0_1) := hS_
     refine norm_ (a' := ?_) ?_ ?_
     rotate_left
     ·simp only [putAll, Act.put, qs, qt, qu]
      rfl
     refine one_ (i := 9) (N := some 12) (bm 12 1023) rfl rfl (one_of HT_.out (by kernel_rfl)) (by decide) (fun K hK => ?_)
     refine goes_ Tryd.func108 (by kernel_rfl) rfl #[.agg #[.bool true, .int .u64 0, .string a0_1]] (by rfl) rfl rfl (by (try simp only [List.map_toArray, List.map_cons, List.map_nil]); first | done | rfl | (simp only [List.length_drop, qw]; rfl)) ?_
     with_reducible refine (saltusref02_One.calls true 0 a0_1 t162 _ A4.out).mono ?_
     rintro e w13 ⟨rfl, hb⟩
     refine ⟨_, rfl, ?_⟩
     have n0_ := qf (Kd.R_below (by (with_reducible repeat (first | apply Kd.R_alloc | apply Kd.R_drewN | apply Kd.R_drew)); exact HO160.out) hb)
     have n1_ := qf (blk_below (g := gb157) (o := .cells #[.int .u64 a0_0, .string a0_1] 46 (0, 0)) (by (with_reducible repeat (first | refine blk_drewN ?_ _ | refine blk_drew ?_ | refine qh ?_ _)); exact BK157.out) hb)
     have n2_ := qf (below_step (by repeat (first | (with_reducible first | exact HB.out | apply qa | apply qb | apply qc | refine qg ?_ GE157.out) | exact HB.out)) hb)
     clear HO160
     clear BK157
     clear HB
     have HO160 := n0_
     have BK157 := n1_
     have HB := n2_
     clear n0_ n1_ n2_
     (try clear hb)
     (try clear hb2)
     (try clear hk)
     (try clear hi)
     refine hK.out _ _ ⟨(blk_cell BK157.out 0).trans rfl, (blk_cell BK157.out 1).trans rfl⟩ (fun hHeld => ?_)
     clear hK K
     refine norm_ (a' := ?_) ?_ ?_
     rotate_left
     ·show Act.put _ (some 12) _ = _
      simp only [Act.put, qs, qt, qu, i64_w, i32_w]
      rfl
     exact norm_ (by first | (simp only [putAll, Act.put, qs, qt, qu]; done) | (simp only [putAll, Act.put, qs, qt, qu]; rfl)) (hJ0_1_4_9 (v159) _ ⟨hHeld, (by (with_reducible repeat (first | apply Kd.R_alloc | apply Kd.R_drewN | apply Kd.R_drew)); exact HO160.out), (by (with_reducible repeat (first | refine blk_drewN ?_ _ | refine blk_drew ?_ | refine qh ?_ _)); exact BK157.out), (by repeat (first | (with_reducible first | exact HB.out | apply qa | apply qb | apply qc | refine qg ?_ GE157.out) | exact HB.out))⟩)
   rintro v159 w13 ⟨hS_, h0_, h1_, h2_⟩
   have n0_ : Aside0 (Kd.R (Kd.int .u8) 5 w13 w.heap.size (fun _ => True) v159 y158) := ⟨h0_⟩
   have n1_ : Aside0 (w13.heap[gb157]? = some (.cells #[.int .u64 a0_0, .string a0_1] 46 (0, 0))) := ⟨h1_⟩
   have n2_ : Aside0 (Below w.heap.size w w13) := ⟨h2_⟩
   clear BK157
   clear HB
   clear h0_ h1_ h2_
   have HO160 := n0_
   have BK157 := n1_
   have HB := n2_
   clear n0_ n1_ n2_
   have hHeld : w13.cell? ⟨gb157, 0, none⟩ = some (.int .u64 a0_0) ∧ w13.cell? ⟨gb157, 1, none⟩ = some (.string a0_1) := hS_
   refine norm_ (a' := ?_) ?_ ?_
   rotate_left
   ·simp only [putAll, Act.put, qs, qt, qu]
    rfl
   refine pure_ (i := 10) (N := some 13) (v := ?_) (a' := ?_) (bm 12 2047) rfl rfl (any_of HT_.out (by kernel_rfl)) (fun _ _ _ h => h) (Or.inl ⟨by rfl, ?_⟩) ?_ ?_
   rotate_left
   ·intro w'
    go_simp
    with_reducible rfl
   rotate_left
   ·simp only [Act.put, qs, qt, qu, i64_w, i32_w]
    rfl
   refine pure_ (i := 11) (N := some 2) (v := ?_) (a' := ?_) (bm 12 4095) rfl rfl (any_of HT_.out (by kernel_rfl)) (fun _ _ _ h => h) (Or.inl ⟨by rfl, ?_⟩) ?_ ?_
   rotate_left
   ·intro w'
    go_simp
    with_reducible rfl
   rotate_left
   ·simp only [Act.put, qs, qt, qu, i64_w, i32_w]
    rfl
   refine done_ (done_of HT_.out (by kernel_rfl)) ?_
   try go_wp2
   go_ret
   exact ⟨by first | rfl | (simp [errW_none, errW_some] <;> rfl) | (simp [*, errW_none, errW_some] <;> rfl), by repeat (first | (with_reducible first | exact HB.out | apply qa | apply qb | apply qc | refine qg ?_ GE157.out) | exact HB.out)⟩
  ·rw [if_neg c5] at H
   exact absurd H (by simp)
 ·rw [if_neg c3] at H
  exact absurd H (by simp)
/-! ### saltusref18_Steps: function 57 -/
end Go.Proofs.YtolbhliepkcihaaDoor.QPA
end
section
namespace Go.Proofs.YtolbhliepkcihaaDoor.QPA
open Go.RowKit Kinds YtolbhliepkcihaaDoorW.PrintWords YtolbhliepkcihaaDoorW.PrintLast YtolbhliepkcihaaDoorW.PrintMore
attribute [local go_sem] max2_int min2_int max_two min_two max_three min_three max_four min_four   -- for this text's walks alone
set_option linter.unusedVariables false
set_option linter.unusedSimpArgs false
/-! ### saltusref18_All: function 94 -/
mutual
def saltusref18_All.l0 : Nat → List ByteArray → Int → List (S46) → List Int → Option (List ByteArray)
 | 0, _, _, _, _ => none
 | k + 1, x3, x4, x190000, x190001 => if x4 < (x190000.length : Int) then (if x4 ≥ 0 then (if 0 ≤ x4 then ((saltusref17_Item.f ((rd_T46 x190000 x4).f0) ((rd_T46 x190000 x4).f1)).bind fun t197 => (if x3.length < 8796093022208 then (saltusref18_All.j1 k (x3 ++ [t197]) x4 x190000 x190001) else (none))) else (none)) else (saltusref18_All.j1 k x3 x4 x190000 x190001)) else (some x3)
def saltusref18_All.j1 : Nat → List ByteArray → Int → List (S46) → List Int → Option (List ByteArray)
 | 0, _, _, _, _ => none
 | k + 1, x3, x4, x190000, x190001 => saltusref18_All.l1 k x3 x4 0 x190000 x190001
def saltusref18_All.l1 : Nat → List ByteArray → Int → Int → List (S46) → List Int → Option (List ByteArray)
 | 0, _, _, _, _, _ => none
 | k + 1, x3, x4, x5, x190000, x190001 => if x5 < 8 then (if x4 < 0 then (saltusref18_All.j3 k x3 x4 x5 true x190000 x190001) else (if 0 ≤ x4 then (if x4 < (x190001.length : Int) then (saltusref18_All.j3 k x3 x4 x5 (decide ((rd x190001 x4) > (wrap64 (x5 + 1)))) x190000 x190001) else (none)) else (none))) else (saltusref18_All.l0 k x3 (wrap64 (x4 + 1)) x190000 x190001)
def saltusref18_All.j3 : Nat → List ByteArray → Int → Int → Bool → List (S46) → List Int → Option (List ByteArray)
 | 0, _, _, _, _, _, _ => none
 | k + 1, x3, x4, x5, x42, x190000, x190001 => if x42 = true then ((saltusref17_From.f x190000 x190001 x4 x5 (wrap64 (x5 + 1))).bind fun t202 => ((saltusref17_Text.f (wrap64 (x5 + 1)) t202).bind fun t205 => (if x3.length < 8796093022208 then (saltusref18_All.l1 k (x3 ++ [t205]) x4 (wrap64 (x5 + 1)) x190000 x190001) else (none)))) else (saltusref18_All.l1 k x3 x4 (wrap64 (x5 + 1)) x190000 x190001)
end
def saltusref18_All.f (k : Nat) (l0_0 : List (S46)) (l0_1 : List Int) : Option (List ByteArray) := saltusref18_All.l0 k (([strOfNums (([1] : List Int))] : List ByteArray)) (-1) l0_0 l0_1
set_option maxHeartbeats 8000000 in
set_option maxRecDepth 100000 in
theorem saltusref18_All.calls (k : Nat) (A0_0 : Option Addr) (c0_0 : Nat) (l0_0 : List (S46)) (A0_1 : Option Addr) (c0_1 : Nat) (l0_1 : List Int) (r : List ByteArray) (w : World) (hr0_0 : Kd.C k46 w A0_0 l0_0.length l0_0) (hc0_0 : l0_0.length ≤ c0_0) (hr0_1 : Kd.C (Kd.int .i64) w A0_1 l0_1.length l0_1) (hc0_1 : l0_1.length ≤ c0_1) (h : saltusref18_All.f k l0_0 l0_1 = some r) :
  Calls Tryd.prog 94 #[.agg #[.slice A0_0 l0_0.length c0_0, .slice A0_1 l0_1.length c0_1]] w fun e w' => ∃ v0_ : Value, e = .returned (v0_) ∧ Kd.R Kd.string 9 w' w.heap.size (fun _ => True) v0_ r ∧ Below w.heap.size w w' := by
 have hu101 := Tryd.underlying101
 have hu46 := Tryd.underlying46
 have HR0_0 := qf hr0_0
 have HC0_0 := qf hc0_0
 clear hr0_0 hc0_0
 have HR0_1 := qf hr0_1
 have HC0_1 := qf hc0_1
 clear hr0_1 hc0_1
 have HB := qf (Below.refl w.heap.size w)
 have H : (saltusref18_All.l0 k (([strOfNums (([1] : List Int))] : List ByteArray)) (-1) l0_0 l0_1) = some r := h
 clear h
 obtain ⟨y190, hy190⟩ : ∃ y_ : List Int, y_ = (([1] : List Int)) := ⟨_, rfl⟩
 replace H : (saltusref18_All.l0 k (([strOfNums y190] : List ByteArray)) (-1) l0_0 l0_1) = some r := by first | (rw [hy190]; with_reducible exact H) | (have H2_ := (qv _ _).symm.trans H; rw [hy190]; with_reducible exact H2_) | (have H2_ := (qv _ _).symm.trans H; with_reducible exact H2_) | with_reducible exact H | (rw [hy190]; exact H) | exact H
 have Ny190 := qf hy190
 clear hy190
 obtain ⟨y193, hy193⟩ : ∃ y_ : List ByteArray, y_ = (([strOfNums y190] : List ByteArray)) := ⟨_, rfl⟩
 replace H : (saltusref18_All.l0 k y193 (-1) l0_0 l0_1) = some r := by first | (rw [hy193]; with_reducible exact H) | (have H2_ := (qv _ _).symm.trans H; rw [hy193]; with_reducible exact H2_) | (have H2_ := (qv _ _).symm.trans H; with_reducible exact H2_) | with_reducible exact H | (rw [hy193]; exact H) | exact H
 have Ny193 := qf hy193
 clear hy193
 have H' := qf H
 clear H
 go_enter Tryd.func94, Tryd.ntmps94
 go_wp2_with (first | ((with_reducible refine gate_dst (N := 1) rfl ?_); refine box_event ?hg (N := 1) ?hd (cs := #[.slice A0_0 l0_0.length c0_0, .slice A0_1 l0_1.length c0_1]) (t := 101) ?hr ?_; (case hd => rfl); (case hg => rfl); (case hr => first | (go_simp; done) | (go_simp; rfl)); intro gb189 hg w2 hbox hb; have n0_ := qf (below_step (by repeat (first | (with_reducible first | exact HB.out | apply qa | apply qb | apply qc) | exact HB.out)) hb); have n1_ := qf (hbox); have n2_ := qf ((by rw [hg]; exact (below_size (by repeat (first | (with_reducible first | exact HB.out | apply qa | apply qb | apply qc) | exact HB.out))) : w.heap.size ≤ gb189)); have n3_ := qf ((by rw [hg]; exact (below_size (by repeat (first | (with_reducible first | exact HB.out | apply qa | apply qb | apply qc) | exact HB.out))) : w.heap.size ≤ gb189)); clear HB; have HB := n0_; have BK189 := n1_; have GW189 := n2_; have GE189 := n3_; clear n0_ n1_ n2_ n3_; clear hb hbox hg) | ((with_reducible refine gate_dst (N := 6) rfl ?_); refine Kd.R_lit (Kd.int .u8) _ 5 ?hg (N := 6) ?hd (xs := ([1] : List Int)) (inner := [.int .u8 1]) (ok := fun _ => True) (okp := fun _ => True) ?hr ?hp (fun _ hk => hk) trivial (Below.refl _ _) (Nat.le_refl _) (by simp) ?_; (case hd => rfl); (case hg => rfl); (case hr => first | (go_simp; done) | (go_simp; rfl)); (case hp => exact (Reps.one (show Kd.M (Kd.int .u8) _ _ _ 1 [.int .u8 1] from rfl) (Reps.none _ _))); intro v191 w3 ho4 hb hg_ hnew_; clear hg_ hnew_; (first | rw [← Ny190.out] at ho4 | (simp only [Int.reduceToNat] at ho4; rw [← Ny190.out] at ho4)); have n0_ := qf (Kd.R_lower ho4 (below_size (by repeat (first | (with_reducible first | exact HB.out | apply qa | apply qb | apply qc | refine qg ?_ GE189.out) | exact HB.out)))); have n1_ := qf (blk_below (g := gb189) (o := .cells #[.slice A0_0 l0_0.length c0_0, .slice A0_1 l0_1.length c0_1] 101 (0, 0)) (by (with_reducible repeat (first | refine blk_drewN ?_ _ | refine blk_drew ?_ | refine qh ?_ _)); exact BK189.out) hb); have n2_ := qf (below_step (by repeat (first | (with_reducible first | exact HB.out | apply qa | apply qb | apply qc | refine qg ?_ GE189.out) | exact HB.out)) hb); clear BK189; clear HB; have HO192 := n0_; have BK189 := n1_; have HB := n2_; clear n0_ n1_ n2_; clear hb ho4; have hcv5 := own_string (P := Tryd.prog) Tryd.underlying111 Tryd.underlying5 Tryd.underlying9 (Kd.own_of_R HO192.out)) | ((with_reducible refine gate_dst (N := 8) rfl ?_); refine Kd.R_lit Kd.string _ 9 ?hg (N := 8) ?hd (xs := ([strOfNums y190] : List ByteArray)) (inner := [.string (strOfNums y190)]) (ok := fun _ => True) (okp := fun _ => True) ?hr ?hp (fun _ hk => hk) trivial (Below.refl _ _) (Nat.le_refl _) (by simp) ?_; (case hd => rfl); (case hg => rfl); (case hr => first | (go_simp; done) | (go_simp; rfl)); (case hp => exact (Reps.one (show Kd.M Kd.string _ _ _ (strOfNums y190) [.string (strOfNums y190)] from rfl) (Reps.none _ _))); intro v194 w6 ho7 hb hg_ hnew_; clear hg_ hnew_; (first | rw [← Ny193.out] at ho7 | (simp only [Int.reduceToNat] at ho7; rw [← Ny193.out] at ho7)); have n0_ := qf (Kd.R_below (by (with_reducible repeat (first | apply Kd.R_alloc | apply Kd.R_drewN | apply Kd.R_drew)); exact HO192.out) hb); have n1_ := qf (Kd.R_lower ho7 (below_size (by repeat (first | (with_reducible first | exact HB.out | apply qa | apply qb | apply qc | refine qg ?_ GE189.out) | exact HB.out)))); have n2_ := qf (blk_below (g := gb189) (o := .cells #[.slice A0_0 l0_0.length c0_0, .slice A0_1 l0_1.length c0_1] 101 (0, 0)) (by (with_reducible repeat (first | refine blk_drewN ?_ _ | refine blk_drew ?_ | refine qh ?_ _)); exact BK189.out) hb); have n3_ := qf (below_step (by repeat (first | (with_reducible first | exact HB.out | apply qa | apply qb | apply qc | refine qg ?_ GE189.out) | exact HB.out)) hb); clear HO192; clear BK189; clear HB; have HO192 := n0_; have HO195 := n1_; have BK189 := n2_; have HB := n3_; clear n0_ n1_ n2_ n3_; clear hb ho7))
 go_loopg [3, 4] k (fun kq v3 v4 w' => ∃ (x3_1 : List ByteArray) (x4_1 : Int), v4 = .int .i64 x4_1 ∧ Aside0 (saltusref18_All.l0 kq x3_1 x4_1 l0_0 l0_1 = some r) ∧ Aside0 (kq ≤ k) ∧ Aside0 (Kd.R Kd.string 9 w' w.heap.size (fun _ => True) v3 x3_1) ∧ Aside0 (w'.heap[gb189]? = some (.cells #[(.slice A0_0 l0_0.length c0_0), (.slice A0_1 l0_1.length c0_1)] 101 (0, 0))) ∧ Aside0 (Below w.heap.size w w'))
 case atStart => exact ⟨(y193), ((-1)), (by first | rfl | (simp; done) | (simp [*]; done)), H', ⟨Nat.le_refl _⟩, ⟨by (with_reducible repeat (first | apply Kd.R_alloc | apply Kd.R_drewN | apply Kd.R_drew)); exact HO195.out⟩, ⟨by (with_reducible repeat (first | refine blk_drewN ?_ _ | refine blk_drew ?_ | refine qh ?_ _)); exact BK189.out⟩, ⟨by repeat (first | (with_reducible first | exact HB.out | apply qa | apply qb | apply qc | refine qg ?_ GE189.out) | exact HB.out)⟩⟩
 case round =>
  clear H'
  try clear p2
  try clear hcv5
  obtain ⟨x3_1, x4_1, rfl, HA, HK1, HO_3, BK189, HB⟩ := hrel
  cases gk with
  | zero => exact absurd HA.out (by simp [saltusref18_All.l0])
  | succ k1 =>
   have H := HA.out
   clear HA
   simp only [saltusref18_All.l0] at H
   by_cases c8 : x4_1 < (l0_0.length : Int)
   ·rw [if_pos c8] at H
    have c8b0 : decide (x4_1 < (l0_0.length : Int)) = true := qj c8
    clear c8
    have HC9 := qf H
    clear H
    have hcz10_0 : wr.cell? ⟨gb189, 0, none⟩ = some (.slice A0_0 l0_0.length c0_0) := (blk_cell BK189.out 0).trans rfl
    have hcz10_1 : wr.cell? ⟨gb189, 1, none⟩ = some (.slice A0_1 l0_1.length c0_1) := (blk_cell BK189.out 1).trans rfl
    have hfz10_0 := blk_frozen BK189.out 0
    have hfz10_1 := blk_frozen BK189.out 1
    go_upto_if 17 with (fail)
    go_cut [3] (fun v3 wc => ∃ (kq : Nat) (x3_8 : List ByteArray), Aside0 (saltusref18_All.j1 kq x3_8 x4_1 l0_0 l0_1 = some r) ∧ Aside0 (kq ≤ k1) ∧ Aside0 (Kd.R Kd.string 9 wc w.heap.size (fun _ => True) v3 x3_8) ∧ Aside0 (wc.heap[gb189]? = some (.cells #[(.slice A0_0 l0_0.length c0_0), (.slice A0_1 l0_1.length c0_1)] 101 (0, 0))) ∧ Aside0 (Below w.heap.size w wc))
    case first =>
     have H := HC9.out
     clear HC9
     by_cases c11 : x4_1 ≥ 0
     ·rw [if_pos c11] at H
      have c11b0 : decide (0 ≤ x4_1) = true := qj c11
      clear c11
      (first | rw [c11b0] | (simp only [i64_w, i32_w]; rw [c11b0]) | skip)
      by_cases c12 : 0 ≤ x4_1
      ·rw [if_pos c12] at H
       have c12b0 : decide (0 ≤ x4_1) = true := qj c12
       clear c12
       replace H := qi H
       obtain ⟨t197, A130, H⟩ := H
       (try dsimp only at H)
       have A13 := qf A130
       clear A130
       by_cases c14 : x3_1.length < 8796093022208
       ·rw [if_pos c14] at H
        have LMc14 := qf c14
        clear c14
        obtain ⟨y198, hy198⟩ : ∃ y_ : List ByteArray, y_ = (x3_1 ++ [t197]) := ⟨_, rfl⟩
        replace H : (saltusref18_All.j1 k1 y198 x4_1 l0_0 l0_1) = some r := by first | (rw [hy198]; with_reducible exact H) | (have H2_ := (qv _ _).symm.trans H; rw [hy198]; with_reducible exact H2_) | (have H2_ := (qv _ _).symm.trans H; with_reducible exact H2_) | with_reducible exact H | (rw [hy198]; exact H) | exact H
        have Ny198 := qf hy198
        clear hy198
        have H' := qf H
        clear H
        have hcz15_0 : wr.cell? ⟨gb189, 0, none⟩ = some (.slice A0_0 l0_0.length c0_0) := (blk_cell BK189.out 0).trans rfl
        have hcz15_1 : wr.cell? ⟨gb189, 1, none⟩ = some (.slice A0_1 l0_1.length c0_1) := (blk_cell BK189.out 1).trans rfl
        have hfz15_0 := blk_frozen BK189.out 0
        have hfz15_1 := blk_frozen BK189.out 1
        have p196 : 0 ≤ (x4_1 : Int) := qe (by first | (with_reducible assumption) | assumption)
        have q196 : x4_1 < (l0_0.length : Int) := qe (by first | (with_reducible assumption) | assumption)
        obtain ⟨ad196, e196, hx196_0, hx196_1⟩ := at_T46 HR0_0.out x4_1 p196 q196
        cases e196
        replace hx196_0 := (HB.out.cell (qd w _ hx196_0)).trans hx196_0
        replace hx196_1 := (HB.out.cell (qd w _ hx196_1)).trans hx196_1
        replace p196 := eq_true p196
        replace q196 := eq_true q196
        go_wp2_with (first | ((with_reducible refine gate_callee (f := 76) rfl ?_); refine goesL_ (some 24) rfl rfl Tryd.func76 (by kernel_rfl) rfl #[.agg #[.int .u64 ((rd_T46 l0_0 x4_1).f0), .string ((rd_T46 l0_0 x4_1).f1)]] rfl (by (try simp only [List.map_toArray, List.map_cons, List.map_nil]); first | done | rfl | (simp only [List.length_drop, qw]; rfl)) ?_; (with_reducible refine (saltusref17_Item.calls ((rd_T46 l0_0 x4_1).f0) ((rd_T46 l0_0 x4_1).f1) t197 _ A13.out).mono ?_); rintro e w16 ⟨rfl, hb⟩; refine ⟨_, rfl, ?_⟩; have n0_ := qf (Kd.R_below (by (with_reducible repeat (first | apply Kd.R_alloc | apply Kd.R_drewN | apply Kd.R_drew)); exact HO_3.out) hb); have n1_ := qf (blk_below (g := gb189) (o := .cells #[.slice (some ad196) l0_0.length c0_0, .slice A0_1 l0_1.length c0_1] 101 (0, 0)) (by (with_reducible repeat (first | refine blk_drewN ?_ _ | refine blk_drew ?_ | refine qh ?_ _)); exact BK189.out) hb); have n2_ := qf (below_step (by repeat (first | (with_reducible first | exact HB.out | apply qa | apply qb | apply qc | refine qg ?_ GE189.out) | exact HB.out)) hb); clear HO_3; clear BK189; clear HB; have HO_3 := n0_; have BK189 := n1_; have HB := n2_; clear n0_ n1_ n2_; (try clear hb); (try clear hb2); (try clear hk); (try clear hi)) | ((with_reducible refine gate_builtin (b := .append) (xs := #[.tmp 18, .tmp 25]) rfl ?_); at_builtin; refine Kd.R_append Kd.string (w0 := w) w.heap.size rfl (.tmp 18) (.tmp 25) 49 9 (.string ⟨#[]⟩) 16 rfl Tryd.underlying49 info9 rfl (by decide) (by omega) u3 x3_1 t197 [.string t197] (fun _ => True) (fun _ => False) rfl rfl ?aP (fun _ hk => hk.elim) ?aF ?aO ?aB ?aS ?aL ?_; (case aP => exact rfl); (case aB => exact (by repeat (first | (with_reducible first | exact HB.out | apply qa | apply qb | apply qc | refine qg ?_ GE189.out) | exact HB.out))); (case aF => exact (fun _ _ => trivial)); (case aO => exact (by (with_reducible repeat (first | apply Kd.R_alloc | apply Kd.R_drewN | apply Kd.R_drew)); exact HO_3.out)); (case aS => exact (below_size (by repeat (first | (with_reducible first | exact HB.out | apply qa | apply qb | apply qc | refine qg ?_ GE189.out) | exact HB.out)))); (case aL => have := LMc14.out; omega); intro v199 w17 ho hb hg hat; rw [← Ny198.out] at ho; have n0_ := qf (blk_grown (g := gb189) (o := .cells #[.slice (some ad196) l0_0.length c0_0, .slice A0_1 l0_1.length c0_1] 101 (0, 0)) (by (with_reducible repeat (first | refine blk_drewN ?_ _ | refine blk_drew ?_ | refine qh ?_ _)); exact BK189.out) hg (Kd.R_ne HO_3.out BK189.out (by decide))); have n1_ := qf (hb); have n2_ := qf (ho); clear BK189; clear HB; clear HO_3; have BK189 := n0_; have HB := n1_; have HO200 := n2_; clear n0_ n1_ n2_; clear ho hb hg hat))
        go_meet
        case rel => exact ⟨_, (y198), H', ⟨by have := HK1.out; first | omega | exact Nat.le_refl _⟩, ⟨by (with_reducible repeat (first | apply Kd.R_alloc | apply Kd.R_drewN | apply Kd.R_drew)); exact HO200.out⟩, ⟨by (with_reducible repeat (first | refine blk_drewN ?_ _ | refine blk_drew ?_ | refine qh ?_ _)); exact BK189.out⟩, ⟨by repeat (first | (with_reducible first | exact HB.out | apply qa | apply qb | apply qc | refine qg ?_ GE189.out) | exact HB.out)⟩⟩
       ·rw [if_neg c14] at H
        exact absurd H (by simp)
      ·rw [if_neg c12] at H
       exact absurd H (by simp)
     ·rw [if_neg c11] at H
      have c11b0 : decide (0 ≤ x4_1) = false := decide_eq_false c11
      clear c11
      (first | rw [c11b0] | (simp only [i64_w, i32_w]; rw [c11b0]) | skip)
      have H' := qf H
      clear H
      go_wp2
      go_meet
      case rel => exact ⟨_, (x3_1), H', ⟨by have := HK1.out; first | omega | exact Nat.le_refl _⟩, ⟨by (with_reducible repeat (first | apply Kd.R_alloc | apply Kd.R_drewN | apply Kd.R_drew)); exact HO_3.out⟩, ⟨by (with_reducible repeat (first | refine blk_drewN ?_ _ | refine blk_drew ?_ | refine qh ?_ _)); exact BK189.out⟩, ⟨by repeat (first | (with_reducible first | exact HB.out | apply qa | apply qb | apply qc | refine qg ?_ GE189.out) | exact HB.out)⟩⟩
    case rest =>
     clear HC9
     try clear c1
     try clear p1
     try clear q1
     try clear hx1
     try clear p2
     try clear hcv5
     try clear c7
     try clear c8
     try clear c8b0
     try clear c9
     try clear c11
     try clear c11b0
     try clear c12
     try clear c12b0
     try clear c14
     try clear hcz10_0
     try clear hcz10_1
     try clear hcz15_0
     try clear hcz15_1
     try clear hfz10_0
     try clear hfz10_1
     try clear hfz15_0
     try clear hfz15_1
     try clear hx196_0
     try clear hx196_1
     try clear p196
     try clear p2
     try clear q196
     obtain ⟨kq, x3_8, HA, HJ8, HO_3, BK189, HB⟩ := hcut
     cases kq with
     | zero => exact absurd HA.out (by simp [saltusref18_All.j1])
     | succ kj8 =>
      have H := HA.out
      clear HA
      simp only [saltusref18_All.j1] at H
      have H' := qf H
      clear H
      go_wp2
      go_loopg [3, 5] kj8 (fun kq v3 v5 w' => ∃ (x3_3 : List ByteArray) (x5_3 : Int), v5 = .int .i64 x5_3 ∧ Aside0 (saltusref18_All.l1 kq x3_3 x4_1 x5_3 l0_0 l0_1 = some r) ∧ Aside0 (kq ≤ kj8) ∧ Aside0 (Kd.R Kd.string 9 w' w.heap.size (fun _ => True) v3 x3_3) ∧ Aside0 (w'.heap[gb189]? = some (.cells #[(.slice A0_0 l0_0.length c0_0), (.slice A0_1 l0_1.length c0_1)] 101 (0, 0))) ∧ Aside0 (Below w.heap.size w w'))
      case atStart => exact ⟨(x3_8), (0), (by first | rfl | (simp; done) | (simp [*]; done)), H', ⟨Nat.le_refl _⟩, ⟨by (with_reducible repeat (first | apply Kd.R_alloc | apply Kd.R_drewN | apply Kd.R_drew)); exact HO_3.out⟩, ⟨by (with_reducible repeat (first | refine blk_drewN ?_ _ | refine blk_drew ?_ | refine qh ?_ _)); exact BK189.out⟩, ⟨by repeat (first | (with_reducible first | exact HB.out | apply qa | apply qb | apply qc | refine qg ?_ GE189.out) | exact HB.out)⟩⟩
      case round =>
       clear H'
       try clear c1
       try clear p1
       try clear q1
       try clear hx1
       try clear p2
       try clear hcv5
       try clear c7
       try clear c8
       try clear c8b0
       try clear c9
       try clear c11
       try clear c11b0
       try clear c12
       try clear c12b0
       try clear c14
       try clear hcz10_0
       try clear hcz10_1
       try clear hcz15_0
       try clear hcz15_1
       try clear hfz10_0
       try clear hfz10_1
       try clear hfz15_0
       try clear hfz15_1
       try clear hx196_0
       try clear hx196_1
       try clear p1
       try clear p196
       try clear p2
       try clear q1
       try clear q196
       obtain ⟨x3_3, x5_3, rfl, HA, HK3, HO_3, BK189, HB⟩ := hrel
       cases gk with
       | zero => exact absurd HA.out (by simp [saltusref18_All.l1])
       | succ k3 =>
        have H := HA.out
        clear HA
        simp only [saltusref18_All.l1] at H
        by_cases c18 : x5_3 < 8
        ·rw [if_pos c18] at H
         have c18b0 : decide (x5_3 < 8) = true := qj c18
         clear c18
         have HC19 := qf H
         clear H
         go_upto_region 10 with (fail)
         go_cut [42] (fun v42 wc => ∃ (kq : Nat) (x42_18 : Bool), v42 = .bool x42_18 ∧ Aside0 (saltusref18_All.j3 kq x3_3 x4_1 x5_3 x42_18 l0_0 l0_1 = some r) ∧ Aside0 (kq ≤ k3) ∧ Aside0 (Kd.R Kd.string 9 wc w.heap.size (fun _ => True) u3 x3_3) ∧ Aside0 (wc.heap[gb189]? = some (.cells #[(.slice A0_0 l0_0.length c0_0), (.slice A0_1 l0_1.length c0_1)] 101 (0, 0))) ∧ Aside0 (Below w.heap.size w wc))
         case first =>
          have H := HC19.out
          clear HC19
          by_cases c20 : x4_1 < 0
          ·rw [if_pos c20] at H
           have c20b0 : decide (x4_1 < 0) = true := qj c20
           clear c20
           (first | rw [c20b0] | (simp only [i64_w, i32_w]; rw [c20b0]) | skip)
           have H' := qf H
           clear H
           go_wp2
           go_meet
           case rel => exact ⟨_, (true), (by first | rfl | (simp; done) | (simp [*]; done)), H', ⟨by have := HK1.out; have := HJ8.out; have := HK3.out; first | omega | exact Nat.le_refl _⟩, ⟨by (with_reducible repeat (first | apply Kd.R_alloc | apply Kd.R_drewN | apply Kd.R_drew)); exact HO_3.out⟩, ⟨by (with_reducible repeat (first | refine blk_drewN ?_ _ | refine blk_drew ?_ | refine qh ?_ _)); exact BK189.out⟩, ⟨by repeat (first | (with_reducible first | exact HB.out | apply qa | apply qb | apply qc | refine qg ?_ GE189.out) | exact HB.out)⟩⟩
          ·rw [if_neg c20] at H
           have c20b0 : decide (x4_1 < 0) = false := decide_eq_false c20
           clear c20
           (first | rw [c20b0] | (simp only [i64_w, i32_w]; rw [c20b0]) | skip)
           by_cases c21 : 0 ≤ x4_1
           ·rw [if_pos c21] at H
            have c21b0 : decide (0 ≤ x4_1) = true := qj c21
            clear c21
            by_cases c22 : x4_1 < (l0_1.length : Int)
            ·rw [if_pos c22] at H
             have c22b0 : decide (x4_1 < (l0_1.length : Int)) = true := qj c22
             clear c22
             have H' := qf H
             clear H
             have hcz23_0 : wr.cell? ⟨gb189, 0, none⟩ = some (.slice A0_0 l0_0.length c0_0) := (blk_cell BK189.out 0).trans rfl
             have hcz23_1 : wr.cell? ⟨gb189, 1, none⟩ = some (.slice A0_1 l0_1.length c0_1) := (blk_cell BK189.out 1).trans rfl
             have hfz23_0 := blk_frozen BK189.out 0
             have hfz23_1 := blk_frozen BK189.out 1
             have p201 : 0 ≤ (x4_1 : Int) := qe (by first | (with_reducible assumption) | assumption)
             have q201 : x4_1 < (l0_1.length : Int) := qe (by first | (with_reducible assumption) | assumption)
             obtain ⟨ad201, e201, hx201_0⟩ := Kd.at_int HR0_1.out x4_1 p201 q201
             cases e201
             replace hx201_0 := (HB.out.cell (qd w _ hx201_0)).trans hx201_0
             replace p201 := eq_true p201
             replace q201 := eq_true q201
             go_wp2
             go_meet
             case rel => exact ⟨_, (decide ((rd l0_1 x4_1) > (wrap64 (x5_3 + 1)))), (by first | rfl | (simp; done) | (simp [*]; done)), H', ⟨by have := HK1.out; have := HJ8.out; have := HK3.out; first | omega | exact Nat.le_refl _⟩, ⟨by (with_reducible repeat (first | apply Kd.R_alloc | apply Kd.R_drewN | apply Kd.R_drew)); exact HO_3.out⟩, ⟨by (with_reducible repeat (first | refine blk_drewN ?_ _ | refine blk_drew ?_ | refine qh ?_ _)); exact BK189.out⟩, ⟨by repeat (first | (with_reducible first | exact HB.out | apply qa | apply qb | apply qc | refine qg ?_ GE189.out) | exact HB.out)⟩⟩
            ·rw [if_neg c22] at H
             exact absurd H (by simp)
           ·rw [if_neg c21] at H
            exact absurd H (by simp)
         case rest =>
          clear HC19
          try clear c1
          try clear p1
          try clear q1
          try clear hx1
          try clear c2
          try clear p2
          try clear q2
          try clear hx2
          try clear hcv5
          try clear p6
          try clear c7
          try clear c8
          try clear c8b0
          try clear c9
          try clear c11
          try clear c11b0
          try clear c12
          try clear c12b0
          try clear c14
          try clear c18
          try clear c18b0
          try clear p19
          try clear q19
          try clear hx19
          try clear c20
          try clear c20b0
          try clear p20
          try clear q20
          try clear hx20
          try clear c21
          try clear c21b0
          try clear c22
          try clear c22b0
          try clear hcz10_0
          try clear hcz10_1
          try clear hcz15_0
          try clear hcz15_1
          try clear hcz23_0
          try clear hcz23_1
          try clear hfz10_0
          try clear hfz10_1
          try clear hfz15_0
          try clear hfz15_1
          try clear hfz23_0
          try clear hfz23_1
          try clear hx196_0
          try clear hx196_1
          try clear hx201_0
          try clear p1
          try clear p196
          try clear p2
          try clear p201
          try clear q1
          try clear q196
          try clear q201
          obtain ⟨kq, x42_18, rfl, HA, HJ18, HO_3, BK189, HB⟩ := hcut
          cases kq with
          | zero => exact absurd HA.out (by simp [saltusref18_All.j3])
          | succ kj18 =>
           have H := HA.out
           clear HA
           simp only [saltusref18_All.j3] at H
           by_cases c24 : x42_18 = true
           ·subst c24
            have H1 : ((saltusref17_From.f l0_0 l0_1 x4_1 x5_3 (wrap64 (x5_3 + 1))).bind fun t202 => ((saltusref17_Text.f (wrap64 (x5_3 + 1)) t202).bind fun t205 => (if x3_3.length < 8796093022208 then (saltusref18_All.l1 kj18 (x3_3 ++ [t205]) x4_1 (wrap64 (x5_3 + 1)) l0_0 l0_1) else (none)))) = some r := by rw [if_pos rfl] at H; exact H
            clear H
            have H := H1
            clear H1
            replace H := qi H
            obtain ⟨t202, A250, H⟩ := H
            (try dsimp only at H)
            have A25 := qf A250
            clear A250
            replace H := qi H
            obtain ⟨t205, A260, H⟩ := H
            (try dsimp only at H)
            have A26 := qf A260
            clear A260
            by_cases c27 : x3_3.length < 8796093022208
            ·rw [if_pos c27] at H
             have LMc27 := qf c27
             clear c27
             obtain ⟨y206, hy206⟩ : ∃ y_ : List ByteArray, y_ = (x3_3 ++ [t205]) := ⟨_, rfl⟩
             replace H : (saltusref18_All.l1 kj18 y206 x4_1 (wrap64 (x5_3 + 1)) l0_0 l0_1) = some r := by first | (rw [hy206]; with_reducible exact H) | (have H2_ := (qv _ _).symm.trans H; rw [hy206]; with_reducible exact H2_) | (have H2_ := (qv _ _).symm.trans H; with_reducible exact H2_) | with_reducible exact H | (rw [hy206]; exact H) | exact H
             have Ny206 := qf hy206
             clear hy206
             have H' := qf H
             clear H
             have hcz28_0 : wc.cell? ⟨gb189, 0, none⟩ = some (.slice A0_0 l0_0.length c0_0) := (blk_cell BK189.out 0).trans rfl
             have hcz28_1 : wc.cell? ⟨gb189, 1, none⟩ = some (.slice A0_1 l0_1.length c0_1) := (blk_cell BK189.out 1).trans rfl
             have hfz28_0 := blk_frozen BK189.out 0
             have hfz28_1 := blk_frozen BK189.out 1
             go_wp2_with (first | ((with_reducible refine gate_callee (f := 103) rfl ?_); refine goesL_ (some 51) rfl rfl Tryd.func103 (by kernel_rfl) rfl #[.agg #[.slice A0_0 l0_0.length c0_0, .slice A0_1 l0_1.length c0_1], .int .i64 x4_1, .int .i64 x5_3, .int .i64 (wrap64 (x5_3 + 1))] rfl (by (try simp only [List.map_toArray, List.map_cons, List.map_nil]); first | done | rfl | (simp only [List.length_drop, qw]; rfl)) ?_; (with_reducible refine (saltusref17_From.calls _ _ l0_0 _ _ l0_1 x4_1 x5_3 (wrap64 (x5_3 + 1)) t202 _ ?side1 ?side2 ?side3 ?side4 A25.out).mono ?_); (case side1 => repeat (first | exact (Kd.C_below HR0_0.out HB.out) | (with_reducible refine Kd.C_alloc ?_ _) | (with_reducible refine Kd.C_drewN ?_ _) | (with_reducible refine Kd.C_drew ?_))); (case side2 => exact HC0_0.out); (case side3 => repeat (first | exact (Kd.C_below HR0_1.out HB.out) | (with_reducible refine Kd.C_alloc ?_ _) | (with_reducible refine Kd.C_drewN ?_ _) | (with_reducible refine Kd.C_drew ?_))); (case side4 => exact HC0_1.out); rintro e w29 ⟨v203, rfl, ho0, hb⟩; refine ⟨_, rfl, ?_⟩; have n0_ := qf (Kd.R_elder' (by (with_reducible repeat (first | apply Kd.R_alloc | apply Kd.R_drewN | apply Kd.R_drew)); exact HO_3.out) (Kd.R_base ho0) hb); have n1_ := qf (Kd.R_lower (Kd.R_new' ho0 (Kd.R_lt (by (with_reducible repeat (first | apply Kd.R_alloc | apply Kd.R_drewN | apply Kd.R_drew)); exact HO_3.out))) (below_size (by repeat (first | (with_reducible first | exact HB.out | apply qa | apply qb | apply qc | refine qg ?_ GE189.out) | exact HB.out)))); have n2_ := qf (blk_below (g := gb189) (o := .cells #[.slice A0_0 l0_0.length c0_0, .slice A0_1 l0_1.length c0_1] 101 (0, 0)) (by (with_reducible repeat (first | refine blk_drewN ?_ _ | refine blk_drew ?_ | refine qh ?_ _)); exact BK189.out) hb); have n3_ := qf (below_step (by repeat (first | (with_reducible first | exact HB.out | apply qa | apply qb | apply qc | refine qg ?_ GE189.out) | exact HB.out)) hb); clear HO_3; clear BK189; clear HB; have HO_3 := n0_; have HO204 := n1_; have BK189 := n2_; have HB := n3_; clear n0_ n1_ n2_ n3_; (try clear hb); (try clear hb2); (try clear hk); (try clear hi); (try clear ho0); obtain ⟨Ao30, co30, eo30⟩ := Kd.R_slice HO204.out; subst eo30) | ((with_reducible refine gate_callee (f := 46) rfl ?_); refine goesL_ (some 52) rfl rfl Tryd.func46 (by kernel_rfl) rfl #[.int .i64 (wrap64 (x5_3 + 1)), .slice Ao30 t202.length co30] rfl (by (try simp only [List.map_toArray, List.map_cons, List.map_nil]); first | done | rfl | (simp only [List.length_drop, qw]; rfl)) ?_; (with_reducible refine (saltusref17_Text.calls (wrap64 (x5_3 + 1)) _ _ t202 t205 _ ?side1 ?side2 A26.out).mono ?_); (case side1 => repeat (first | exact (Kd.R_reads' HO204.out).2.2 | (with_reducible refine Kd.C_alloc ?_ _) | (with_reducible refine Kd.C_drewN ?_ _) | (with_reducible refine Kd.C_drew ?_))); (case side2 => exact (Kd.R_reads' HO204.out).2.1); rintro e w31 ⟨rfl, hb⟩; refine ⟨_, rfl, ?_⟩; have n0_ := qf (Kd.R_below (by (with_reducible repeat (first | apply Kd.R_alloc | apply Kd.R_drewN | apply Kd.R_drew)); exact HO_3.out) hb); have n1_ := qf (Kd.R_below (by (with_reducible repeat (first | apply Kd.R_alloc | apply Kd.R_drewN | apply Kd.R_drew)); exact HO204.out) hb); have n2_ := qf (blk_below (g := gb189) (o := .cells #[.slice A0_0 l0_0.length c0_0, .slice A0_1 l0_1.length c0_1] 101 (0, 0)) (by (with_reducible repeat (first | refine blk_drewN ?_ _ | refine blk_drew ?_ | refine qh ?_ _)); exact BK189.out) hb); have n3_ := qf (below_step (by repeat (first | (with_reducible first | exact HB.out | apply qa | apply qb | apply qc | refine qg ?_ GE189.out) | exact HB.out)) hb); clear HO_3; clear HO204; clear BK189; clear HB; have HO_3 := n0_; have HO204 := n1_; have BK189 := n2_; have HB := n3_; clear n0_ n1_ n2_ n3_; (try clear hb); (try clear hb2); (try clear hk); (try clear hi)) | ((with_reducible refine gate_builtin (b := .append) (xs := #[.tmp 43, .tmp 53]) rfl ?_); at_builtin; refine Kd.R_append Kd.string (w0 := w) w.heap.size rfl (.tmp 43) (.tmp 53) 49 9 (.string ⟨#[]⟩) 16 rfl Tryd.underlying49 info9 rfl (by decide) (by omega) u3 x3_3 t205 [.string t205] (fun k_ => some k_ ≠ (.slice Ao30 t202.length co30 : Value).ownBlock) (fun _ => False) rfl rfl ?aP (fun _ hk => hk.elim) ?aF ?aO ?aB ?aS ?aL ?_; (case aP => exact rfl); (case aB => exact (by repeat (first | (with_reducible first | exact HB.out | apply qa | apply qb | apply qc | refine qg ?_ GE189.out) | exact HB.out))); (case aF => exact (fun k_ hk => Kd.fresh' (Kd.R_lt (by (with_reducible repeat (first | apply Kd.R_alloc | apply Kd.R_drewN | apply Kd.R_drew)); exact HO204.out)) k_ hk)); (case aO => exact (by (with_reducible repeat (first | apply Kd.R_alloc | apply Kd.R_drewN | apply Kd.R_drew)); exact Kd.R_mono HO_3.out (fun _ hk => hk.2))); (case aS => exact (below_size (by repeat (first | (with_reducible first | exact HB.out | apply qa | apply qb | apply qc | refine qg ?_ GE189.out) | exact HB.out)))); (case aL => have := LMc27.out; omega); intro v207 w32 ho hb hg hat; rw [← Ny206.out] at ho; have n0_ := qf (blk_grown (g := gb189) (o := .cells #[.slice A0_0 l0_0.length c0_0, .slice A0_1 l0_1.length c0_1] 101 (0, 0)) (by (with_reducible repeat (first | refine blk_drewN ?_ _ | refine blk_drew ?_ | refine qh ?_ _)); exact BK189.out) hg (Kd.R_ne HO_3.out BK189.out (by decide))); have n1_ := qf (Kd.R_after (ok := (fun _ => True)) (by (with_reducible repeat (first | apply Kd.R_alloc | apply Kd.R_drewN | apply Kd.R_drew)); exact HO204.out) hg hat); have n2_ := qf (hb); have n3_ := qf (ho); clear BK189; clear HO204; clear HB; clear HO_3; have BK189 := n0_; have HO204 := n1_; have HB := n2_; have HO208 := n3_; clear n0_ n1_ n2_ n3_; clear ho hb hg hat))
             go_roundg kj18
             case measure => have := HK1.out; have := HJ8.out; have := HK3.out; have := HJ18.out; omega
             case rel => exact ⟨(y206), (wrap64 (x5_3 + 1)), (by first | rfl | (simp; done) | (simp [*]; done)), H', ⟨by have := HK1.out; have := HJ8.out; have := HK3.out; have := HJ18.out; omega⟩, ⟨by (with_reducible repeat (first | apply Kd.R_alloc | apply Kd.R_drewN | apply Kd.R_drew)); exact Kd.R_mono HO208.out (fun _ hk => trivial)⟩, ⟨by (with_reducible repeat (first | refine blk_drewN ?_ _ | refine blk_drew ?_ | refine qh ?_ _)); exact BK189.out⟩, ⟨by repeat (first | (with_reducible first | exact HB.out | apply qa | apply qb | apply qc | refine qg ?_ GE189.out) | exact HB.out)⟩⟩
            ·rw [if_neg c27] at H
             exact absurd H (by simp)
           ·replace c24 := Bool.eq_false_iff.mpr c24
            subst c24
            have H1 : (saltusref18_All.l1 kj18 x3_3 x4_1 (wrap64 (x5_3 + 1)) l0_0 l0_1) = some r := by rw [if_neg (show ¬ (false = true) by decide)] at H; exact H
            clear H
            have H := H1
            clear H1
            have H' := qf H
            clear H
            go_wp2
            go_roundg kj18
            case measure => have := HK1.out; have := HJ8.out; have := HK3.out; have := HJ18.out; omega
            case rel => exact ⟨(x3_3), (wrap64 (x5_3 + 1)), (by first | rfl | (simp; done) | (simp [*]; done)), H', ⟨by have := HK1.out; have := HJ8.out; have := HK3.out; have := HJ18.out; omega⟩, ⟨by (with_reducible repeat (first | apply Kd.R_alloc | apply Kd.R_drewN | apply Kd.R_drew)); exact HO_3.out⟩, ⟨by (with_reducible repeat (first | refine blk_drewN ?_ _ | refine blk_drew ?_ | refine qh ?_ _)); exact BK189.out⟩, ⟨by repeat (first | (with_reducible first | exact HB.out | apply qa | apply qb | apply qc | refine qg ?_ GE189.out) | exact HB.out)⟩⟩
        ·rw [if_neg c18] at H
         have c18b0 : decide (x5_3 < 8) = false := decide_eq_false c18
         clear c18
         have H' := qf H
         clear H
         go_wp2
         go_roundg k3
         case measure => have := HK1.out; have := HJ8.out; have := HK3.out; omega
         case rel => exact ⟨(x3_3), (wrap64 (x4_1 + 1)), (by first | rfl | (simp; done) | (simp [*]; done)), H', ⟨by have := HK1.out; have := HJ8.out; have := HK3.out; omega⟩, ⟨by (with_reducible repeat (first | apply Kd.R_alloc | apply Kd.R_drewN | apply Kd.R_drew)); exact HO_3.out⟩, ⟨by (with_reducible repeat (first | refine blk_drewN ?_ _ | refine blk_drew ?_ | refine qh ?_ _)); exact BK189.out⟩, ⟨by repeat (first | (with_reducible first | exact HB.out | apply qa | apply qb | apply qc | refine qg ?_ GE189.out) | exact HB.out)⟩⟩
   ·rw [if_neg c8] at H
    have c8b0 : decide (x4_1 < (l0_0.length : Int)) = false := decide_eq_false c8
    clear c8
    obtain rfl := Option.some.inj H
    have hcz33_0 : wr.cell? ⟨gb189, 0, none⟩ = some (.slice A0_0 l0_0.length c0_0) := (blk_cell BK189.out 0).trans rfl
    have hcz33_1 : wr.cell? ⟨gb189, 1, none⟩ = some (.slice A0_1 l0_1.length c0_1) := (blk_cell BK189.out 1).trans rfl
    have hfz33_0 := blk_frozen BK189.out 0
    have hfz33_1 := blk_frozen BK189.out 1
    go_wp2
    go_ret
    exact ⟨_, by first | rfl | (simp [errW_none, errW_some] <;> rfl) | (simp [*, errW_none, errW_some] <;> rfl), by (with_reducible repeat (first | apply Kd.R_alloc | apply Kd.R_drewN | apply Kd.R_drew)); exact HO_3.out, by repeat (first | (with_reducible first | exact HB.out | apply qa | apply qb | apply qc | refine qg ?_ GE189.out) | exact HB.out)⟩
end Go.Proofs.YtolbhliepkcihaaDoor.QPA
end
section
namespace Go.Proofs.YtolbhliepkcihaaDoor.ProofPure
open Go.RowKit QPA YtolbhliepkcihaaDoorW.PrintWords Kinds Build Lab Sha Mac Codec Tower SkipOps SkipPure
abbrev Rows := List (List ByteArray)
def stepN (x : S46) (b a : Rows) : Nat → ByteArray
 | 0 => itemT x
 | j + 1 => joinT (j + 1) (b.getD j [] ++ [sumS (stepN x b a j)] ++ a.getD j [])
def stepsL (x : S46) (b a : Rows) : List ByteArray := (List.range 9).map (stepN x b a)
def okRows (b : Rows) : Prop := b.length = 8 ∧ ∀ j, j < 8 → (b.getD j []).length ≤ 64 ∧ ∀ s, s ∈ b.getD j [] → s.size = 32
theorem odd_false {s : ByteArray} (h : odd s = false) : s.size = 32 := by
 unfold odd at h
 simp at h
 omega
theorem okRows_of {b : Rows} (hl : b.length = 8) (h : oddRs b = false) : okRows b := by
 refine ⟨hl, fun j hj => ?_⟩
 have hlt : j < b.length := by omega
 have e : b.getD j [] = b[j] := by rw [List.getD_eq_getElem?_getD, List.getElem?_eq_getElem hlt]; rfl
 have ho : oddR b[j] = false := by
  cases hb : oddR b[j] with
  | false => rfl
  | true => rw [oddRs_take b j hlt hb] at h; cases h
 rw [e]
 unfold oddR at ho
 rw [Bool.or_eq_false_iff] at ho
 refine ⟨by have := of_decide_eq_false ho.1; omega, fun s hs => odd_false ?_⟩
 cases hb : odd s with
 | false => rfl
 | true =>
  have := ho.2
  unfold odds at this
  rw [List.any_eq_true.2 ⟨s, hs, hb⟩] at this
  cases this
theorem okRows_cat {b : Rows} (h : okRows b) (j : Nat) (hj : j < 8) : (catS (b.getD j [])).size ≤ 2048 := by
 obtain ⟨h1, h2⟩ := h.2 j hj
 rw [cat32 _ h2]
 omega
theorem stepN_size (x : S46) (b a : Rows) (hx : x.f1.size ≤ 64) (hb : okRows b) (ha : okRows a) (j : Nat) (hj : j ≤ 8) : (stepN x b a j).size ≤ 5000 := by
 cases j with
 | zero => show (itemT x).size ≤ 5000; rw [itemT_size]; omega
 | succ j =>
  have h1 := okRows_cat hb j (by omega)
  have h2 := okRows_cat ha j (by omega)
  show (joinT (j + 1) _).size ≤ 5000
  rw [joinT_size, cat_app, cat_app, cat_one, ByteArray.size_append, ByteArray.size_append, sumS_size]
  omega
theorem rd_rows (b : Rows) (j : Nat) : rd_L1 b (j : Int) = b.getD j [] := by unfold rd_L1; rw [Int.toNat_natCast]
theorem steps_rd (x : S46) (b a : Rows) (j n : Nat) (h : j < n) : rdOf ByteArray.empty ((List.range n).map (stepN x b a)) (j : Int) = stepN x b a j := by
 unfold rdOf
 rw [Int.toNat_natCast, List.getD_eq_getElem?_getD, List.getElem?_map, List.getElem?_range h]
 rfl
theorem range_next (x : S46) (b a : Rows) (n : Nat) : (List.range n).map (stepN x b a) ++ [stepN x b a n] = (List.range (n + 1)).map (stepN x b a) := by
 rw [List.range_succ, List.map_append]
 rfl
theorem step_text (x : S46) (b a : Rows) (j : Nat) : ((((⟨#[2]⟩ : ByteArray) ++ numS (j + 1)) ++ catS (b.getD j [])) ++ sumS (stepN x b a j)) ++ catS (a.getD j []) = stepN x b a (j + 1) := by
 show _ = ofNats [2] ++ numS (j + 1) ++ catS (b.getD j [] ++ [sumS (stepN x b a j)] ++ a.getD j [])
 rw [cat_app, cat_app, cat_one]
 simp only [ByteArray.append_assoc]
 rfl
theorem steps_l0 (x : S46) (b a : Rows) (hx : x.f1.size ≤ 64) (hb : okRows b) (ha : okRows a) (d : Nat) : ∀ j, j + d = 8 → Ev (fun k => proof_Steps.l0 k ((List.range (j + 1)).map (stepN x b a)) (j : Int) b a) (stepsL x b a, 0) := by
 induction d with
 | zero =>
  intro j hj
  obtain rfl : j = 8 := by omega
  refine Ev.step (fun k => ?_) (Ev.now _)
  rw [proof_Steps.l0, if_neg (by decide)]
  rfl
 | succ d ih =>
  intro j hj
  have h := ih (j + 1) (by omega)
  have hlen : ((List.range (j + 1)).map (stepN x b a)).length = j + 1 := by simp
  have z1 := stepN_size x b a hx hb ha j (by omega)
  have z2 := okRows_cat hb j (by omega)
  have z3 := okRows_cat ha j (by omega)
  have l1 := (hb.2 j (by omega)).1
  have l2 := (ha.2 j (by omega)).1
  have e1 : sha_Sum.f (stepN x b a j) = some (sumS (stepN x b a j)) := if_pos (by show _ ≤ 1099511627776; omega)
  have ew : IntKind.u64.wrap (IntKind.u64.wrap (j : Int) + 1) = ((j + 1 : Nat) : Int) := by rw [wrap_nat j (by omega), show ((j : Int) + 1) = ((j + 1 : Nat) : Int) from by omega, wrap_nat (j + 1) (by omega)]
  have e2 : codec_Number.f ((j + 1 : Nat) : Int) = some (numS (j + 1)) := by unfold codec_Number.f; rw [if_pos ⟨by omega, by omega⟩, Int.toNat_natCast]
  have e3 : strings_Join.f (b.getD j []) (⟨#[]⟩ : ByteArray) = some (catS (b.getD j [])) := if_pos ⟨by omega, by omega, rfl⟩
  have e4 : strings_Join.f (a.getD j []) (⟨#[]⟩ : ByteArray) = some (catS (a.getD j [])) := if_pos ⟨by omega, by omega, rfl⟩
  have zn : (numS (j + 1)).size = 8 := numS_size _
  have z0 : (⟨#[2]⟩ : ByteArray).size = 1 := rfl
  have zs : (sumS (stepN x b a j)).size = 32 := sumS_size _
  refine Ev.step (fun k => ?_) h
  have hbl := hb.1
  have hal := ha.1
  rw [proof_Steps.l0, if_pos (by omega), if_pos (by omega), if_pos (by rw [hlen]; omega), steps_rd x b a j (j + 1) (by omega), e1, qv, ew, e2, qv, if_pos (by omega), if_pos (by omega), rd_rows, e3, qv,
   if_pos (by rw [ByteArray.size_append]; omega), if_pos (by rw [ByteArray.size_append, ByteArray.size_append]; omega), if_pos (by omega), rd_rows, e4, qv, if_pos (by rw [ByteArray.size_append, ByteArray.size_append, ByteArray.size_append]; omega), if_pos (by rw [hlen]; omega), step_text, range_next]
  rw [show wrap64 ((j : Int) + 1) = ((j + 1 : Nat) : Int) from SkipPure.w_succ j 8 (by omega) (by omega)]
theorem join_two (x : S46) (h0 : 0 ≤ x.f0) (h1 : x.f0 < 18446744073709551616) (hs : x.f1.size ≤ 4096) : codec_Join.f [(⟨false, x.f0, ⟨#[]⟩⟩ : S115), ⟨true, 0, x.f1⟩] = some (numS x.f0.toNat ++ textS x.f1, 0) := by
 have hk : okB [(⟨false, x.f0, ⟨#[]⟩⟩ : S115), ⟨true, 0, x.f1⟩] = true := by
  unfold okB
  simp only [List.all_cons, List.all_nil, Bool.and_true, Bool.and_eq_true, decide_eq_true_eq]
  exact ⟨⟨⟨by decide, h0⟩, h1⟩, ⟨hs, by decide⟩, by decide⟩
 have e2 : catS [numS x.f0.toNat, textS x.f1] = numS x.f0.toNat ++ textS x.f1 := by
  show numS x.f0.toNat ++ catS [textS x.f1] = _
  rw [cat_one]
 unfold codec_Join.f
 rw [if_pos ⟨show 2 ≤ 1000000 by decide, hk⟩, ← e2]
 rfl
theorem may_ok {v : ByteArray} {b a : Rows} (h : mayN v b a = 0) : v.size ≤ 64 ∧ okRows b ∧ okRows a := by
 unfold mayN at h
 split at h
 ·cases h
 ·rename_i g
  split at h
  ·cases h
  ·rename_i g2
   have hb : b.length = 8 := Decidable.byContradiction fun c => g2 (.inl c)
   have ha : a.length = 8 := Decidable.byContradiction fun c => g2 (.inr (.inl c))
   have ob : oddRs b = false := by
    cases h : oddRs b
    ·rfl
    ·exact absurd (.inr (.inr (.inl h))) g2
   have oa : oddRs a = false := by
    cases h : oddRs a
    ·rfl
    ·exact absurd (.inr (.inr (.inr h))) g2
   exact ⟨by omega, okRows_of hb ob, okRows_of ha oa⟩
def stepsR (x : S46) (b a : Rows) : List ByteArray × Int := if mayN x.f1 b a = 0 then (stepsL x b a, 0) else ([], mayN x.f1 b a)
theorem steps_ev (x : S46) (b a : Rows) (h0 : 0 ≤ x.f0) (h1 : x.f0 < 18446744073709551616) (hb : b.length ≤ 1000000) (ha : a.length ≤ 1000000) : Ev (fun k => proof_Steps.f k x.f0 x.f1 b a) (stepsR x b a) := by
 have e1 : proof_may.f x.f0 x.f1 b a = some (mayN x.f1 b a) := if_pos ⟨hb, ha⟩
 unfold proof_Steps.f stepsR
 simp only [e1, qv]
 by_cases g : mayN x.f1 b a = 0
 rotate_left
 ·rw [if_neg g]
  simp only [if_neg g]
  exact Ev.now _
 rw [if_pos g]
 simp only [if_pos g]
 obtain ⟨q1, q2, q3⟩ := may_ok g
 have e2 := join_two x h0 h1 (by omega)
 have e3 : (⟨#[0]⟩ : ByteArray) ++ (numS x.f0.toNat ++ textS x.f1) = itemT x := by
  unfold itemT
  rw [ByteArray.append_assoc]
  rfl
 have zt : (numS x.f0.toNat ++ textS x.f1).size ≤ 100 := by rw [ByteArray.size_append, numS_size, textS_size]; omega
 refine Ev.congr (fun k => ?_) (steps_l0 x b a q1 q2 q3 8 0 rfl)
 rw [e2, qv]
 show (if 1 + (numS x.f0.toNat ++ textS x.f1).size ≤ _ then _ else _) = _
 rw [if_pos (by omega), e3]
 rfl
theorem check_ev (rt : ByteArray) (x : S46) (b a : Rows) (h0 : 0 ≤ x.f0) (h1 : x.f0 < 18446744073709551616) (hb : b.length ≤ 1000000) (ha : a.length ≤ 1000000) :
  Ev (fun k => proof_Check.f k rt x.f0 x.f1 b a) (if mayN x.f1 b a = 0 then ((sumS (stepN x b a 8)).toList == rt.toList, 0) else (false, mayN x.f1 b a)) := by
 unfold proof_Check.f
 refine Ev.bind (steps_ev x b a h0 h1 hb ha) ?_
 unfold stepsR
 by_cases g : mayN x.f1 b a = 0
 ·obtain ⟨q1, q2, q3⟩ := may_ok g
  have hl : (stepsL x b a).length = 9 := by unfold stepsL; simp
  have z1 := stepN_size x b a q1 q2 q3 8 (by omega)
  have e1 : sha_Sum.f (stepN x b a 8) = some (sumS (stepN x b a 8)) := if_pos (by show _ ≤ 1099511627776; omega)
  have ew : wrap64 (((stepsL x b a).length : Int) - 1) = ((8 : Nat) : Int) := by rw [hl]; first | rfl | (unfold wrap64; rfl) | (unfold wrap64; omega) | (unfold wrap64; simp)
  have er := steps_rd x b a 8 9 (by omega)
  rw [if_pos g, if_pos g]
  refine Ev.congr (fun k => ?_) (Ev.now _)
  show (if (0 : Int) = 0 then _ else _) = _
  rw [if_pos rfl]
  show (if 0 ≤ wrap64 (((stepsL x b a).length : Int) - 1) then _ else _) = _
  rw [ew, hl, if_pos (by decide), if_pos (by decide)]
  show (sha_Sum.f (rdOf ByteArray.empty (stepsL x b a) ((8 : Nat) : Int))).bind _ = _
  unfold stepsL
  rw [er, e1]
  rfl
 ·rw [if_neg g, if_neg g]
  refine Ev.congr (fun k => ?_) (Ev.now _)
  rw [if_neg g]
end Go.Proofs.YtolbhliepkcihaaDoor.ProofPure
end
