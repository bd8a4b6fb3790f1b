/- Joined by a program of this session (wip/pack.py) for this claim: Laid, ItemRow, QSFx0, QSFx2, SkipPlace, SkipDrop, SkipPut, SkipPut2, SkipPut3, QSFx1, QSFx3, QSFx4, QSFx5, SkipPure, SkipPure2, SkipPure3, QSQx0, QSQx3, QSQx1, QSQx2, SkipOps, SkipCon, SkipPuts. -/
import Derived.Test.YtolbhliepkcihaaDoorRows
import Derived.Test.YtolbhliepkcihaaDoorBaseH
import Derived.ProofKit
import Derived.LaidMore
import Derived.OpenShut
import Derived.Stop.Joined
import Derived.Deep.Slices
import Derived.ChangeSame
import Derived.Test.YtolbhliepkcihaaDoorProg
import Derived.Below
import Derived.Deep.Draws
import Derived.Deep.AppendLies
import Derived.Maps.AppendAt
import Derived.OwnWalk
import Derived.Laws.BytesArg
import Derived.Laws.MakeOwn
import Derived.Laws.OwnMore
import Derived.Deep.OwnRows
import Derived.Tactics
import Derived.Lib.ConvBytes
import Derived.Laws.Slices
import Derived.WalkKit
import Derived.KernelRfl
import Derived.RowKit3
import Derived.Deep.LoopGhost
import Derived.Deep.QuietTactic
import Derived.BigQuiet
import Derived.WideLaws
import Derived.Deep.DeepCutAuto
import Derived.Deep.CutBlock
import Derived.Deep.RegionHeld3
import Derived.Laws.Rows
import Derived.Lib.AppendStr
import Derived.ArgAppend
import Derived.Laws.IdiomCopy
import Derived.OrdersHeld
import Derived.Laws.BitsLemmas
import Derived.RowKit
import Derived.Test.YtolbhliepkcihaaDoorPWa
import Derived.Deep.RegionLawGrows
import Derived.Deep.Upon
import Derived.DataElems
section
namespace Go.Proofs.YtolbhliepkcihaaDoor
open Go.ChangeShapes Go.WideShapes Go.ChangeAt Go.RowKit
def laidL : List (String × DataW Unit) := [("math/bits.deBruijn64tab", Rows.laid_math_bits_deBruijn64tab)]
theorem gTab : Tryd.prog.globalNamed "math/bits.deBruijn64tab" = some 0 := by kernel_rfl
theorem tTab : (Tryd.prog.globals[0]?).map (·.type) = some 125 := by kernel_rfl
theorem door_met (os : Os) (args : Array Value) : laidMetH Tryd.prog laidL ((World.doorLaid Tryd.prog 14 os).forCall (fun _ _ => 0) ⟨#[], args, []⟩).memory :=
 laidMetH_of_parts3 (fuel := 8) (laidMet_of_run' 8 (by kernel_rfl) (by kernel_rfl)) (by kernel_rfl) (by kernel_rfl)
theorem tab_datum : (Rows.laid_math_bits_deBruijn64tab : DataW Unit) = .agg (Lib.deBruijn64tab.map fun n : Nat => .lit (.int .u8 (n : Int))) := rfl
theorem of_laid {W : World} (h : laidMetH Tryd.prog laidL W) : Tower.TabW W := by
 rw [MakeChecks.laidMetH_plain _ _ _ (by kernel_rfl)] at h
 obtain ⟨ps, ⟨g0, t0, cs0, f0, p0, q0, hg0, ht0, hv0, hd0, _, _⟩, _, _⟩ := h
 obtain rfl := Option.some.inj (gTab.symm.trans hg0)
 obtain rfl := Option.some.inj (tTab.symm.trans ht0)
 obtain ⟨xs, m1, rfl, hx1, hlen, hn3, hel⟩ := DataW.trod_array Tryd.underlying125 hd0
 simp only [Prod.mk.injEq] at hx1
 have c5 : Tryd.prog.cellsOf 5 = 1 := by kernel_rfl
 have hl := hx1.1
 rw [tab_datum] at hl
 injection hl with hl
 intro j hj
 have hxj : xs[j]? = some (xs[j]'(by omega)) := List.getElem?_eq_getElem (by omega)
 have h1 := congrArg (·[j]?) hl
 simp only [List.getElem?_map, hxj, Option.map_some] at h1
 have ht : Lib.deBruijn64tab[j]? = some (Lib.deBruijn64tab.getD j 0) := by
  have hz : Lib.deBruijn64tab.length = 64 := rfl
  rw [List.getD_eq_getElem?_getD, List.getElem?_eq_getElem (by omega)]
  rfl
 rw [ht, Option.map_some] at h1
 generalize Lib.deBruijn64tab.getD j 0 = tv at *
 clear ht hl hlen
 have h2 := Option.some.inj h1
 obtain ⟨k, e1, e2, _⟩ := DataW.trod_int Tryd.underlying5 ((hel j hj).trans hxj)
 rw [e2] at h2
 have h2 : (tv : Int) = k := by
  clear hx1 hd0 hel h1 hxj e1
  simpa using h2
 subst h2
 rw [c5, Nat.mul_one] at e1
 have h3 := World.var?_cell hg0 hv0 j
 rw [h3]
 have h4 : (List.take 1 (List.drop j cs0.toList))[0]? = some (Value.int .u8 (tv : Int)) := by rw [e1]; rfl
 rw [List.getElem?_take, if_pos (by decide), List.getElem?_drop] at h4
 simpa using h4
end Go.Proofs.YtolbhliepkcihaaDoor
end
section
namespace Go.Proofs.YtolbhliepkcihaaDoor
open Go.ChangeShapes Go.WideShapes Go.Deep Go.RowKit Go.Proofs.YtolbhliepkcihaaDoor.Kinds Go.Proofs.YtolbhliepkcihaaDoorW.PrintWords
theorem u64_wf {n : Int} (h : (Lit.int .u64 n).wf = true) : 0 ≤ n ∧ n ≤ 18446744073709551615 := by simpa [Lit.wf, IntKind.min, IntKind.max, IntKind.signed, IntKind.bits] using h
theorem row_items {H : Type} {enc : TypeId × Value → H} {W : World} {base : Nat} {spare : Nat → Bool} {held : Bool} {fuel : Nat} {A : Option Addr} {len cap : Nat} {x : DataW H × List MemPlace}
  (h : DataW.trod enc Tryd.prog W base spare held fuel 36 (Value.cells (.slice A len cap)).toList = some x) :
  ∃ l : List S46, l.length = len ∧ len ≤ cap ∧ Kd.C k46 W A l.length l ∧ ∀ y, y ∈ l → 0 ≤ y.f0 ∧ y.f0 ≤ 18446744073709551615 ∧ y.f1.size ≤ 9223372036854775807 := by
 rcases open_slice Tryd.underlying36 h with ⟨hcs, _⟩ | ⟨a, len', cap', m, n, D, Pl, hcs, _, hl, hm, hmm, _, hi⟩
 ·simp [Value.cells] at hcs
  obtain ⟨rfl, rfl, rfl⟩ := hcs
  exact ⟨[], rfl, Nat.le_refl _, Kd.C_nil _ _, fun y hy => by cases hy⟩
 ·simp [Value.cells] at hcs
  obtain ⟨rfl, rfl, rfl⟩ := hcs
  have c2 : Tryd.prog.cellsOf 46 = 2 := by kernel_rfl
  have cu : Tryd.prog.cellsOf 22 = 1 := by kernel_rfl
  have cs1 : Tryd.prog.cellsOf 9 = 1 := by kernel_rfl
  have hlm : len ≤ m := by
   rw [hmm]
   split
   ·exact hl
   ·exact Nat.le_refl _
  have each : ∀ i, i < len → ∃ y : S46, (W.cell? (a.add (i * 2)) = some (.int .u64 y.f0) ∧ W.cell? (a.add (i * 2 + 1)) = some (.string y.f1)) ∧ (0 ≤ y.f0 ∧ y.f0 ≤ 18446744073709551615 ∧ y.f1.size ≤ 9223372036854775807) := by
   intro i hil
   obtain ⟨cs', hc, ht⟩ := hi i (by omega)
   rw [c2] at hc
   obtain ⟨_, hcl, hat⟩ := World.cells?_some hc
   obtain ⟨xs, n', _, _, _, hlen, hf⟩ := DataW.trod_struct Tryd.underlying46 ht
   have h0 := hf 0 _ rfl
   have h1 := hf 1 _ rfl
   have hx0 : xs[0]? = some (xs[0]'(by rw [hlen]; decide)) := List.getElem?_eq_getElem _
   have hx1 : xs[1]? = some (xs[1]'(by rw [hlen]; decide)) := List.getElem?_eq_getElem _
   obtain ⟨k, e0, _, wk⟩ := DataW.trod_int Tryd.underlying22 (h0.trans hx0)
   obtain ⟨s, e1, _, ws⟩ := DataW.trod_string Tryd.underlying9 (h1.trans hx1)
   have a0 := hat 0 (by decide)
   have a1 := hat 1 (by decide)
   replace e0 : List.take (Tryd.prog.cellsOf 22) (List.drop 0 cs') = [Value.int .u64 k] := e0
   replace e1 : List.take (Tryd.prog.cellsOf 9) (List.drop 1 cs') = [Value.string s] := e1
   rw [cu] at e0
   rw [cs1] at e1
   have g0 : cs'[0]? = some (Value.int .u64 k) := by
    have h := congrArg (·[0]?) e0
    simpa using h
   have g1 : cs'[1]? = some (Value.string s) := by
    have h := congrArg (·[0]?) e1
    simpa [List.getElem?_take, List.getElem?_drop] using h
   unfold maxLen at ws
   have ad : ∀ j, (a.add (i * 2)).add j = a.add (i * 2 + j) := fun j => Deep.add_add a (i * 2) j
   rw [g0, ad] at a0
   rw [g1, ad] at a1
   exact ⟨⟨k, s⟩, ⟨a0, a1⟩, (u64_wf wk).1, (u64_wf wk).2, ws⟩
  haveI : Inhabited S46 := ⟨z46⟩
  obtain ⟨X, hX⟩ := choose_lt (α := S46) (p := fun i y => (W.cell? (a.add (i * 2)) = some (.int .u64 y.f0) ∧ W.cell? (a.add (i * 2 + 1)) = some (.string y.f1)) ∧ (0 ≤ y.f0 ∧ y.f0 ≤ 18446744073709551615 ∧ y.f1.size ≤ 9223372036854775807)) each
  have hz : ((List.range len).map X).length = len := by simp
  unfold maxLen at hm
  refine ⟨(List.range len).map X, hz, hl, ?_, fun y hy => ?_⟩
  ·rw [hz]
   refine ⟨hz, by omega, fun _ => ⟨a, rfl, fun j p hj => ?_⟩⟩
   have hjl : j < len := by
    have := (List.getElem?_eq_some_iff.1 hj).1
    omega
   have hp : X j = p := by
    rw [List.getElem?_map, List.getElem?_range hjl] at hj
    simpa using hj
   subst hp
   refine ⟨[.int .u64 (X j).f0, .string (X j).f1], rfl, k46_mk W (X j), fun i u hu => ?_⟩
   match i, hu with
   | 0, hu =>
    have hu : Value.int .u64 (X j).f0 = u := by simpa using hu
    subst hu
    exact (hX j hjl).1.1
   | 1, hu =>
    have hu : Value.string (X j).f1 = u := by simpa using hu
    subst hu
    exact (hX j hjl).1.2
  ·obtain ⟨i, hi2, rfl⟩ := List.mem_map.1 hy
   exact (hX i (List.mem_range.1 hi2)).2
end Go.Proofs.YtolbhliepkcihaaDoor
end
section
namespace Go.Proofs.YtolbhliepkcihaaDoor.QSF
open Go.RowKit Go.Proofs.YtolbhliepkcihaaDoor.Kinds Go.Proofs.YtolbhliepkcihaaDoorW.PrintWords Go.Proofs.YtolbhliepkcihaaDoorW.PrintLast Go.Proofs.YtolbhliepkcihaaDoorW.PrintMore
attribute [local go_sem] max2_int min2_int max_two min_two max_three min_three max_four min_four   -- for this text's walks alone
set_option linter.unusedVariables false
set_option linter.unusedSimpArgs false
def errW : Option Int → Value
 | none => .nilIface
 | some c => .iface 0 (.int .i64 c)
theorem errW_none : errW none = .nilIface := rfl
theorem errW_some (c : Int) : errW (some c) = .iface 0 (.int .i64 c) := rfl
theorem info3 : (Tryd.prog.info? 3).map (fun i => (i.zero, i.size, i.bytes)) = some (some (.int .i64 0), 1, 8) := by kernel_rfl
theorem info46 : (Tryd.prog.info? 46).map (fun i => (i.zero, i.size, i.bytes)) = some (some (.agg #[(.int .u64 0), (.string ⟨#[]⟩)]), 2, 24) := by kernel_rfl
theorem info48 : (Tryd.prog.info? 48).map (fun i => (i.zero, i.size, i.bytes)) = some (some (.agg #[(.int .i64 0), (.int .i64 0)]), 2, 16) := by kernel_rfl
end Go.Proofs.YtolbhliepkcihaaDoor.QSF
end
section
namespace Go.Proofs.YtolbhliepkcihaaDoor.QSF
open Go.RowKit Go.Proofs.YtolbhliepkcihaaDoor.Kinds Go.Proofs.YtolbhliepkcihaaDoorW.PrintWords Go.Proofs.YtolbhliepkcihaaDoorW.PrintLast Go.Proofs.YtolbhliepkcihaaDoorW.PrintMore
attribute [local go_sem] max2_int min2_int max_two min_two max_three min_three max_four min_four   -- for this text's walks alone
set_option linter.unusedVariables false
set_option linter.unusedSimpArgs false
/-! ### skip_Right: function 38 -/
def skip_Right.l0 : Nat → List (S46) → List (S46) → Int → Int → Option (Bool)
 | 0, _, _, _, _ => none
 | k + 1, x0, x5, x6, x7 => if x7 < x6 then (if 0 ≤ x7 then (if x7 < (x5.length : Int) then (if (((rd_T46 x5 x7).f1).size : Int) > 64 then (some false) else (if x7 > 0 then (if 0 ≤ (wrap64 (x7 - 1)) then (if (wrap64 (x7 - 1)) < (x0.length : Int) then (if ((rd_T46 x0 (wrap64 (x7 - 1))).f0) ≥ ((rd_T46 x5 x7).f0) then (some false) else (skip_Right.l0 k x0 x5 x6 (wrap64 (x7 + 1)))) else (none)) else (none)) else (skip_Right.l0 k x0 x5 x6 (wrap64 (x7 + 1))))) else (none)) else (none)) else (some (decide ((x0.length : Int) ≤ 64)))
def skip_Right.f (k : Nat) (l0 : List (S46)) : Option (Bool) := skip_Right.l0 k l0 l0 (l0.length : Int) 0
theorem skip_Right.mono_l : ∀ k, (∀ y0 y1 y2 y3, LeO (skip_Right.l0 k y0 y1 y2 y3) (skip_Right.l0 (k + 1) y0 y1 y2 y3))
 | 0 => fun _ _ _ _ r h => by simp [skip_Right.l0] at h
 | k + 1 => by
  have ih0 := skip_Right.mono_l k
  ·intro y0 y1 y2 y3
   unfold skip_Right.l0
   repeat' first
   | (with_reducible exact ih0 _ _ _ _)
   | (with_reducible exact LeO.refl _)
   | (with_reducible exact LeO.none _)
   | (with_reducible refine LeO.ite ?_ ?_)
   | (with_reducible refine LeO.bind ?_ (fun _ => ?_))
   | exact ih0 _ _ _ _
   | exact LeO.none _
   | refine LeO.ite ?_ ?_
   | refine LeO.bind ?_ (fun _ => ?_)
theorem skip_Right.mono : ∀ a0 k, LeO (skip_Right.f k a0) (skip_Right.f (k + 1) a0) := by
 intro a0 k
 have ih0 := skip_Right.mono_l k
 unfold skip_Right.f
 repeat' first
   | (with_reducible exact ih0 _ _ _ _)
   | (with_reducible exact LeO.refl _)
   | (with_reducible exact LeO.none _)
   | (with_reducible refine LeO.ite ?_ ?_)
   | (with_reducible refine LeO.bind ?_ (fun _ => ?_))
   | exact ih0 _ _ _ _
   | exact LeO.none _
   | refine LeO.ite ?_ ?_
   | refine LeO.bind ?_ (fun _ => ?_)
set_option maxHeartbeats 8000000 in
set_option maxRecDepth 100000 in
theorem skip_Right.calls (k : Nat) (A0 : Option Addr) (c0 : Nat) (l0 : List (S46)) (r : Bool) (w : World) (hr0 : Kd.C k46 w A0 l0.length l0) (hc0 : l0.length ≤ c0) (h : skip_Right.f k l0 = some r) :
  Calls Tryd.prog 38 #[.slice A0 l0.length c0] w fun e w' => e = .returned (.bool r) ∧ Below w.heap.size w w' := by
 have hu46 := Tryd.underlying46
 have HR0 := Aside0.mk hr0
 have HC0 := Aside0.mk hc0
 clear hr0 hc0
 have HB := Aside0.mk (Below.refl w.heap.size w)
 have H : (skip_Right.l0 k l0 l0 (l0.length : Int) 0) = some r := h
 clear h
 have H' := Aside0.mk H
 clear H
 go_enter Tryd.func38, Tryd.ntmps38
 go_wp2
 repeat (go_quiet (fail); try go_wp2)
 go_loopg [7] k (fun kq v7 w' => ∃ (x7_1 : Int), v7 = .int .i64 x7_1 ∧ Aside0 (skip_Right.l0 kq l0 l0 (l0.length : Int) x7_1 = some r) ∧ Aside0 (kq ≤ k) ∧ Aside0 (Below w.heap.size w w'))
 case atStart => exact ⟨(0), (by first | rfl | (simp; done) | (simp [*]; done)), H', ⟨Nat.le_refl _⟩, ⟨by repeat (first | (with_reducible first | exact HB.out | apply below_alloc | apply pw_below_drewN | apply below_drew1) | exact HB.out)⟩⟩
 case round =>
  clear H'
  obtain ⟨x7_1, rfl, HA, HK1, HB⟩ := hrel
  cases gk with
  | zero => exact absurd HA.out (by simp [skip_Right.l0])
  | succ k1 =>
   have H := HA.out
   clear HA
   simp only [skip_Right.l0] at H
   by_cases c2 : x7_1 < (l0.length : Int)
   ·rw [if_pos c2] at H
    have c2b0 : decide (x7_1 < (l0.length : Int)) = true := decide_eq_true c2
    clear c2
    by_cases c3 : 0 ≤ x7_1
    ·rw [if_pos c3] at H
     have c3b0 : decide (0 ≤ x7_1) = true := decide_eq_true c3
     clear c3
     by_cases c4 : x7_1 < (l0.length : Int)
     ·rw [if_pos c4] at H
      have c4b0 : decide (x7_1 < (l0.length : Int)) = true := decide_eq_true c4
      clear c4
      by_cases c5 : (((rd_T46 l0 x7_1).f1).size : Int) > 64
      ·rw [if_pos c5] at H
       have c5b0 : decide (64 < (((rd_T46 l0 x7_1).f1).size : Int)) = true := decide_eq_true c5
       have c5b1 : decide (64 < ((rd_T46 l0 x7_1).f1).size) = true := decide_eq_true (by omega)
       clear c5
       obtain rfl := Option.some.inj H
       have p101 : 0 ≤ (x7_1 : Int) := of_decide_eq_true (by first | (with_reducible assumption) | assumption)
       have q101 : x7_1 < (l0.length : Int) := of_decide_eq_true (by first | (with_reducible assumption) | assumption)
       obtain ⟨ad101, e101, hx101_0, hx101_1⟩ := at_T46 HR0.out x7_1 p101 q101
       cases e101
       replace hx101_0 := (HB.out.cell (World.block_lt_of_cell? w _ hx101_0)).trans hx101_0
       replace hx101_1 := (HB.out.cell (World.block_lt_of_cell? w _ hx101_1)).trans hx101_1
       replace p101 := eq_true p101
       replace q101 := eq_true q101
       go_wp2_with (first | ((with_reducible refine gate_dst (N := 4) rfl ?_); refine box_event ?hg (N := 4) ?hd (cs := #[.int .u64 0, .string (⟨#[]⟩ : ByteArray)]) (t := 46) ?hr ?_; (case hd => rfl); (case hg => rfl); (case hr => first | (go_simp; done) | (go_simp; rfl)); intro gb102 hg w6 hbox hb; have n0_ := Aside0.mk (below_step (by repeat (first | (with_reducible first | exact HB.out | apply below_alloc | apply pw_below_drewN | apply below_drew1) | exact HB.out)) hb); have n1_ := Aside0.mk (hbox); have n2_ := Aside0.mk ((by rw [hg]; exact (below_size (by repeat (first | (with_reducible first | exact HB.out | apply below_alloc | apply pw_below_drewN | apply below_drew1) | exact HB.out))) : w.heap.size ≤ gb102)); have n3_ := Aside0.mk ((by rw [hg]; exact (below_size (by repeat (first | (with_reducible first | exact HB.out | apply below_alloc | apply pw_below_drewN | apply below_drew1) | exact HB.out))) : w.heap.size ≤ gb102)); clear HB; have HB := n0_; have BK102 := n1_; have GW102 := n2_; have GE102 := n3_; clear n0_ n1_ n2_ n3_; clear hb hbox hg; have hcz7_0 : w6.cell? ⟨gb102, 0, none⟩ = some (.int .u64 0) := (blk_cell BK102.out 0).trans rfl; have hcz7_1 : w6.cell? ⟨gb102, 1, none⟩ = some (.string (⟨#[]⟩ : ByteArray)) := (blk_cell BK102.out 1).trans rfl; have hfz7_0 := blk_frozen BK102.out 0; have hfz7_1 := blk_frozen BK102.out 1))
       repeat (go_quiet (first | ((with_reducible refine gate_dst (N := 4) rfl ?_); refine box_event ?hg (N := 4) ?hd (cs := #[.int .u64 0, .string (⟨#[]⟩ : ByteArray)]) (t := 46) ?hr ?_; (case hd => rfl); (case hg => rfl); (case hr => first | (go_simp; done) | (go_simp; rfl)); intro gb102 hg w6 hbox hb; have n0_ := Aside0.mk (below_step (by repeat (first | (with_reducible first | exact HB.out | apply below_alloc | apply pw_below_drewN | apply below_drew1) | exact HB.out)) hb); have n1_ := Aside0.mk (hbox); have n2_ := Aside0.mk ((by rw [hg]; exact (below_size (by repeat (first | (with_reducible first | exact HB.out | apply below_alloc | apply pw_below_drewN | apply below_drew1) | exact HB.out))) : w.heap.size ≤ gb102)); have n3_ := Aside0.mk ((by rw [hg]; exact (below_size (by repeat (first | (with_reducible first | exact HB.out | apply below_alloc | apply pw_below_drewN | apply below_drew1) | exact HB.out))) : w.heap.size ≤ gb102)); clear HB; have HB := n0_; have BK102 := n1_; have GW102 := n2_; have GE102 := n3_; clear n0_ n1_ n2_ n3_; clear hb hbox hg; have hcz7_0 : w6.cell? ⟨gb102, 0, none⟩ = some (.int .u64 0) := (blk_cell BK102.out 0).trans rfl; have hcz7_1 : w6.cell? ⟨gb102, 1, none⟩ = some (.string (⟨#[]⟩ : ByteArray)) := (blk_cell BK102.out 1).trans rfl; have hfz7_0 := blk_frozen BK102.out 0; have hfz7_1 := blk_frozen BK102.out 1)); try go_wp2_with (first | ((with_reducible refine gate_dst (N := 4) rfl ?_); refine box_event ?hg (N := 4) ?hd (cs := #[.int .u64 0, .string (⟨#[]⟩ : ByteArray)]) (t := 46) ?hr ?_; (case hd => rfl); (case hg => rfl); (case hr => first | (go_simp; done) | (go_simp; rfl)); intro gb102 hg w6 hbox hb; have n0_ := Aside0.mk (below_step (by repeat (first | (with_reducible first | exact HB.out | apply below_alloc | apply pw_below_drewN | apply below_drew1) | exact HB.out)) hb); have n1_ := Aside0.mk (hbox); have n2_ := Aside0.mk ((by rw [hg]; exact (below_size (by repeat (first | (with_reducible first | exact HB.out | apply below_alloc | apply pw_below_drewN | apply below_drew1) | exact HB.out))) : w.heap.size ≤ gb102)); have n3_ := Aside0.mk ((by rw [hg]; exact (below_size (by repeat (first | (with_reducible first | exact HB.out | apply below_alloc | apply pw_below_drewN | apply below_drew1) | exact HB.out))) : w.heap.size ≤ gb102)); clear HB; have HB := n0_; have BK102 := n1_; have GW102 := n2_; have GE102 := n3_; clear n0_ n1_ n2_ n3_; clear hb hbox hg; have hcz7_0 : w6.cell? ⟨gb102, 0, none⟩ = some (.int .u64 0) := (blk_cell BK102.out 0).trans rfl; have hcz7_1 : w6.cell? ⟨gb102, 1, none⟩ = some (.string (⟨#[]⟩ : ByteArray)) := (blk_cell BK102.out 1).trans rfl; have hfz7_0 := blk_frozen BK102.out 0; have hfz7_1 := blk_frozen BK102.out 1)))
       go_ret
       exact ⟨by first | rfl | (simp [errW_none, errW_some] <;> rfl) | (simp [*, errW_none, errW_some] <;> rfl), by repeat (first | (with_reducible first | exact HB.out | apply below_alloc | apply pw_below_drewN | apply below_drew1 | refine below_set ?_ GE102.out) | exact HB.out)⟩
      ·rw [if_neg c5] at H
       have c5b0 : decide (64 < (((rd_T46 l0 x7_1).f1).size : Int)) = false := decide_eq_false c5
       have c5b1 : decide (64 < ((rd_T46 l0 x7_1).f1).size) = false := decide_eq_false (by omega)
       clear c5
       by_cases c8 : x7_1 > 0
       ·rw [if_pos c8] at H
        have c8b0 : decide (0 < x7_1) = true := decide_eq_true c8
        clear c8
        obtain ⟨ji9, hji9⟩ : ∃ j_ : Int, (wrap64 (x7_1 - 1)) = j_ := ⟨_, rfl⟩
        replace H : (if 0 ≤ (ji9) then (if (ji9) < (l0.length : Int) then (if ((rd_T46 l0 (ji9)).f0) ≥ ((rd_T46 l0 x7_1).f0) then (some false) else (skip_Right.l0 k1 l0 l0 (l0.length : Int) (wrap64 (x7_1 + 1)))) else (none)) else (none)) = some r := by first | (rw [hji9] at H; exact H) | (simp only [hji9] at H ⊢; exact H)
        have hji9w : (IntKind.i64.wrap (x7_1 - 1)) = ji9 := (i64_w _).trans hji9
        by_cases c10 : 0 ≤ (ji9)
        ·rw [if_pos c10] at H
         have c10b0 : decide (0 ≤ (ji9)) = true := decide_eq_true c10
         clear c10
         by_cases c11 : (ji9) < (l0.length : Int)
         ·rw [if_pos c11] at H
          have c11b0 : decide ((ji9) < (l0.length : Int)) = true := decide_eq_true c11
          clear c11
          by_cases c12 : ((rd_T46 l0 (ji9)).f0) ≥ ((rd_T46 l0 x7_1).f0)
          ·rw [if_pos c12] at H
           have c12b0 : decide (((rd_T46 l0 x7_1).f0) ≤ ((rd_T46 l0 (ji9)).f0)) = true := decide_eq_true c12
           clear c12
           obtain rfl := Option.some.inj H
           have p101 : 0 ≤ (x7_1 : Int) := of_decide_eq_true (by first | (with_reducible assumption) | assumption)
           have q101 : x7_1 < (l0.length : Int) := of_decide_eq_true (by first | (with_reducible assumption) | assumption)
           obtain ⟨ad101, e101, hx101_0, hx101_1⟩ := at_T46 HR0.out x7_1 p101 q101
           cases e101
           replace hx101_0 := (HB.out.cell (World.block_lt_of_cell? w _ hx101_0)).trans hx101_0
           replace hx101_1 := (HB.out.cell (World.block_lt_of_cell? w _ hx101_1)).trans hx101_1
           replace p101 := eq_true p101
           replace q101 := eq_true q101
           go_wp2_with (first | ((with_reducible refine gate_dst (N := 4) rfl ?_); refine box_event ?hg (N := 4) ?hd (cs := #[.int .u64 0, .string (⟨#[]⟩ : ByteArray)]) (t := 46) ?hr ?_; (case hd => rfl); (case hg => rfl); (case hr => first | (go_simp; done) | (go_simp; rfl)); intro gb102 hg w13 hbox hb; have n0_ := Aside0.mk (below_step (by repeat (first | (with_reducible first | exact HB.out | apply below_alloc | apply pw_below_drewN | apply below_drew1) | exact HB.out)) hb); have n1_ := Aside0.mk (hbox); have n2_ := Aside0.mk ((by rw [hg]; exact (below_size (by repeat (first | (with_reducible first | exact HB.out | apply below_alloc | apply pw_below_drewN | apply below_drew1) | exact HB.out))) : w.heap.size ≤ gb102)); have n3_ := Aside0.mk ((by rw [hg]; exact (below_size (by repeat (first | (with_reducible first | exact HB.out | apply below_alloc | apply pw_below_drewN | apply below_drew1) | exact HB.out))) : w.heap.size ≤ gb102)); clear HB; have HB := n0_; have BK102 := n1_; have GW102 := n2_; have GE102 := n3_; clear n0_ n1_ n2_ n3_; clear hb hbox hg; have hcz14_0 : w13.cell? ⟨gb102, 0, none⟩ = some (.int .u64 0) := (blk_cell BK102.out 0).trans rfl; have hcz14_1 : w13.cell? ⟨gb102, 1, none⟩ = some (.string (⟨#[]⟩ : ByteArray)) := (blk_cell BK102.out 1).trans rfl; have hfz14_0 := blk_frozen BK102.out 0; have hfz14_1 := blk_frozen BK102.out 1; have p103 : 0 ≤ ((ji9) : Int) := of_decide_eq_true (by first | (with_reducible assumption) | assumption); have q103 : (ji9) < (l0.length : Int) := of_decide_eq_true (by first | (with_reducible assumption) | assumption); obtain ⟨ad103, e103, hx103_0, hx103_1⟩ := at_T46 HR0.out (ji9) p103 q103; obtain rfl : ad101 = ad103 := (by injection e103); have hn103_0 : ad101.block ≠ gb102 := Nat.ne_of_lt (Nat.lt_of_lt_of_le (by have := World.block_lt_of_cell? _ _ hx103_0; first | rwa [add_block] at this | exact this) GW102.out); have hn103_1 : ad101.block ≠ gb102 := Nat.ne_of_lt (Nat.lt_of_lt_of_le (by have := World.block_lt_of_cell? _ _ hx103_0; first | rwa [add_block] at this | exact this) GW102.out); replace hx103_0 := (HB.out.cell (World.block_lt_of_cell? w _ hx103_0)).trans hx103_0; replace hx103_1 := (HB.out.cell (World.block_lt_of_cell? w _ hx103_1)).trans hx103_1; replace hx103_0 := (cell_far (p := ⟨gb102, 0, none⟩) (by first | (rw [add_block]; exact hn103_0) | (show (Addr.add _ _).block ≠ _; rw [add_block]; exact hn103_0) | exact hn103_0) (.int .u64 ((rd_T46 l0 x7_1).f0))).trans hx103_0; replace hx103_1 := (cell_far (p := ⟨gb102, 0, none⟩) (by first | (rw [add_block]; exact hn103_0) | (show (Addr.add _ _).block ≠ _; rw [add_block]; exact hn103_0) | exact hn103_0) (.int .u64 ((rd_T46 l0 x7_1).f0))).trans hx103_1; replace hx103_0 := (cell_far (p := ⟨gb102, 1, none⟩) (by first | (rw [add_block]; exact hn103_1) | (show (Addr.add _ _).block ≠ _; rw [add_block]; exact hn103_1) | exact hn103_1) (.string ((rd_T46 l0 x7_1).f1))).trans hx103_0; replace hx103_1 := (cell_far (p := ⟨gb102, 1, none⟩) (by first | (rw [add_block]; exact hn103_1) | (show (Addr.add _ _).block ≠ _; rw [add_block]; exact hn103_1) | exact hn103_1) (.string ((rd_T46 l0 x7_1).f1))).trans hx103_1; (try have hy103_0 := fun (n_ : Nat) => (show ((((w13.drewN n_).setCell ⟨gb102, 0, none⟩ (.int .u64 ((rd_T46 l0 x7_1).f0))).setCell ⟨gb102, 1, none⟩ (.string ((rd_T46 l0 x7_1).f1)))).cell? _ = some _ from hx103_0)); (try have hy103_1 := fun (n_ : Nat) => (show ((((w13.drewN n_).setCell ⟨gb102, 0, none⟩ (.int .u64 ((rd_T46 l0 x7_1).f0))).setCell ⟨gb102, 1, none⟩ (.string ((rd_T46 l0 x7_1).f1)))).cell? _ = some _ from hx103_1)); clear hn103_0; clear hn103_1; replace p103 := eq_true p103; replace q103 := eq_true q103))
           repeat (go_quiet (first | ((with_reducible refine gate_dst (N := 4) rfl ?_); refine box_event ?hg (N := 4) ?hd (cs := #[.int .u64 0, .string (⟨#[]⟩ : ByteArray)]) (t := 46) ?hr ?_; (case hd => rfl); (case hg => rfl); (case hr => first | (go_simp; done) | (go_simp; rfl)); intro gb102 hg w13 hbox hb; have n0_ := Aside0.mk (below_step (by repeat (first | (with_reducible first | exact HB.out | apply below_alloc | apply pw_below_drewN | apply below_drew1) | exact HB.out)) hb); have n1_ := Aside0.mk (hbox); have n2_ := Aside0.mk ((by rw [hg]; exact (below_size (by repeat (first | (with_reducible first | exact HB.out | apply below_alloc | apply pw_below_drewN | apply below_drew1) | exact HB.out))) : w.heap.size ≤ gb102)); have n3_ := Aside0.mk ((by rw [hg]; exact (below_size (by repeat (first | (with_reducible first | exact HB.out | apply below_alloc | apply pw_below_drewN | apply below_drew1) | exact HB.out))) : w.heap.size ≤ gb102)); clear HB; have HB := n0_; have BK102 := n1_; have GW102 := n2_; have GE102 := n3_; clear n0_ n1_ n2_ n3_; clear hb hbox hg; have hcz14_0 : w13.cell? ⟨gb102, 0, none⟩ = some (.int .u64 0) := (blk_cell BK102.out 0).trans rfl; have hcz14_1 : w13.cell? ⟨gb102, 1, none⟩ = some (.string (⟨#[]⟩ : ByteArray)) := (blk_cell BK102.out 1).trans rfl; have hfz14_0 := blk_frozen BK102.out 0; have hfz14_1 := blk_frozen BK102.out 1; have p103 : 0 ≤ ((ji9) : Int) := of_decide_eq_true (by first | (with_reducible assumption) | assumption); have q103 : (ji9) < (l0.length : Int) := of_decide_eq_true (by first | (with_reducible assumption) | assumption); obtain ⟨ad103, e103, hx103_0, hx103_1⟩ := at_T46 HR0.out (ji9) p103 q103; obtain rfl : ad101 = ad103 := (by injection e103); have hn103_0 : ad101.block ≠ gb102 := Nat.ne_of_lt (Nat.lt_of_lt_of_le (by have := World.block_lt_of_cell? _ _ hx103_0; first | rwa [add_block] at this | exact this) GW102.out); have hn103_1 : ad101.block ≠ gb102 := Nat.ne_of_lt (Nat.lt_of_lt_of_le (by have := World.block_lt_of_cell? _ _ hx103_0; first | rwa [add_block] at this | exact this) GW102.out); replace hx103_0 := (HB.out.cell (World.block_lt_of_cell? w _ hx103_0)).trans hx103_0; replace hx103_1 := (HB.out.cell (World.block_lt_of_cell? w _ hx103_1)).trans hx103_1; replace hx103_0 := (cell_far (p := ⟨gb102, 0, none⟩) (by first | (rw [add_block]; exact hn103_0) | (show (Addr.add _ _).block ≠ _; rw [add_block]; exact hn103_0) | exact hn103_0) (.int .u64 ((rd_T46 l0 x7_1).f0))).trans hx103_0; replace hx103_1 := (cell_far (p := ⟨gb102, 0, none⟩) (by first | (rw [add_block]; exact hn103_0) | (show (Addr.add _ _).block ≠ _; rw [add_block]; exact hn103_0) | exact hn103_0) (.int .u64 ((rd_T46 l0 x7_1).f0))).trans hx103_1; replace hx103_0 := (cell_far (p := ⟨gb102, 1, none⟩) (by first | (rw [add_block]; exact hn103_1) | (show (Addr.add _ _).block ≠ _; rw [add_block]; exact hn103_1) | exact hn103_1) (.string ((rd_T46 l0 x7_1).f1))).trans hx103_0; replace hx103_1 := (cell_far (p := ⟨gb102, 1, none⟩) (by first | (rw [add_block]; exact hn103_1) | (show (Addr.add _ _).block ≠ _; rw [add_block]; exact hn103_1) | exact hn103_1) (.string ((rd_T46 l0 x7_1).f1))).trans hx103_1; (try have hy103_0 := fun (n_ : Nat) => (show ((((w13.drewN n_).setCell ⟨gb102, 0, none⟩ (.int .u64 ((rd_T46 l0 x7_1).f0))).setCell ⟨gb102, 1, none⟩ (.string ((rd_T46 l0 x7_1).f1)))).cell? _ = some _ from hx103_0)); (try have hy103_1 := fun (n_ : Nat) => (show ((((w13.drewN n_).setCell ⟨gb102, 0, none⟩ (.int .u64 ((rd_T46 l0 x7_1).f0))).setCell ⟨gb102, 1, none⟩ (.string ((rd_T46 l0 x7_1).f1)))).cell? _ = some _ from hx103_1)); clear hn103_0; clear hn103_1; replace p103 := eq_true p103; replace q103 := eq_true q103)); try go_wp2_with (first | ((with_reducible refine gate_dst (N := 4) rfl ?_); refine box_event ?hg (N := 4) ?hd (cs := #[.int .u64 0, .string (⟨#[]⟩ : ByteArray)]) (t := 46) ?hr ?_; (case hd => rfl); (case hg => rfl); (case hr => first | (go_simp; done) | (go_simp; rfl)); intro gb102 hg w13 hbox hb; have n0_ := Aside0.mk (below_step (by repeat (first | (with_reducible first | exact HB.out | apply below_alloc | apply pw_below_drewN | apply below_drew1) | exact HB.out)) hb); have n1_ := Aside0.mk (hbox); have n2_ := Aside0.mk ((by rw [hg]; exact (below_size (by repeat (first | (with_reducible first | exact HB.out | apply below_alloc | apply pw_below_drewN | apply below_drew1) | exact HB.out))) : w.heap.size ≤ gb102)); have n3_ := Aside0.mk ((by rw [hg]; exact (below_size (by repeat (first | (with_reducible first | exact HB.out | apply below_alloc | apply pw_below_drewN | apply below_drew1) | exact HB.out))) : w.heap.size ≤ gb102)); clear HB; have HB := n0_; have BK102 := n1_; have GW102 := n2_; have GE102 := n3_; clear n0_ n1_ n2_ n3_; clear hb hbox hg; have hcz14_0 : w13.cell? ⟨gb102, 0, none⟩ = some (.int .u64 0) := (blk_cell BK102.out 0).trans rfl; have hcz14_1 : w13.cell? ⟨gb102, 1, none⟩ = some (.string (⟨#[]⟩ : ByteArray)) := (blk_cell BK102.out 1).trans rfl; have hfz14_0 := blk_frozen BK102.out 0; have hfz14_1 := blk_frozen BK102.out 1; have p103 : 0 ≤ ((ji9) : Int) := of_decide_eq_true (by first | (with_reducible assumption) | assumption); have q103 : (ji9) < (l0.length : Int) := of_decide_eq_true (by first | (with_reducible assumption) | assumption); obtain ⟨ad103, e103, hx103_0, hx103_1⟩ := at_T46 HR0.out (ji9) p103 q103; obtain rfl : ad101 = ad103 := (by injection e103); have hn103_0 : ad101.block ≠ gb102 := Nat.ne_of_lt (Nat.lt_of_lt_of_le (by have := World.block_lt_of_cell? _ _ hx103_0; first | rwa [add_block] at this | exact this) GW102.out); have hn103_1 : ad101.block ≠ gb102 := Nat.ne_of_lt (Nat.lt_of_lt_of_le (by have := World.block_lt_of_cell? _ _ hx103_0; first | rwa [add_block] at this | exact this) GW102.out); replace hx103_0 := (HB.out.cell (World.block_lt_of_cell? w _ hx103_0)).trans hx103_0; replace hx103_1 := (HB.out.cell (World.block_lt_of_cell? w _ hx103_1)).trans hx103_1; replace hx103_0 := (cell_far (p := ⟨gb102, 0, none⟩) (by first | (rw [add_block]; exact hn103_0) | (show (Addr.add _ _).block ≠ _; rw [add_block]; exact hn103_0) | exact hn103_0) (.int .u64 ((rd_T46 l0 x7_1).f0))).trans hx103_0; replace hx103_1 := (cell_far (p := ⟨gb102, 0, none⟩) (by first | (rw [add_block]; exact hn103_0) | (show (Addr.add _ _).block ≠ _; rw [add_block]; exact hn103_0) | exact hn103_0) (.int .u64 ((rd_T46 l0 x7_1).f0))).trans hx103_1; replace hx103_0 := (cell_far (p := ⟨gb102, 1, none⟩) (by first | (rw [add_block]; exact hn103_1) | (show (Addr.add _ _).block ≠ _; rw [add_block]; exact hn103_1) | exact hn103_1) (.string ((rd_T46 l0 x7_1).f1))).trans hx103_0; replace hx103_1 := (cell_far (p := ⟨gb102, 1, none⟩) (by first | (rw [add_block]; exact hn103_1) | (show (Addr.add _ _).block ≠ _; rw [add_block]; exact hn103_1) | exact hn103_1) (.string ((rd_T46 l0 x7_1).f1))).trans hx103_1; (try have hy103_0 := fun (n_ : Nat) => (show ((((w13.drewN n_).setCell ⟨gb102, 0, none⟩ (.int .u64 ((rd_T46 l0 x7_1).f0))).setCell ⟨gb102, 1, none⟩ (.string ((rd_T46 l0 x7_1).f1)))).cell? _ = some _ from hx103_0)); (try have hy103_1 := fun (n_ : Nat) => (show ((((w13.drewN n_).setCell ⟨gb102, 0, none⟩ (.int .u64 ((rd_T46 l0 x7_1).f0))).setCell ⟨gb102, 1, none⟩ (.string ((rd_T46 l0 x7_1).f1)))).cell? _ = some _ from hx103_1)); clear hn103_0; clear hn103_1; replace p103 := eq_true p103; replace q103 := eq_true q103)))
           go_ret
           exact ⟨by first | rfl | (simp [errW_none, errW_some] <;> rfl) | (simp only [← hji9]; first | rfl | (simp [errW_none, errW_some] <;> rfl)) | (simp [*, errW_none, errW_some] <;> rfl), by repeat (first | (with_reducible first | exact HB.out | apply below_alloc | apply pw_below_drewN | apply below_drew1 | refine below_set ?_ GE102.out) | exact HB.out)⟩
          ·rw [if_neg c12] at H
           have c12b0 : decide (((rd_T46 l0 x7_1).f0) ≤ ((rd_T46 l0 (ji9)).f0)) = false := decide_eq_false c12
           clear c12
           have H' := Aside0.mk H
           clear H
           have p101 : 0 ≤ (x7_1 : Int) := of_decide_eq_true (by first | (with_reducible assumption) | assumption)
           have q101 : x7_1 < (l0.length : Int) := of_decide_eq_true (by first | (with_reducible assumption) | assumption)
           obtain ⟨ad101, e101, hx101_0, hx101_1⟩ := at_T46 HR0.out x7_1 p101 q101
           cases e101
           replace hx101_0 := (HB.out.cell (World.block_lt_of_cell? w _ hx101_0)).trans hx101_0
           replace hx101_1 := (HB.out.cell (World.block_lt_of_cell? w _ hx101_1)).trans hx101_1
           replace p101 := eq_true p101
           replace q101 := eq_true q101
           go_wp2_with (first | ((with_reducible refine gate_dst (N := 4) rfl ?_); refine box_event ?hg (N := 4) ?hd (cs := #[.int .u64 0, .string (⟨#[]⟩ : ByteArray)]) (t := 46) ?hr ?_; (case hd => rfl); (case hg => rfl); (case hr => first | (go_simp; done) | (go_simp; rfl)); intro gb102 hg w15 hbox hb; have n0_ := Aside0.mk (below_step (by repeat (first | (with_reducible first | exact HB.out | apply below_alloc | apply pw_below_drewN | apply below_drew1) | exact HB.out)) hb); have n1_ := Aside0.mk (hbox); have n2_ := Aside0.mk ((by rw [hg]; exact (below_size (by repeat (first | (with_reducible first | exact HB.out | apply below_alloc | apply pw_below_drewN | apply below_drew1) | exact HB.out))) : w.heap.size ≤ gb102)); have n3_ := Aside0.mk ((by rw [hg]; exact (below_size (by repeat (first | (with_reducible first | exact HB.out | apply below_alloc | apply pw_below_drewN | apply below_drew1) | exact HB.out))) : w.heap.size ≤ gb102)); clear HB; have HB := n0_; have BK102 := n1_; have GW102 := n2_; have GE102 := n3_; clear n0_ n1_ n2_ n3_; clear hb hbox hg; have hcz16_0 : w15.cell? ⟨gb102, 0, none⟩ = some (.int .u64 0) := (blk_cell BK102.out 0).trans rfl; have hcz16_1 : w15.cell? ⟨gb102, 1, none⟩ = some (.string (⟨#[]⟩ : ByteArray)) := (blk_cell BK102.out 1).trans rfl; have hfz16_0 := blk_frozen BK102.out 0; have hfz16_1 := blk_frozen BK102.out 1; have p103 : 0 ≤ ((ji9) : Int) := of_decide_eq_true (by first | (with_reducible assumption) | assumption); have q103 : (ji9) < (l0.length : Int) := of_decide_eq_true (by first | (with_reducible assumption) | assumption); obtain ⟨ad103, e103, hx103_0, hx103_1⟩ := at_T46 HR0.out (ji9) p103 q103; obtain rfl : ad101 = ad103 := (by injection e103); have hn103_0 : ad101.block ≠ gb102 := Nat.ne_of_lt (Nat.lt_of_lt_of_le (by have := World.block_lt_of_cell? _ _ hx103_0; first | rwa [add_block] at this | exact this) GW102.out); have hn103_1 : ad101.block ≠ gb102 := Nat.ne_of_lt (Nat.lt_of_lt_of_le (by have := World.block_lt_of_cell? _ _ hx103_0; first | rwa [add_block] at this | exact this) GW102.out); replace hx103_0 := (HB.out.cell (World.block_lt_of_cell? w _ hx103_0)).trans hx103_0; replace hx103_1 := (HB.out.cell (World.block_lt_of_cell? w _ hx103_1)).trans hx103_1; replace hx103_0 := (cell_far (p := ⟨gb102, 0, none⟩) (by first | (rw [add_block]; exact hn103_0) | (show (Addr.add _ _).block ≠ _; rw [add_block]; exact hn103_0) | exact hn103_0) (.int .u64 ((rd_T46 l0 x7_1).f0))).trans hx103_0; replace hx103_1 := (cell_far (p := ⟨gb102, 0, none⟩) (by first | (rw [add_block]; exact hn103_0) | (show (Addr.add _ _).block ≠ _; rw [add_block]; exact hn103_0) | exact hn103_0) (.int .u64 ((rd_T46 l0 x7_1).f0))).trans hx103_1; replace hx103_0 := (cell_far (p := ⟨gb102, 1, none⟩) (by first | (rw [add_block]; exact hn103_1) | (show (Addr.add _ _).block ≠ _; rw [add_block]; exact hn103_1) | exact hn103_1) (.string ((rd_T46 l0 x7_1).f1))).trans hx103_0; replace hx103_1 := (cell_far (p := ⟨gb102, 1, none⟩) (by first | (rw [add_block]; exact hn103_1) | (show (Addr.add _ _).block ≠ _; rw [add_block]; exact hn103_1) | exact hn103_1) (.string ((rd_T46 l0 x7_1).f1))).trans hx103_1; (try have hy103_0 := fun (n_ : Nat) => (show ((((w15.drewN n_).setCell ⟨gb102, 0, none⟩ (.int .u64 ((rd_T46 l0 x7_1).f0))).setCell ⟨gb102, 1, none⟩ (.string ((rd_T46 l0 x7_1).f1)))).cell? _ = some _ from hx103_0)); (try have hy103_1 := fun (n_ : Nat) => (show ((((w15.drewN n_).setCell ⟨gb102, 0, none⟩ (.int .u64 ((rd_T46 l0 x7_1).f0))).setCell ⟨gb102, 1, none⟩ (.string ((rd_T46 l0 x7_1).f1)))).cell? _ = some _ from hx103_1)); clear hn103_0; clear hn103_1; replace p103 := eq_true p103; replace q103 := eq_true q103))
           repeat (go_quiet (first | ((with_reducible refine gate_dst (N := 4) rfl ?_); refine box_event ?hg (N := 4) ?hd (cs := #[.int .u64 0, .string (⟨#[]⟩ : ByteArray)]) (t := 46) ?hr ?_; (case hd => rfl); (case hg => rfl); (case hr => first | (go_simp; done) | (go_simp; rfl)); intro gb102 hg w15 hbox hb; have n0_ := Aside0.mk (below_step (by repeat (first | (with_reducible first | exact HB.out | apply below_alloc | apply pw_below_drewN | apply below_drew1) | exact HB.out)) hb); have n1_ := Aside0.mk (hbox); have n2_ := Aside0.mk ((by rw [hg]; exact (below_size (by repeat (first | (with_reducible first | exact HB.out | apply below_alloc | apply pw_below_drewN | apply below_drew1) | exact HB.out))) : w.heap.size ≤ gb102)); have n3_ := Aside0.mk ((by rw [hg]; exact (below_size (by repeat (first | (with_reducible first | exact HB.out | apply below_alloc | apply pw_below_drewN | apply below_drew1) | exact HB.out))) : w.heap.size ≤ gb102)); clear HB; have HB := n0_; have BK102 := n1_; have GW102 := n2_; have GE102 := n3_; clear n0_ n1_ n2_ n3_; clear hb hbox hg; have hcz16_0 : w15.cell? ⟨gb102, 0, none⟩ = some (.int .u64 0) := (blk_cell BK102.out 0).trans rfl; have hcz16_1 : w15.cell? ⟨gb102, 1, none⟩ = some (.string (⟨#[]⟩ : ByteArray)) := (blk_cell BK102.out 1).trans rfl; have hfz16_0 := blk_frozen BK102.out 0; have hfz16_1 := blk_frozen BK102.out 1; have p103 : 0 ≤ ((ji9) : Int) := of_decide_eq_true (by first | (with_reducible assumption) | assumption); have q103 : (ji9) < (l0.length : Int) := of_decide_eq_true (by first | (with_reducible assumption) | assumption); obtain ⟨ad103, e103, hx103_0, hx103_1⟩ := at_T46 HR0.out (ji9) p103 q103; obtain rfl : ad101 = ad103 := (by injection e103); have hn103_0 : ad101.block ≠ gb102 := Nat.ne_of_lt (Nat.lt_of_lt_of_le (by have := World.block_lt_of_cell? _ _ hx103_0; first | rwa [add_block] at this | exact this) GW102.out); have hn103_1 : ad101.block ≠ gb102 := Nat.ne_of_lt (Nat.lt_of_lt_of_le (by have := World.block_lt_of_cell? _ _ hx103_0; first | rwa [add_block] at this | exact this) GW102.out); replace hx103_0 := (HB.out.cell (World.block_lt_of_cell? w _ hx103_0)).trans hx103_0; replace hx103_1 := (HB.out.cell (World.block_lt_of_cell? w _ hx103_1)).trans hx103_1; replace hx103_0 := (cell_far (p := ⟨gb102, 0, none⟩) (by first | (rw [add_block]; exact hn103_0) | (show (Addr.add _ _).block ≠ _; rw [add_block]; exact hn103_0) | exact hn103_0) (.int .u64 ((rd_T46 l0 x7_1).f0))).trans hx103_0; replace hx103_1 := (cell_far (p := ⟨gb102, 0, none⟩) (by first | (rw [add_block]; exact hn103_0) | (show (Addr.add _ _).block ≠ _; rw [add_block]; exact hn103_0) | exact hn103_0) (.int .u64 ((rd_T46 l0 x7_1).f0))).trans hx103_1; replace hx103_0 := (cell_far (p := ⟨gb102, 1, none⟩) (by first | (rw [add_block]; exact hn103_1) | (show (Addr.add _ _).block ≠ _; rw [add_block]; exact hn103_1) | exact hn103_1) (.string ((rd_T46 l0 x7_1).f1))).trans hx103_0; replace hx103_1 := (cell_far (p := ⟨gb102, 1, none⟩) (by first | (rw [add_block]; exact hn103_1) | (show (Addr.add _ _).block ≠ _; rw [add_block]; exact hn103_1) | exact hn103_1) (.string ((rd_T46 l0 x7_1).f1))).trans hx103_1; (try have hy103_0 := fun (n_ : Nat) => (show ((((w15.drewN n_).setCell ⟨gb102, 0, none⟩ (.int .u64 ((rd_T46 l0 x7_1).f0))).setCell ⟨gb102, 1, none⟩ (.string ((rd_T46 l0 x7_1).f1)))).cell? _ = some _ from hx103_0)); (try have hy103_1 := fun (n_ : Nat) => (show ((((w15.drewN n_).setCell ⟨gb102, 0, none⟩ (.int .u64 ((rd_T46 l0 x7_1).f0))).setCell ⟨gb102, 1, none⟩ (.string ((rd_T46 l0 x7_1).f1)))).cell? _ = some _ from hx103_1)); clear hn103_0; clear hn103_1; replace p103 := eq_true p103; replace q103 := eq_true q103)); try go_wp2_with (first | ((with_reducible refine gate_dst (N := 4) rfl ?_); refine box_event ?hg (N := 4) ?hd (cs := #[.int .u64 0, .string (⟨#[]⟩ : ByteArray)]) (t := 46) ?hr ?_; (case hd => rfl); (case hg => rfl); (case hr => first | (go_simp; done) | (go_simp; rfl)); intro gb102 hg w15 hbox hb; have n0_ := Aside0.mk (below_step (by repeat (first | (with_reducible first | exact HB.out | apply below_alloc | apply pw_below_drewN | apply below_drew1) | exact HB.out)) hb); have n1_ := Aside0.mk (hbox); have n2_ := Aside0.mk ((by rw [hg]; exact (below_size (by repeat (first | (with_reducible first | exact HB.out | apply below_alloc | apply pw_below_drewN | apply below_drew1) | exact HB.out))) : w.heap.size ≤ gb102)); have n3_ := Aside0.mk ((by rw [hg]; exact (below_size (by repeat (first | (with_reducible first | exact HB.out | apply below_alloc | apply pw_below_drewN | apply below_drew1) | exact HB.out))) : w.heap.size ≤ gb102)); clear HB; have HB := n0_; have BK102 := n1_; have GW102 := n2_; have GE102 := n3_; clear n0_ n1_ n2_ n3_; clear hb hbox hg; have hcz16_0 : w15.cell? ⟨gb102, 0, none⟩ = some (.int .u64 0) := (blk_cell BK102.out 0).trans rfl; have hcz16_1 : w15.cell? ⟨gb102, 1, none⟩ = some (.string (⟨#[]⟩ : ByteArray)) := (blk_cell BK102.out 1).trans rfl; have hfz16_0 := blk_frozen BK102.out 0; have hfz16_1 := blk_frozen BK102.out 1; have p103 : 0 ≤ ((ji9) : Int) := of_decide_eq_true (by first | (with_reducible assumption) | assumption); have q103 : (ji9) < (l0.length : Int) := of_decide_eq_true (by first | (with_reducible assumption) | assumption); obtain ⟨ad103, e103, hx103_0, hx103_1⟩ := at_T46 HR0.out (ji9) p103 q103; obtain rfl : ad101 = ad103 := (by injection e103); have hn103_0 : ad101.block ≠ gb102 := Nat.ne_of_lt (Nat.lt_of_lt_of_le (by have := World.block_lt_of_cell? _ _ hx103_0; first | rwa [add_block] at this | exact this) GW102.out); have hn103_1 : ad101.block ≠ gb102 := Nat.ne_of_lt (Nat.lt_of_lt_of_le (by have := World.block_lt_of_cell? _ _ hx103_0; first | rwa [add_block] at this | exact this) GW102.out); replace hx103_0 := (HB.out.cell (World.block_lt_of_cell? w _ hx103_0)).trans hx103_0; replace hx103_1 := (HB.out.cell (World.block_lt_of_cell? w _ hx103_1)).trans hx103_1; replace hx103_0 := (cell_far (p := ⟨gb102, 0, none⟩) (by first | (rw [add_block]; exact hn103_0) | (show (Addr.add _ _).block ≠ _; rw [add_block]; exact hn103_0) | exact hn103_0) (.int .u64 ((rd_T46 l0 x7_1).f0))).trans hx103_0; replace hx103_1 := (cell_far (p := ⟨gb102, 0, none⟩) (by first | (rw [add_block]; exact hn103_0) | (show (Addr.add _ _).block ≠ _; rw [add_block]; exact hn103_0) | exact hn103_0) (.int .u64 ((rd_T46 l0 x7_1).f0))).trans hx103_1; replace hx103_0 := (cell_far (p := ⟨gb102, 1, none⟩) (by first | (rw [add_block]; exact hn103_1) | (show (Addr.add _ _).block ≠ _; rw [add_block]; exact hn103_1) | exact hn103_1) (.string ((rd_T46 l0 x7_1).f1))).trans hx103_0; replace hx103_1 := (cell_far (p := ⟨gb102, 1, none⟩) (by first | (rw [add_block]; exact hn103_1) | (show (Addr.add _ _).block ≠ _; rw [add_block]; exact hn103_1) | exact hn103_1) (.string ((rd_T46 l0 x7_1).f1))).trans hx103_1; (try have hy103_0 := fun (n_ : Nat) => (show ((((w15.drewN n_).setCell ⟨gb102, 0, none⟩ (.int .u64 ((rd_T46 l0 x7_1).f0))).setCell ⟨gb102, 1, none⟩ (.string ((rd_T46 l0 x7_1).f1)))).cell? _ = some _ from hx103_0)); (try have hy103_1 := fun (n_ : Nat) => (show ((((w15.drewN n_).setCell ⟨gb102, 0, none⟩ (.int .u64 ((rd_T46 l0 x7_1).f0))).setCell ⟨gb102, 1, none⟩ (.string ((rd_T46 l0 x7_1).f1)))).cell? _ = some _ from hx103_1)); clear hn103_0; clear hn103_1; replace p103 := eq_true p103; replace q103 := eq_true q103)))
           go_roundg k1
           case measure => have := HK1.out; omega
           case rel => exact ⟨(wrap64 (x7_1 + 1)), (by first | rfl | (simp; done) | (simp [*]; done)), H', ⟨by have := HK1.out; omega⟩, ⟨by repeat (first | (with_reducible first | exact HB.out | apply below_alloc | apply pw_below_drewN | apply below_drew1 | refine below_set ?_ GE102.out) | exact HB.out)⟩⟩
         ·rw [if_neg c11] at H
          exact absurd H (by simp)
        ·rw [if_neg c10] at H
         exact absurd H (by simp)
       ·rw [if_neg c8] at H
        have c8b0 : decide (0 < x7_1) = false := decide_eq_false c8
        clear c8
        have H' := Aside0.mk H
        clear H
        have p101 : 0 ≤ (x7_1 : Int) := of_decide_eq_true (by first | (with_reducible assumption) | assumption)
        have q101 : x7_1 < (l0.length : Int) := of_decide_eq_true (by first | (with_reducible assumption) | assumption)
        obtain ⟨ad101, e101, hx101_0, hx101_1⟩ := at_T46 HR0.out x7_1 p101 q101
        cases e101
        replace hx101_0 := (HB.out.cell (World.block_lt_of_cell? w _ hx101_0)).trans hx101_0
        replace hx101_1 := (HB.out.cell (World.block_lt_of_cell? w _ hx101_1)).trans hx101_1
        replace p101 := eq_true p101
        replace q101 := eq_true q101
        go_wp2_with (first | ((with_reducible refine gate_dst (N := 4) rfl ?_); refine box_event ?hg (N := 4) ?hd (cs := #[.int .u64 0, .string (⟨#[]⟩ : ByteArray)]) (t := 46) ?hr ?_; (case hd => rfl); (case hg => rfl); (case hr => first | (go_simp; done) | (go_simp; rfl)); intro gb102 hg w17 hbox hb; have n0_ := Aside0.mk (below_step (by repeat (first | (with_reducible first | exact HB.out | apply below_alloc | apply pw_below_drewN | apply below_drew1) | exact HB.out)) hb); have n1_ := Aside0.mk (hbox); have n2_ := Aside0.mk ((by rw [hg]; exact (below_size (by repeat (first | (with_reducible first | exact HB.out | apply below_alloc | apply pw_below_drewN | apply below_drew1) | exact HB.out))) : w.heap.size ≤ gb102)); have n3_ := Aside0.mk ((by rw [hg]; exact (below_size (by repeat (first | (with_reducible first | exact HB.out | apply below_alloc | apply pw_below_drewN | apply below_drew1) | exact HB.out))) : w.heap.size ≤ gb102)); clear HB; have HB := n0_; have BK102 := n1_; have GW102 := n2_; have GE102 := n3_; clear n0_ n1_ n2_ n3_; clear hb hbox hg; have hcz18_0 : w17.cell? ⟨gb102, 0, none⟩ = some (.int .u64 0) := (blk_cell BK102.out 0).trans rfl; have hcz18_1 : w17.cell? ⟨gb102, 1, none⟩ = some (.string (⟨#[]⟩ : ByteArray)) := (blk_cell BK102.out 1).trans rfl; have hfz18_0 := blk_frozen BK102.out 0; have hfz18_1 := blk_frozen BK102.out 1))
        repeat (go_quiet (first | ((with_reducible refine gate_dst (N := 4) rfl ?_); refine box_event ?hg (N := 4) ?hd (cs := #[.int .u64 0, .string (⟨#[]⟩ : ByteArray)]) (t := 46) ?hr ?_; (case hd => rfl); (case hg => rfl); (case hr => first | (go_simp; done) | (go_simp; rfl)); intro gb102 hg w17 hbox hb; have n0_ := Aside0.mk (below_step (by repeat (first | (with_reducible first | exact HB.out | apply below_alloc | apply pw_below_drewN | apply below_drew1) | exact HB.out)) hb); have n1_ := Aside0.mk (hbox); have n2_ := Aside0.mk ((by rw [hg]; exact (below_size (by repeat (first | (with_reducible first | exact HB.out | apply below_alloc | apply pw_below_drewN | apply below_drew1) | exact HB.out))) : w.heap.size ≤ gb102)); have n3_ := Aside0.mk ((by rw [hg]; exact (below_size (by repeat (first | (with_reducible first | exact HB.out | apply below_alloc | apply pw_below_drewN | apply below_drew1) | exact HB.out))) : w.heap.size ≤ gb102)); clear HB; have HB := n0_; have BK102 := n1_; have GW102 := n2_; have GE102 := n3_; clear n0_ n1_ n2_ n3_; clear hb hbox hg; have hcz18_0 : w17.cell? ⟨gb102, 0, none⟩ = some (.int .u64 0) := (blk_cell BK102.out 0).trans rfl; have hcz18_1 : w17.cell? ⟨gb102, 1, none⟩ = some (.string (⟨#[]⟩ : ByteArray)) := (blk_cell BK102.out 1).trans rfl; have hfz18_0 := blk_frozen BK102.out 0; have hfz18_1 := blk_frozen BK102.out 1)); try go_wp2_with (first | ((with_reducible refine gate_dst (N := 4) rfl ?_); refine box_event ?hg (N := 4) ?hd (cs := #[.int .u64 0, .string (⟨#[]⟩ : ByteArray)]) (t := 46) ?hr ?_; (case hd => rfl); (case hg => rfl); (case hr => first | (go_simp; done) | (go_simp; rfl)); intro gb102 hg w17 hbox hb; have n0_ := Aside0.mk (below_step (by repeat (first | (with_reducible first | exact HB.out | apply below_alloc | apply pw_below_drewN | apply below_drew1) | exact HB.out)) hb); have n1_ := Aside0.mk (hbox); have n2_ := Aside0.mk ((by rw [hg]; exact (below_size (by repeat (first | (with_reducible first | exact HB.out | apply below_alloc | apply pw_below_drewN | apply below_drew1) | exact HB.out))) : w.heap.size ≤ gb102)); have n3_ := Aside0.mk ((by rw [hg]; exact (below_size (by repeat (first | (with_reducible first | exact HB.out | apply below_alloc | apply pw_below_drewN | apply below_drew1) | exact HB.out))) : w.heap.size ≤ gb102)); clear HB; have HB := n0_; have BK102 := n1_; have GW102 := n2_; have GE102 := n3_; clear n0_ n1_ n2_ n3_; clear hb hbox hg; have hcz18_0 : w17.cell? ⟨gb102, 0, none⟩ = some (.int .u64 0) := (blk_cell BK102.out 0).trans rfl; have hcz18_1 : w17.cell? ⟨gb102, 1, none⟩ = some (.string (⟨#[]⟩ : ByteArray)) := (blk_cell BK102.out 1).trans rfl; have hfz18_0 := blk_frozen BK102.out 0; have hfz18_1 := blk_frozen BK102.out 1)))
        go_roundg k1
        case measure => have := HK1.out; omega
        case rel => exact ⟨(wrap64 (x7_1 + 1)), (by first | rfl | (simp; done) | (simp [*]; done)), H', ⟨by have := HK1.out; omega⟩, ⟨by repeat (first | (with_reducible first | exact HB.out | apply below_alloc | apply pw_below_drewN | apply below_drew1 | refine below_set ?_ GE102.out) | exact HB.out)⟩⟩
     ·rw [if_neg c4] at H
      exact absurd H (by simp)
    ·rw [if_neg c3] at H
     exact absurd H (by simp)
   ·rw [if_neg c2] at H
    have c2b0 : decide (x7_1 < (l0.length : Int)) = false := decide_eq_false c2
    clear c2
    obtain rfl := Option.some.inj H
    go_wp2
    repeat (go_quiet (fail); try go_wp2)
    go_ret
    exact ⟨by first | rfl | (simp [errW_none, errW_some] <;> rfl) | (simp [*, errW_none, errW_some] <;> rfl), by repeat (first | (with_reducible first | exact HB.out | apply below_alloc | apply pw_below_drewN | apply below_drew1) | exact HB.out)⟩
/-! ### skip_Find: function 24 -/
mutual
def skip_Find.l0 : Nat → ByteArray → List (S46) → Int → List Int → List (S46) → Int → Int → Option (Int × (List (S48)) × Int)
 | 0, _, _, _, _, _, _, _ => none
 | k + 1, x0, x1, x2, x9, x22, x23, x24 => if x24 < x23 then (if 0 ≤ x24 then (if x24 < (x22.length : Int) then ((tower_Height.f x0 ((rd_T46 x22 x24).f0)).bind fun t110 => (if x24 < (x9.length : Int) then (skip_Find.l0 k x0 x1 x2 (x9.set (x24 : Int).toNat t110) x22 x23 (wrap64 (x24 + 1))) else (none))) else (none)) else (none)) else (skip_Find.l1 k x1 x2 x9 (-1) ([] : List (S48)) 7)
def skip_Find.l1 : Nat → List (S46) → Int → List Int → Int → List (S48) → Int → Option (Int × (List (S48)) × Int)
 | 0, _, _, _, _, _, _ => none
 | k + 1, x1, x2, x9, x12, x13, x14 => if x14 ≥ 0 then (skip_Find.l2 k x1 x2 x9 x12 x13 x14 (wrap64 (x12 + 1))) else (if x12 < 0 then (some (0, ([] : List (S48)), 3)) else (some (x12, x13, 0)))
def skip_Find.l2 : Nat → List (S46) → Int → List Int → Int → List (S48) → Int → Int → Option (Int × (List (S48)) × Int)
 | 0, _, _, _, _, _, _, _ => none
 | k + 1, x1, x2, x9, x12, x13, x14, x15 => if x15 < (x1.length : Int) then (if 0 ≤ x15 then (if x15 < (x9.length : Int) then (if (rd x9 x15) ≤ x14 then (skip_Find.l2 k x1 x2 x9 x12 x13 x14 (wrap64 (x15 + 1))) else (if x15 = (x1.length : Int) then (skip_Find.l1 k x1 x2 x9 x12 x13 (wrap64 (x14 - 1))) else (if ((rd_T46 x1 x15).f0) > x2 then (skip_Find.l1 k x1 x2 x9 x12 x13 (wrap64 (x14 - 1))) else (if x13.length < 8796093022208 then (skip_Find.l1 k x1 x2 x9 x15 (x13 ++ [(⟨x14, x15⟩ : S48)]) x14) else (none))))) else (none)) else (none)) else (if x15 = (x1.length : Int) then (skip_Find.l1 k x1 x2 x9 x12 x13 (wrap64 (x14 - 1))) else (if 0 ≤ x15 then (none) else (none)))
end
def skip_Find.f (k : Nat) (a0 : ByteArray) (l1 : List (S46)) (a2 : Int) : Option (Int × (List (S48)) × Int) := (skip_Right.f k l1).bind fun t104 => (if t104 = true then (if 0 ≤ (l1.length : Int) then (if ((l1.length : Int) : Int).toNat ≤ 35184372088832 then (skip_Find.l0 k a0 l1 a2 (List.replicate ((l1.length : Int) : Int).toNat 0) l1 (l1.length : Int) 0) else (none)) else (none)) else (some (0, ([] : List (S48)), 1)))
theorem skip_Find.mono_l : ∀ k, (∀ y0 y1 y2 y3 y4 y5 y6, LeO (skip_Find.l0 k y0 y1 y2 y3 y4 y5 y6) (skip_Find.l0 (k + 1) y0 y1 y2 y3 y4 y5 y6)) ∧ (∀ y0 y1 y2 y3 y4 y5, LeO (skip_Find.l1 k y0 y1 y2 y3 y4 y5) (skip_Find.l1 (k + 1) y0 y1 y2 y3 y4 y5)) ∧ (∀ y0 y1 y2 y3 y4 y5 y6, LeO (skip_Find.l2 k y0 y1 y2 y3 y4 y5 y6) (skip_Find.l2 (k + 1) y0 y1 y2 y3 y4 y5 y6))
 | 0 => ⟨fun _ _ _ _ _ _ _ r h => by simp [skip_Find.l0] at h, fun _ _ _ _ _ _ r h => by simp [skip_Find.l1] at h, fun _ _ _ _ _ _ _ r h => by simp [skip_Find.l2] at h⟩
 | k + 1 => by
  obtain ⟨ih0, ih1, ih2⟩ := skip_Find.mono_l k
  refine ⟨?_, ?_, ?_⟩
  ·intro y0 y1 y2 y3 y4 y5 y6
   unfold skip_Find.l0
   repeat' first
   | (with_reducible exact ih0 _ _ _ _ _ _ _)
   | (with_reducible exact ih1 _ _ _ _ _ _)
   | (with_reducible exact ih2 _ _ _ _ _ _ _)
   | (with_reducible exact skip_Right.mono _ _)
   | (with_reducible exact LeO.refl _)
   | (with_reducible exact LeO.none _)
   | (with_reducible refine LeO.ite ?_ ?_)
   | (with_reducible refine LeO.bind ?_ (fun _ => ?_))
   | exact ih0 _ _ _ _ _ _ _
   | exact ih1 _ _ _ _ _ _
   | exact ih2 _ _ _ _ _ _ _
   | exact skip_Right.mono _ _
   | exact LeO.none _
   | refine LeO.ite ?_ ?_
   | refine LeO.bind ?_ (fun _ => ?_)
  ·intro y0 y1 y2 y3 y4 y5
   unfold skip_Find.l1
   repeat' first
   | (with_reducible exact ih0 _ _ _ _ _ _ _)
   | (with_reducible exact ih1 _ _ _ _ _ _)
   | (with_reducible exact ih2 _ _ _ _ _ _ _)
   | (with_reducible exact skip_Right.mono _ _)
   | (with_reducible exact LeO.refl _)
   | (with_reducible exact LeO.none _)
   | (with_reducible refine LeO.ite ?_ ?_)
   | (with_reducible refine LeO.bind ?_ (fun _ => ?_))
   | exact ih0 _ _ _ _ _ _ _
   | exact ih1 _ _ _ _ _ _
   | exact ih2 _ _ _ _ _ _ _
   | exact skip_Right.mono _ _
   | exact LeO.none _
   | refine LeO.ite ?_ ?_
   | refine LeO.bind ?_ (fun _ => ?_)
  ·intro y0 y1 y2 y3 y4 y5 y6
   unfold skip_Find.l2
   repeat' first
   | (with_reducible exact ih0 _ _ _ _ _ _ _)
   | (with_reducible exact ih1 _ _ _ _ _ _)
   | (with_reducible exact ih2 _ _ _ _ _ _ _)
   | (with_reducible exact skip_Right.mono _ _)
   | (with_reducible exact LeO.refl _)
   | (with_reducible exact LeO.none _)
   | (with_reducible refine LeO.ite ?_ ?_)
   | (with_reducible refine LeO.bind ?_ (fun _ => ?_))
   | exact ih0 _ _ _ _ _ _ _
   | exact ih1 _ _ _ _ _ _
   | exact ih2 _ _ _ _ _ _ _
   | exact skip_Right.mono _ _
   | exact LeO.none _
   | refine LeO.ite ?_ ?_
   | refine LeO.bind ?_ (fun _ => ?_)
theorem skip_Find.mono : ∀ a0 a1 a2 k, LeO (skip_Find.f k a0 a1 a2) (skip_Find.f (k + 1) a0 a1 a2) := by
 intro a0 a1 a2 k
 obtain ⟨ih0, ih1, ih2⟩ := skip_Find.mono_l k
 unfold skip_Find.f
 repeat' first
   | (with_reducible exact ih0 _ _ _ _ _ _ _)
   | (with_reducible exact ih1 _ _ _ _ _ _)
   | (with_reducible exact ih2 _ _ _ _ _ _ _)
   | (with_reducible exact skip_Right.mono _ _)
   | (with_reducible exact LeO.refl _)
   | (with_reducible exact LeO.none _)
   | (with_reducible refine LeO.ite ?_ ?_)
   | (with_reducible refine LeO.bind ?_ (fun _ => ?_))
   | exact ih0 _ _ _ _ _ _ _
   | exact ih1 _ _ _ _ _ _
   | exact ih2 _ _ _ _ _ _ _
   | exact skip_Right.mono _ _
   | exact LeO.none _
   | refine LeO.ite ?_ ?_
   | refine LeO.bind ?_ (fun _ => ?_)
set_option maxHeartbeats 8000000 in
set_option maxRecDepth 100000 in
theorem skip_Find.calls (k : Nat) (a0 : ByteArray) (A1 : Option Addr) (c1 : Nat) (l1 : List (S46)) (a2 : Int) (r1 : Int) (r2 : List (S48)) (r3 : Int) (w : World) (hr1 : Kd.C k46 w A1 l1.length l1) (hc1 : l1.length ≤ c1) (h : skip_Find.f k a0 l1 a2 = some (r1, r2, r3)) (hT0 : Tower.TabW w) :
  Calls Tryd.prog 24 #[.string a0, .slice A1 l1.length c1, .int .u64 a2] w fun e w' => ∃ v1_ : Value, e = .returned (.tuple #[.int .i64 r1, v1_, .int .i64 r3]) ∧ Kd.R k48 48 w' w.heap.size (fun _ => True) v1_ r2 ∧ Below w.heap.size w w' := by
 have HT := Aside0.mk hT0
 clear hT0
 have hu46 := Tryd.underlying46
 have hu48 := Tryd.underlying48
 have HR1 := Aside0.mk hr1
 have HC1 := Aside0.mk hc1
 clear hr1 hc1
 have HB := Aside0.mk (Below.refl w.heap.size w)
 have H : ((skip_Right.f k l1).bind fun t104 => (if t104 = true then (if 0 ≤ (l1.length : Int) then (if ((l1.length : Int) : Int).toNat ≤ 35184372088832 then (skip_Find.l0 k a0 l1 a2 (List.replicate ((l1.length : Int) : Int).toNat 0) l1 (l1.length : Int) 0) else (none)) else (none)) else (some (0, ([] : List (S48)), 1)))) = some (r1, r2, r3) := h
 clear h
 replace H := Option.bind_eq_some_iff.mp H
 obtain ⟨t104, A40, H⟩ := H
 (try dsimp only at H)
 have A4 := Aside0.mk A40
 clear A40
 by_cases c5 : t104 = true
 ·subst c5
  have H1 : (if 0 ≤ (l1.length : Int) then (if ((l1.length : Int) : Int).toNat ≤ 35184372088832 then (skip_Find.l0 k a0 l1 a2 (List.replicate ((l1.length : Int) : Int).toNat 0) l1 (l1.length : Int) 0) else (none)) else (none)) = some (r1, r2, r3) := by rw [if_pos rfl] at H; exact H
  clear H
  have H := H1
  clear H1
  by_cases c6 : 0 ≤ (l1.length : Int)
  ·rw [if_pos c6] at H
   have c6b0 := eq_true c6
   have c6b1 : decide (0 ≤ (l1.length : Int)) = true := decide_eq_true c6
   clear c6
   by_cases c7 : ((l1.length : Int) : Int).toNat ≤ 35184372088832
   ·rw [if_pos c7] at H
    have c7b0 := eq_true c7
    have c7b1 : decide (((l1.length : Int) : Int).toNat ≤ 35184372088832) = true := decide_eq_true c7
    clear c7
    obtain ⟨y105, hy105⟩ : ∃ y_ : List Int, y_ = (List.replicate ((l1.length : Int) : Int).toNat 0) := ⟨_, rfl⟩
    replace H : (skip_Find.l0 k a0 l1 a2 y105 l1 (l1.length : Int) 0) = some (r1, r2, r3) := by first | (rw [hy105]; with_reducible exact H) | (have H2_ := (Option.bind_some _ _).symm.trans H; rw [hy105]; with_reducible exact H2_) | (have H2_ := (Option.bind_some _ _).symm.trans H; with_reducible exact H2_) | with_reducible exact H | (rw [hy105]; exact H) | exact H
    have Ny105 := Aside0.mk hy105
    clear hy105
    have H' := Aside0.mk H
    clear H
    go_enter Tryd.func24, Tryd.ntmps24
    go_wp2_with (first | ((with_reducible refine gate_callee (f := 38) rfl ?_); refine goesL_ (some 17) rfl rfl Tryd.func38 (by kernel_rfl) rfl #[.slice A1 l1.length c1] rfl (by (try simp only [List.map_toArray, List.map_cons, List.map_nil]); first | done | rfl | (simp only [List.length_drop, List.length_take]; rfl)) ?_; (with_reducible refine (skip_Right.calls k _ _ l1 true _ ?side1 ?side2 A4.out).mono ?_); (case side1 => repeat (first | exact HR1.out | (with_reducible refine Kd.C_alloc ?_ _) | (with_reducible refine Kd.C_drewN ?_ _) | (with_reducible refine Kd.C_drew ?_))); (case side2 => exact HC1.out); rintro e w8 ⟨rfl, hb⟩; refine ⟨_, rfl, ?_⟩; have n0_ := Aside0.mk (below_step (by repeat (first | (with_reducible first | exact HB.out | apply below_alloc | apply pw_below_drewN | apply below_drew1) | exact HB.out)) hb); clear HB; have HB := n0_; clear n0_; (try clear hb); (try clear hb2); (try clear hk); (try clear hi)) | ((with_reducible refine gate_dst (N := 21) rfl ?_); refine Kd.R_make (Kd.int .i64) _ 3 rfl (N := 21) rfl 27 _ _ rfl (l1.length : Int) rfl rfl Tryd.underlying27 (.int .i64 0) 8 info3 rfl (by decide) (by omega) 0 (ok := fun _ => True) (okp := fun _ => True) rfl (fun _ hk => hk) trivial (of_decide_eq_true (by first | (with_reducible assumption) | assumption)) (Nat.le_trans (Nat.mul_le_mul_right _ (of_decide_eq_true (by first | (with_reducible assumption) | assumption) : (l1.length : Int).toNat ≤ 35184372088832)) (by omega)) (Below.refl _ _) (Nat.le_refl _) ?_; intro v106 w9 ho10 hb hg_ hnew_; clear hg_ hnew_; (first | rw [← Ny105.out] at ho10 | (simp only [Int.reduceToNat] at ho10; rw [← Ny105.out] at ho10)); have n0_ := Aside0.mk (Kd.R_lower ho10 (below_size (by repeat (first | (with_reducible first | exact HB.out | apply below_alloc | apply pw_below_drewN | apply below_drew1) | exact HB.out)))); have n1_ := Aside0.mk (below_step (by repeat (first | (with_reducible first | exact HB.out | apply below_alloc | apply pw_below_drewN | apply below_drew1) | exact HB.out)) hb); clear HB; have HO107 := n0_; have HB := n1_; clear n0_ n1_; clear hb ho10))
    go_loopg [24] k (fun kq v24 w' => ∃ (x9_1 : List Int) (x24_1 : Int), v24 = .int .i64 x24_1 ∧ Aside0 (skip_Find.l0 kq a0 l1 a2 x9_1 l1 (l1.length : Int) x24_1 = some (r1, r2, r3)) ∧ Aside0 (kq ≤ k) ∧ Aside0 (Kd.R (Kd.int .i64) 3 w' w.heap.size (fun _ => True) v106 x9_1) ∧ Aside0 (Below w.heap.size w w'))
    case atStart => exact ⟨(y105), (0), (by first | rfl | (simp; done) | (simp [*]; done)), H', ⟨Nat.le_refl _⟩, ⟨by (with_reducible repeat (first | apply Kd.R_alloc | apply Kd.R_drewN | apply Kd.R_drew)); exact HO107.out⟩, ⟨by repeat (first | (with_reducible first | exact HB.out | apply below_alloc | apply pw_below_drewN | apply below_drew1) | exact HB.out)⟩⟩
    case round =>
     clear H'
     try clear c1
     try clear c2
     try clear p2
     try clear c3
     try clear c5
     try clear c6
     try clear c6b0
     try clear c6b1
     try clear c7
     try clear c7b0
     try clear c7b1
     obtain ⟨x9_1, x24_1, rfl, HA, HK1, HO_9, HB⟩ := hrel
     cases gk with
     | zero => exact absurd HA.out (by simp [skip_Find.l0])
     | succ k1 =>
      have H := HA.out
      clear HA
      simp only [skip_Find.l0] at H
      by_cases c11 : x24_1 < (l1.length : Int)
      ·rw [if_pos c11] at H
       have c11b0 : decide (x24_1 < (l1.length : Int)) = true := decide_eq_true c11
       clear c11
       by_cases c12 : 0 ≤ x24_1
       ·rw [if_pos c12] at H
        have c12b0 : decide (0 ≤ x24_1) = true := decide_eq_true c12
        clear c12
        by_cases c13 : x24_1 < (l1.length : Int)
        ·rw [if_pos c13] at H
         have c13b0 : decide (x24_1 < (l1.length : Int)) = true := decide_eq_true c13
         clear c13
         replace H := Option.bind_eq_some_iff.mp H
         obtain ⟨t110, A140, H⟩ := H
         (try dsimp only at H)
         have A14 := Aside0.mk A140
         clear A140
         by_cases c15 : x24_1 < (x9_1.length : Int)
         ·rw [if_pos c15] at H
          have c15b0 : decide (x24_1 < (x9_1.length : Int)) = true := decide_eq_true c15
          clear c15
          obtain ⟨y111, hy111⟩ : ∃ y_ : List Int, y_ = (x9_1.set (x24_1 : Int).toNat t110) := ⟨_, rfl⟩
          replace H : (skip_Find.l0 k1 a0 l1 a2 y111 l1 (l1.length : Int) (wrap64 (x24_1 + 1))) = some (r1, r2, r3) := by first | (rw [hy111]; with_reducible exact H) | (have H2_ := (Option.bind_some _ _).symm.trans H; rw [hy111]; with_reducible exact H2_) | (have H2_ := (Option.bind_some _ _).symm.trans H; with_reducible exact H2_) | with_reducible exact H | (rw [hy111]; exact H) | exact H
          have Ny111 := Aside0.mk hy111
          clear hy111
          have H' := Aside0.mk H
          clear H
          have p108 : 0 ≤ (x24_1 : Int) := of_decide_eq_true (by first | (with_reducible assumption) | assumption)
          have q108 : x24_1 < (l1.length : Int) := of_decide_eq_true (by first | (with_reducible assumption) | assumption)
          obtain ⟨ad108, e108, hx108_0, hx108_1⟩ := at_T46 HR1.out x24_1 p108 q108
          cases e108
          replace hx108_0 := (HB.out.cell (World.block_lt_of_cell? w _ hx108_0)).trans hx108_0
          replace hx108_1 := (HB.out.cell (World.block_lt_of_cell? w _ hx108_1)).trans hx108_1
          replace p108 := eq_true p108
          replace q108 := eq_true q108
          go_wp2_with (first | ((with_reducible refine gate_dst (N := 11) rfl ?_); refine box_event ?hg (N := 11) ?hd (cs := #[.int .u64 0, .string (⟨#[]⟩ : ByteArray)]) (t := 46) ?hr ?_; (case hd => rfl); (case hg => rfl); (case hr => first | (go_simp; done) | (go_simp; rfl)); intro gb109 hg w17 hbox hb; have n0_ := Aside0.mk (Kd.R_below (by (with_reducible repeat (first | apply Kd.R_alloc | apply Kd.R_drewN | apply Kd.R_drew)); exact HO_9.out) hb); have n1_ := Aside0.mk (below_step (by repeat (first | (with_reducible first | exact HB.out | apply below_alloc | apply pw_below_drewN | apply below_drew1) | exact HB.out)) hb); have n2_ := Aside0.mk (hbox); have n3_ := Aside0.mk ((by rw [hg]; exact (below_size (by repeat (first | (with_reducible first | exact HB.out | apply below_alloc | apply pw_below_drewN | apply below_drew1) | exact HB.out))) : w.heap.size ≤ gb109)); have n4_ := Aside0.mk ((by rw [hg]; exact (below_size (by repeat (first | (with_reducible first | exact HB.out | apply below_alloc | apply pw_below_drewN | apply below_drew1) | exact HB.out))) : w.heap.size ≤ gb109)); clear HO_9; clear HB; have HO_9 := n0_; have HB := n1_; have BK109 := n2_; have GW109 := n3_; have GE109 := n4_; clear n0_ n1_ n2_ n3_ n4_; clear hb hbox hg; have hcz18_0 : w17.cell? ⟨gb109, 0, none⟩ = some (.int .u64 0) := (blk_cell BK109.out 0).trans rfl; have hcz18_1 : w17.cell? ⟨gb109, 1, none⟩ = some (.string (⟨#[]⟩ : ByteArray)) := (blk_cell BK109.out 1).trans rfl; have hfz18_0 := blk_frozen BK109.out 0; have hfz18_1 := blk_frozen BK109.out 1) | ((with_reducible refine gate_callee (f := 17) rfl ?_); refine goesL_ (some 34) rfl rfl Tryd.func17 (by kernel_rfl) rfl #[.string a0, .int .u64 ((rd_T46 l1 x24_1).f0)] rfl (by (try simp only [List.map_toArray, List.map_cons, List.map_nil]); first | done | rfl | (simp only [List.length_drop, List.length_take]; rfl)) ?_; (with_reducible refine (tower_Height.calls a0 ((rd_T46 l1 x24_1).f0) t110 _ A14.out (Tower.tab_below HT.out (by repeat (first | (with_reducible first | exact HB.out | apply below_alloc | apply pw_below_drewN | apply below_drew1 | refine below_set ?_ GE109.out) | exact HB.out)) (Nat.le_refl _))).mono ?_); rintro e w19 ⟨rfl, hb⟩; refine ⟨_, rfl, ?_⟩; have n0_ := Aside0.mk (Kd.R_below (by (with_reducible repeat (first | apply Kd.R_alloc | apply Kd.R_drewN | apply Kd.R_drew)); exact (Kd.R_mono (Kd.R_far (p := ⟨gb109, 1, none⟩) (Kd.R_far (p := ⟨gb109, 0, none⟩) (Kd.R_types HO_9.out BK109.out (by decide)) (fun _ hk => hk.2) (.int .u64 ((rd_T46 l1 x24_1).f0))) (fun _ hk => hk.2) (.string ((rd_T46 l1 x24_1).f1))) (fun _ h_ => h_.1))) hb); have n1_ := Aside0.mk (blk_below (g := gb109) (o := .cells #[.int .u64 ((rd_T46 l1 x24_1).f0), .string ((rd_T46 l1 x24_1).f1)] 46 (0, 0)) (by (with_reducible repeat (first | refine blk_drewN ?_ _ | refine blk_drew ?_ | refine blk_alloc ?_ _)); refine blk_put (cs := #[.int .u64 ((rd_T46 l1 x24_1).f0), .string (⟨#[]⟩ : ByteArray)]) ?_ 1 _ rfl; (with_reducible repeat (first | refine blk_drewN ?_ _ | refine blk_drew ?_ | refine blk_alloc ?_ _)); refine blk_put (cs := #[.int .u64 0, .string (⟨#[]⟩ : ByteArray)]) ?_ 0 _ rfl; (with_reducible repeat (first | refine blk_drewN ?_ _ | refine blk_drew ?_ | refine blk_alloc ?_ _)); exact BK109.out) hb); have n2_ := Aside0.mk (below_step (by repeat (first | (with_reducible first | exact HB.out | apply below_alloc | apply pw_below_drewN | apply below_drew1 | refine below_set ?_ GE109.out) | exact HB.out)) hb); clear HO_9; clear BK109; clear HB; have HO_9 := n0_; have BK109 := n1_; have HB := n2_; clear n0_ n1_ n2_; (try clear hb); (try clear hb2); (try clear hk); (try clear hi); have p16 : 0 ≤ (x24_1 : Int) := of_decide_eq_true (by first | (with_reducible assumption) | assumption); have q16 : (x24_1 : Int) < ((x9_1.length : Int) : Int) := of_decide_eq_true (by first | (with_reducible assumption) | assumption); obtain ⟨go16, co16, eo16, gb16, gl16, cl16, HG16⟩ := Kd.R_form HO_9.out (by omega); (first | cases eo16 | (injection eo16 with ea_ en_ ec_; (first | subst ea_ | (injection ea_ with ea_; subst ea_)); subst ec_; clear en_)); have GB16 := Aside0.mk gb16; have GG16 := Aside0.mk HG16; clear gb16 gl16 HG16; obtain ⟨hx16_0, hf16_0⟩ := Kd.R_celln 0 HO_9.out (x24_1 : Int) p16 q16; replace p16 := eq_true p16; replace q16 := eq_true q16; obtain ⟨hy20_, hz20_⟩ := Kd.R_celln 0 HO_9.out (x24_1 : Int) (of_decide_eq_true (by first | (with_reducible assumption) | assumption)) (of_decide_eq_true (by first | (with_reducible assumption) | assumption)); have HP20 := Kd.R_putg HO_9.out (x24_1 : Int) t110) | ((with_reducible refine gate_store (t := 3) (p := 35) rfl ?_); refine store_event (t := 3) (p := 35) (v := ?vo_w21) (w1 := (w19.setCell ⟨go16, (x24_1 : Int).toNat, none⟩ (.int .i64 t110))) ?hg ?ho ?hn ?hr ?_; (case ho => rfl); (case hg => rfl); (case hn => rfl); (case hr => first | (go_simp; done) | (go_simp; rfl)); intro w21 hw; have hg : w19.grownBy w21 (some go16) := (by rw [hw]; exact HP20.2); have hp_ : Kd.R (Kd.int .i64) 3 w21 w.heap.size (fun _ => True) (.slice (some ⟨go16, 0, none⟩) x9_1.length co16) y111 := (by rw [hw, Ny111.out]; exact HP20.1); clear HP20; have n0_ := Aside0.mk (hp_); have n1_ := Aside0.mk (blk_grown (g := gb109) (o := .cells #[.int .u64 ((rd_T46 l1 x24_1).f0), .string ((rd_T46 l1 x24_1).f1)] 46 (0, 0)) (by (with_reducible repeat (first | refine blk_drewN ?_ _ | refine blk_drew ?_ | refine blk_alloc ?_ _)); exact BK109.out) hg (Kd.R_ne HO_9.out BK109.out (by decide))); have n2_ := Aside0.mk ((by rw [hw]; exact below_set (HB.out) GB16.out : Below w.heap.size w w21)); clear HO_9; clear BK109; clear HB; have HO_9 := n0_; have BK109 := n1_; have HB := n2_; clear n0_ n1_ n2_; clear hg hw hp_))
          go_roundg k1
          case measure => have := HK1.out; omega
          case rel => exact ⟨(y111), (wrap64 (x24_1 + 1)), (by first | rfl | (simp; done) | (simp [*]; done)), H', ⟨by have := HK1.out; omega⟩, ⟨by (with_reducible repeat (first | apply Kd.R_alloc | apply Kd.R_drewN | apply Kd.R_drew)); exact HO_9.out⟩, ⟨by repeat (first | (with_reducible first | exact HB.out | apply below_alloc | apply pw_below_drewN | apply below_drew1 | refine below_set ?_ GE109.out) | exact HB.out)⟩⟩
         ·rw [if_neg c15] at H
          exact absurd H (by simp)
        ·rw [if_neg c13] at H
         exact absurd H (by simp)
       ·rw [if_neg c12] at H
        exact absurd H (by simp)
      ·rw [if_neg c11] at H
       have c11b0 : decide (x24_1 < (l1.length : Int)) = false := decide_eq_false c11
       clear c11
       have H' := Aside0.mk H
       clear H
       go_wp2
       go_loopg [12, 13, 14] k1 (fun kq v12 v13 v14 w' => ∃ (x12_2 : Int) (x13_2 : List (S48)) (x14_2 : Int), v12 = .int .i64 x12_2 ∧ v14 = .int .i64 x14_2 ∧ Aside0 (skip_Find.l1 kq l1 a2 x9_1 x12_2 x13_2 x14_2 = some (r1, r2, r3)) ∧ Aside0 (kq ≤ k1) ∧ Aside0 (Kd.R (Kd.int .i64) 3 w' w.heap.size (fun _ => True) v106 x9_1) ∧ Aside0 (Kd.R k48 48 w' w.heap.size (fun _ => True) v13 x13_2) ∧ Aside0 (Below w.heap.size w w'))
       case atStart => exact ⟨((-1)), (([] : List (S48))), (7), (by first | rfl | (simp; done) | (simp [*]; done)), (by first | rfl | (simp; done) | (simp [*]; done)), H', ⟨Nat.le_refl _⟩, ⟨by (with_reducible repeat (first | apply Kd.R_alloc | apply Kd.R_drewN | apply Kd.R_drew)); exact HO_9.out⟩, ⟨by first | exact Kd.R_nil _ _ _ _ _ | exact Kd.N_nil _ _ _ _ _ | exact Kd.V_nil _ _ _ _ _ | exact Kd.Q_nil _ _ _ _ _ | exact Kd.S_nil _ _ _ _ _⟩, ⟨by repeat (first | (with_reducible first | exact HB.out | apply below_alloc | apply pw_below_drewN | apply below_drew1) | exact HB.out)⟩⟩
       case round =>
        clear H'
        try clear c1
        try clear p1
        try clear q1
        try clear hx1
        try clear c2
        try clear p2
        try clear c3
        try clear c5
        try clear c6
        try clear c6b0
        try clear c6b1
        try clear p6
        try clear c7
        try clear c7b0
        try clear c7b1
        try clear p10
        try clear q10
        try clear hx10
        try clear c11
        try clear c11b0
        try clear c12
        try clear c12b0
        try clear c13
        try clear c13b0
        try clear c15
        try clear c15b0
        try clear p16
        try clear q16
        try clear hx16
        try clear hf16
        try clear c17
        try clear hcz18_0
        try clear hcz18_1
        try clear hfz18_0
        try clear hfz18_1
        try clear hx108_0
        try clear hx108_1
        try clear hx16_0
        try clear p108
        try clear p16
        try clear p2
        try clear q108
        try clear q16
        obtain ⟨x12_2, x13_2, x14_2, rfl, rfl, HA, HK2, HO_9, HO_13, HB⟩ := hrel
        cases gk with
        | zero => exact absurd HA.out (by simp [skip_Find.l1])
        | succ k2 =>
         have H := HA.out
         clear HA
         simp only [skip_Find.l1] at H
         by_cases c22 : x14_2 ≥ 0
         ·rw [if_pos c22] at H
          have c22b0 : decide (0 ≤ x14_2) = true := decide_eq_true c22
          clear c22
          have H' := Aside0.mk H
          clear H
          go_wp2
          go_loopg [15] k2 (fun kq v15 w' => ∃ (x15_3 : Int), v15 = .int .i64 x15_3 ∧ Aside0 (skip_Find.l2 kq l1 a2 x9_1 x12_2 x13_2 x14_2 x15_3 = some (r1, r2, r3)) ∧ Aside0 (kq ≤ k2) ∧ Aside0 (Kd.R (Kd.int .i64) 3 w' w.heap.size (fun _ => True) v106 x9_1) ∧ Aside0 (Kd.R k48 48 w' w.heap.size (fun _ => True) u13 x13_2) ∧ Aside0 (Below w.heap.size w w'))
          case atStart => exact ⟨(wrap64 (x12_2 + 1)), (by first | rfl | (simp; done) | (simp [*]; done)), H', ⟨Nat.le_refl _⟩, ⟨by (with_reducible repeat (first | apply Kd.R_alloc | apply Kd.R_drewN | apply Kd.R_drew)); exact HO_9.out⟩, ⟨by (with_reducible repeat (first | apply Kd.R_alloc | apply Kd.R_drewN | apply Kd.R_drew)); exact HO_13.out⟩, ⟨by repeat (first | (with_reducible first | exact HB.out | apply below_alloc | apply pw_below_drewN | apply below_drew1) | exact HB.out)⟩⟩
          case round =>
           clear H'
           try clear c1
           try clear p1
           try clear q1
           try clear hx1
           try clear c2
           try clear p2
           try clear c3
           try clear c5
           try clear c6
           try clear c6b0
           try clear c6b1
           try clear p6
           try clear c7
           try clear c7b0
           try clear c7b1
           try clear p10
           try clear q10
           try clear hx10
           try clear c11
           try clear c11b0
           try clear c12
           try clear c12b0
           try clear c13
           try clear c13b0
           try clear c15
           try clear c15b0
           try clear p16
           try clear q16
           try clear hx16
           try clear hf16
           try clear c17
           try clear c22
           try clear c22b0
           try clear hcz18_0
           try clear hcz18_1
           try clear hfz18_0
           try clear hfz18_1
           try clear hx108_0
           try clear hx108_1
           try clear hx16_0
           try clear p1
           try clear p10
           try clear p108
           try clear p16
           try clear p2
           try clear p6
           try clear q1
           try clear q10
           try clear q108
           try clear q16
           obtain ⟨x15_3, rfl, HA, HK3, HO_9, HO_13, HB⟩ := hrel
           cases gk with
           | zero => exact absurd HA.out (by simp [skip_Find.l2])
           | succ k3 =>
            have H := HA.out
            clear HA
            simp only [skip_Find.l2] at H
            by_cases c23 : x15_3 < (l1.length : Int)
            ·rw [if_pos c23] at H
             have c23b0 : decide (x15_3 < (l1.length : Int)) = true := decide_eq_true c23
             clear c23
             by_cases c24 : 0 ≤ x15_3
             ·rw [if_pos c24] at H
              have c24b0 : decide (0 ≤ x15_3) = true := decide_eq_true c24
              clear c24
              by_cases c25 : x15_3 < (x9_1.length : Int)
              ·rw [if_pos c25] at H
               have c25b0 : decide (x15_3 < (x9_1.length : Int)) = true := decide_eq_true c25
               clear c25
               by_cases c26 : (rd x9_1 x15_3) ≤ x14_2
               ·rw [if_pos c26] at H
                have c26b0 : decide ((rd x9_1 x15_3) ≤ x14_2) = true := decide_eq_true c26
                clear c26
                have H' := Aside0.mk H
                clear H
                obtain ⟨Ao27, co27, eo27⟩ := Kd.R_slice HO_9.out
                subst eo27
                have p112 : 0 ≤ (x15_3 : Int) := of_decide_eq_true (by first | (with_reducible assumption) | assumption)
                have q112 : x15_3 < (x9_1.length : Int) := of_decide_eq_true (by first | (with_reducible assumption) | assumption)
                obtain ⟨ad112, e112, hx112_0⟩ := Kd.at_int (Kd.R_reads' HO_9.out).2.2 x15_3 p112 q112
                cases e112
                replace p112 := eq_true p112
                replace q112 := eq_true q112
                go_wp2
                go_roundg k3
                case measure => have := HK1.out; have := HK2.out; have := HK3.out; omega
                case rel => exact ⟨(wrap64 (x15_3 + 1)), (by first | rfl | (simp; done) | (simp [*]; done)), H', ⟨by have := HK1.out; have := HK2.out; have := HK3.out; omega⟩, ⟨by (with_reducible repeat (first | apply Kd.R_alloc | apply Kd.R_drewN | apply Kd.R_drew)); exact HO_9.out⟩, ⟨by (with_reducible repeat (first | apply Kd.R_alloc | apply Kd.R_drewN | apply Kd.R_drew)); exact HO_13.out⟩, ⟨by repeat (first | (with_reducible first | exact HB.out | apply below_alloc | apply pw_below_drewN | apply below_drew1) | exact HB.out)⟩⟩
               ·rw [if_neg c26] at H
                have c26b0 : decide ((rd x9_1 x15_3) ≤ x14_2) = false := decide_eq_false c26
                clear c26
                by_cases c28 : x15_3 = (l1.length : Int)
                ·rw [if_pos c28] at H
                 have c28b0 : (x15_3 == (l1.length : Int)) = true := beq_iff_eq.mpr c28
                 have c28b1 : (x15_3 != (l1.length : Int)) = false := bne_eq_false_iff_eq.mpr c28
                 clear c28
                 have H' := Aside0.mk H
                 clear H
                 obtain ⟨Ao29, co29, eo29⟩ := Kd.R_slice HO_9.out
                 subst eo29
                 have p112 : 0 ≤ (x15_3 : Int) := of_decide_eq_true (by first | (with_reducible assumption) | assumption)
                 have q112 : x15_3 < (x9_1.length : Int) := of_decide_eq_true (by first | (with_reducible assumption) | assumption)
                 obtain ⟨ad112, e112, hx112_0⟩ := Kd.at_int (Kd.R_reads' HO_9.out).2.2 x15_3 p112 q112
                 cases e112
                 replace p112 := eq_true p112
                 replace q112 := eq_true q112
                 go_wp2
                 go_roundg k3
                 case measure => have := HK1.out; have := HK2.out; have := HK3.out; omega
                 case rel => exact ⟨(x12_2), (x13_2), (wrap64 (x14_2 - 1)), (by first | rfl | (simp; done) | (simp [*]; done)), (by first | rfl | (simp; done) | (simp [*]; done)), H', ⟨by have := HK1.out; have := HK2.out; have := HK3.out; omega⟩, ⟨by (with_reducible repeat (first | apply Kd.R_alloc | apply Kd.R_drewN | apply Kd.R_drew)); exact HO_9.out⟩, ⟨by (with_reducible repeat (first | apply Kd.R_alloc | apply Kd.R_drewN | apply Kd.R_drew)); exact HO_13.out⟩, ⟨by repeat (first | (with_reducible first | exact HB.out | apply below_alloc | apply pw_below_drewN | apply below_drew1) | exact HB.out)⟩⟩
                ·rw [if_neg c28] at H
                 have c28b0 : (x15_3 == (l1.length : Int)) = false := beq_eq_false_iff_ne.mpr c28
                 have c28b1 : (x15_3 != (l1.length : Int)) = true := bne_iff_ne.mpr c28
                 by_cases c30 : ((rd_T46 l1 x15_3).f0) > a2
                 ·rw [if_pos c30] at H
                  have c30b0 : decide (a2 < ((rd_T46 l1 x15_3).f0)) = true := decide_eq_true c30
                  clear c30
                  have H' := Aside0.mk H
                  clear H
                  obtain ⟨Ao31, co31, eo31⟩ := Kd.R_slice HO_9.out
                  subst eo31
                  have p112 : 0 ≤ (x15_3 : Int) := of_decide_eq_true (by first | (with_reducible assumption) | assumption)
                  have q112 : x15_3 < (x9_1.length : Int) := of_decide_eq_true (by first | (with_reducible assumption) | assumption)
                  obtain ⟨ad112, e112, hx112_0⟩ := Kd.at_int (Kd.R_reads' HO_9.out).2.2 x15_3 p112 q112
                  cases e112
                  replace p112 := eq_true p112
                  replace q112 := eq_true q112
                  have p113 : 0 ≤ (x15_3 : Int) := of_decide_eq_true (by first | (with_reducible assumption) | assumption)
                  have q113 : x15_3 < (l1.length : Int) := of_decide_eq_true (by first | (with_reducible assumption) | assumption)
                  obtain ⟨ad113, e113, hx113_0, hx113_1⟩ := at_T46 HR1.out x15_3 p113 q113
                  cases e113
                  replace hx113_0 := (HB.out.cell (World.block_lt_of_cell? w _ hx113_0)).trans hx113_0
                  replace hx113_1 := (HB.out.cell (World.block_lt_of_cell? w _ hx113_1)).trans hx113_1
                  replace p113 := eq_true p113
                  replace q113 := eq_true q113
                  go_wp2
                  go_roundg k3
                  case measure => have := HK1.out; have := HK2.out; have := HK3.out; omega
                  case rel => exact ⟨(x12_2), (x13_2), (wrap64 (x14_2 - 1)), (by first | rfl | (simp; done) | (simp [*]; done)), (by first | rfl | (simp; done) | (simp [*]; done)), H', ⟨by have := HK1.out; have := HK2.out; have := HK3.out; omega⟩, ⟨by (with_reducible repeat (first | apply Kd.R_alloc | apply Kd.R_drewN | apply Kd.R_drew)); exact HO_9.out⟩, ⟨by (with_reducible repeat (first | apply Kd.R_alloc | apply Kd.R_drewN | apply Kd.R_drew)); exact HO_13.out⟩, ⟨by repeat (first | (with_reducible first | exact HB.out | apply below_alloc | apply pw_below_drewN | apply below_drew1) | exact HB.out)⟩⟩
                 ·rw [if_neg c30] at H
                  have c30b0 : decide (a2 < ((rd_T46 l1 x15_3).f0)) = false := decide_eq_false c30
                  clear c30
                  by_cases c32 : x13_2.length < 8796093022208
                  ·rw [if_pos c32] at H
                   have LMc32 := Aside0.mk c32
                   clear c32
                   obtain ⟨y114, hy114⟩ : ∃ y_ : List (S48), y_ = (x13_2 ++ [(⟨x14_2, x15_3⟩ : S48)]) := ⟨_, rfl⟩
                   replace H : (skip_Find.l1 k3 l1 a2 x9_1 x15_3 y114 x14_2) = some (r1, r2, r3) := by first | (rw [hy114]; with_reducible exact H) | (have H2_ := (Option.bind_some _ _).symm.trans H; rw [hy114]; with_reducible exact H2_) | (have H2_ := (Option.bind_some _ _).symm.trans H; with_reducible exact H2_) | with_reducible exact H | (rw [hy114]; exact H) | exact H
                   have Ny114 := Aside0.mk hy114
                   clear hy114
                   have H' := Aside0.mk H
                   clear H
                   obtain ⟨Ao33, co33, eo33⟩ := Kd.R_slice HO_9.out
                   subst eo33
                   have p112 : 0 ≤ (x15_3 : Int) := of_decide_eq_true (by first | (with_reducible assumption) | assumption)
                   have q112 : x15_3 < (x9_1.length : Int) := of_decide_eq_true (by first | (with_reducible assumption) | assumption)
                   obtain ⟨ad112, e112, hx112_0⟩ := Kd.at_int (Kd.R_reads' HO_9.out).2.2 x15_3 p112 q112
                   cases e112
                   replace p112 := eq_true p112
                   replace q112 := eq_true q112
                   have p113 : 0 ≤ (x15_3 : Int) := of_decide_eq_true (by first | (with_reducible assumption) | assumption)
                   have q113 : x15_3 < (l1.length : Int) := of_decide_eq_true (by first | (with_reducible assumption) | assumption)
                   obtain ⟨ad113, e113, hx113_0, hx113_1⟩ := at_T46 HR1.out x15_3 p113 q113
                   cases e113
                   replace hx113_0 := (HB.out.cell (World.block_lt_of_cell? w _ hx113_0)).trans hx113_0
                   replace hx113_1 := (HB.out.cell (World.block_lt_of_cell? w _ hx113_1)).trans hx113_1
                   replace p113 := eq_true p113
                   replace q113 := eq_true q113
                   go_wp2_with (first | ((with_reducible refine gate_builtin (b := .append) (xs := #[.tmp 71, .tmp 75]) rfl ?_); at_builtin; refine Kd.R_append k48 (w0 := w) w.heap.size rfl (.tmp 71) (.tmp 75) 37 48 (.agg #[(.int .i64 0), (.int .i64 0)]) 16 rfl Tryd.underlying37 info48 rfl (by decide) (by omega) u13 x13_2 (⟨x14_2, x15_3⟩ : S48) [.int .i64 x14_2, .int .i64 x15_3] (fun _ => True) (fun _ => False) rfl rfl ?aP (fun _ hk => hk.elim) ?aF ?aO ?aB ?aS ?aL ?_; (case aP => exact k48_mkM _ _ _ (⟨x14_2, x15_3⟩ : S48)); (case aB => exact (by repeat (first | (with_reducible first | exact HB.out | apply below_alloc | apply pw_below_drewN | apply below_drew1) | exact HB.out))); (case aF => exact (fun _ _ => trivial)); (case aO => exact (by (with_reducible repeat (first | apply Kd.R_alloc | apply Kd.R_drewN | apply Kd.R_drew)); exact HO_13.out)); (case aS => exact (below_size (by repeat (first | (with_reducible first | exact HB.out | apply below_alloc | apply pw_below_drewN | apply below_drew1) | exact HB.out)))); (case aL => have := LMc32.out; omega); intro v115 w34 ho hb hg hat; rw [← Ny114.out] at ho; have n0_ := Aside0.mk (Kd.R_over' (by (with_reducible repeat (first | apply Kd.R_alloc | apply Kd.R_drewN | apply Kd.R_drew)); exact HO_9.out) (Kd.R_typed (by (with_reducible repeat (first | apply Kd.R_alloc | apply Kd.R_drewN | apply Kd.R_drew)); exact HO_13.out)) (by decide) hg); have n1_ := Aside0.mk (hb); have n2_ := Aside0.mk (ho); clear HO_9; clear HB; clear HO_13; have HO_9 := n0_; have HB := n1_; have HO116 := n2_; clear n0_ n1_ n2_; clear ho hb hg hat))
                   go_roundg k3
                   case measure => have := HK1.out; have := HK2.out; have := HK3.out; omega
                   case rel => exact ⟨(x15_3), (y114), (x14_2), (by first | rfl | (simp; done) | (simp [*]; done)), (by first | rfl | (simp; done) | (simp [*]; done)), H', ⟨by have := HK1.out; have := HK2.out; have := HK3.out; omega⟩, ⟨by (with_reducible repeat (first | apply Kd.R_alloc | apply Kd.R_drewN | apply Kd.R_drew)); exact HO_9.out⟩, ⟨by (with_reducible repeat (first | apply Kd.R_alloc | apply Kd.R_drewN | apply Kd.R_drew)); exact HO116.out⟩, ⟨by repeat (first | (with_reducible first | exact HB.out | apply below_alloc | apply pw_below_drewN | apply below_drew1) | exact HB.out)⟩⟩
                  ·rw [if_neg c32] at H
                   exact absurd H (by simp)
              ·rw [if_neg c25] at H
               exact absurd H (by simp)
             ·rw [if_neg c24] at H
              exact absurd H (by simp)
            ·rw [if_neg c23] at H
             have c23b0 : decide (x15_3 < (l1.length : Int)) = false := decide_eq_false c23
             clear c23
             by_cases c35 : x15_3 = (l1.length : Int)
             ·rw [if_pos c35] at H
              have c35b0 : (x15_3 == (l1.length : Int)) = true := beq_iff_eq.mpr c35
              have c35b1 : (x15_3 != (l1.length : Int)) = false := bne_eq_false_iff_eq.mpr c35
              clear c35
              have H' := Aside0.mk H
              clear H
              go_wp2
              go_roundg k3
              case measure => have := HK1.out; have := HK2.out; have := HK3.out; omega
              case rel => exact ⟨(x12_2), (x13_2), (wrap64 (x14_2 - 1)), (by first | rfl | (simp; done) | (simp [*]; done)), (by first | rfl | (simp; done) | (simp [*]; done)), H', ⟨by have := HK1.out; have := HK2.out; have := HK3.out; omega⟩, ⟨by (with_reducible repeat (first | apply Kd.R_alloc | apply Kd.R_drewN | apply Kd.R_drew)); exact HO_9.out⟩, ⟨by (with_reducible repeat (first | apply Kd.R_alloc | apply Kd.R_drewN | apply Kd.R_drew)); exact HO_13.out⟩, ⟨by repeat (first | (with_reducible first | exact HB.out | apply below_alloc | apply pw_below_drewN | apply below_drew1) | exact HB.out)⟩⟩
             ·rw [if_neg c35] at H
              have c35b0 : (x15_3 == (l1.length : Int)) = false := beq_eq_false_iff_ne.mpr c35
              have c35b1 : (x15_3 != (l1.length : Int)) = true := bne_iff_ne.mpr c35
              by_cases c36 : 0 ≤ x15_3
              ·rw [if_pos c36] at H
               exact absurd H (by simp)
              ·rw [if_neg c36] at H
               exact absurd H (by simp)
         ·rw [if_neg c22] at H
          have c22b0 : decide (0 ≤ x14_2) = false := decide_eq_false c22
          clear c22
          by_cases c37 : x12_2 < 0
          ·rw [if_pos c37] at H
           have c37b0 : decide (x12_2 < 0) = true := decide_eq_true c37
           clear c37
           simp only [Option.some.injEq, Prod.mk.injEq] at H
           obtain ⟨rfl, rfl, rfl⟩ := H
           go_wp2
           go_ret3
           exact ⟨_, by first | rfl | (simp [errW_none, errW_some] <;> rfl) | (simp [*, errW_none, errW_some] <;> rfl), by first | exact Kd.R_nil _ _ _ _ _ | exact Kd.N_nil _ _ _ _ _ | exact Kd.V_nil _ _ _ _ _ | exact Kd.Q_nil _ _ _ _ _ | exact Kd.S_nil _ _ _ _ _, by repeat (first | (with_reducible first | exact HB.out | apply below_alloc | apply pw_below_drewN | apply below_drew1) | exact HB.out)⟩
          ·rw [if_neg c37] at H
           have c37b0 : decide (x12_2 < 0) = false := decide_eq_false c37
           clear c37
           simp only [Option.some.injEq, Prod.mk.injEq] at H
           obtain ⟨rfl, rfl, rfl⟩ := H
           go_wp2
           go_ret3
           exact ⟨_, by first | rfl | (simp [errW_none, errW_some] <;> rfl) | (simp [*, errW_none, errW_some] <;> rfl), by (with_reducible repeat (first | apply Kd.R_alloc | apply Kd.R_drewN | apply Kd.R_drew)); exact HO_13.out, by repeat (first | (with_reducible first | exact HB.out | apply below_alloc | apply pw_below_drewN | apply below_drew1) | exact HB.out)⟩
   ·rw [if_neg c7] at H
    exact absurd H (by simp)
  ·rw [if_neg c6] at H
   exact absurd H (by simp)
 ·replace c5 := Bool.eq_false_iff.mpr c5
  subst c5
  have H1 : (some (0, ([] : List (S48)), 1)) = some (r1, r2, r3) := by rw [if_neg (show ¬ (false = true) by decide)] at H; exact H
  clear H
  have H := H1
  clear H1
  simp only [Option.some.injEq, Prod.mk.injEq] at H
  obtain ⟨rfl, rfl, rfl⟩ := H
  go_enter Tryd.func24, Tryd.ntmps24
  go_wp2_with (first | ((with_reducible refine gate_callee (f := 38) rfl ?_); refine goesL_ (some 17) rfl rfl Tryd.func38 (by kernel_rfl) rfl #[.slice A1 l1.length c1] rfl (by (try simp only [List.map_toArray, List.map_cons, List.map_nil]); first | done | rfl | (simp only [List.length_drop, List.length_take]; rfl)) ?_; (with_reducible refine (skip_Right.calls k _ _ l1 false _ ?side1 ?side2 A4.out).mono ?_); (case side1 => repeat (first | exact HR1.out | (with_reducible refine Kd.C_alloc ?_ _) | (with_reducible refine Kd.C_drewN ?_ _) | (with_reducible refine Kd.C_drew ?_))); (case side2 => exact HC1.out); rintro e w38 ⟨rfl, hb⟩; refine ⟨_, rfl, ?_⟩; have n0_ := Aside0.mk (below_step (by repeat (first | (with_reducible first | exact HB.out | apply below_alloc | apply pw_below_drewN | apply below_drew1) | exact HB.out)) hb); clear HB; have HB := n0_; clear n0_; (try clear hb); (try clear hb2); (try clear hk); (try clear hi)))
  go_ret3
  exact ⟨_, by first | rfl | (simp [errW_none, errW_some] <;> rfl) | (simp [*, errW_none, errW_some] <;> rfl), by first | exact Kd.R_nil _ _ _ _ _ | exact Kd.N_nil _ _ _ _ _ | exact Kd.V_nil _ _ _ _ _ | exact Kd.Q_nil _ _ _ _ _ | exact Kd.S_nil _ _ _ _ _, by repeat (first | (with_reducible first | exact HB.out | apply below_alloc | apply pw_below_drewN | apply below_drew1) | exact HB.out)⟩
end Go.Proofs.YtolbhliepkcihaaDoor.QSF
end
section
namespace Go.Proofs.YtolbhliepkcihaaDoor.Skip
open Go.RowKit Go.Proofs.YtolbhliepkcihaaDoor.Kinds Go.Proofs.YtolbhliepkcihaaDoor.QSF Go.Proofs.YtolbhliepkcihaaDoorW.PrintWords Go.Proofs.YtolbhliepkcihaaDoorW.PrintLast Go.Proofs.YtolbhliepkcihaaDoorW.PrintMore Go.Proofs.YtolbhliepkcihaaDoor.Sha Go.Proofs.YtolbhliepkcihaaDoor.Mac Go.Proofs.YtolbhliepkcihaaDoor.Codec Go.Proofs.YtolbhliepkcihaaDoor.Tower
def cmpI (a b : Int) : Int := if a < b then -1 else if b < a then 1 else 0
theorem nan_any (a : Int) (w : World) : Calls Tryd.prog 128 #[.int .u64 a] w fun e w' => e = .returned (.bool false) ∧ w' = w := by
 go_enter Tryd.func128, Tryd.ntmps128
 go_wp2
 go_ret
 exact ⟨by simp, rfl⟩
set_option maxRecDepth 100000 in
theorem cmp_any (a b : Int) (w : World) : Calls Tryd.prog 106 #[.int .u64 a, .int .u64 b] w fun e w' => e = .returned (.int .i64 (cmpI a b)) ∧ w' = w := by
 have H1 := nan_any a
 have H2 := nan_any b
 unfold cmpI
 by_cases h1 : a < b
 ·rw [if_pos h1]
  go_enter Tryd.func106, Tryd.ntmps106
  go_wp2_with (first | (go_at_call 128; refine (H1 _).mono ?_; rintro e w1 ⟨rfl, rfl⟩) | (go_at_call 128; refine (H2 _).mono ?_; rintro e w1 ⟨rfl, rfl⟩))
  go_ret
  exact ⟨rfl, rfl⟩
 ·rw [if_neg h1]
  have d1 : decide (a < b) = false := decide_eq_false h1
  by_cases h2 : b < a
  ·rw [if_pos h2]
   go_enter Tryd.func106, Tryd.ntmps106
   go_wp2_with (first | (go_at_call 128; refine (H1 _).mono ?_; rintro e w1 ⟨rfl, rfl⟩) | (go_at_call 128; refine (H2 _).mono ?_; rintro e w1 ⟨rfl, rfl⟩))
   go_ret
   exact ⟨rfl, rfl⟩
  ·rw [if_neg h2]
   have d2 : decide (b < a) = false := decide_eq_false h2
   go_enter Tryd.func106, Tryd.ntmps106
   go_wp2_with (first | (go_at_call 128; refine (H1 _).mono ?_; rintro e w1 ⟨rfl, rfl⟩) | (go_at_call 128; refine (H2 _).mono ?_; rintro e w1 ⟨rfl, rfl⟩))
   go_ret
   exact ⟨rfl, rfl⟩
theorem item_cmp (a : Int) (s : ByteArray) (q : Int) (w : World) : Calls Tryd.prog 105 #[.agg #[.int .u64 a, .string s], .int .u64 q] w fun e w' => e = .returned (.int .i64 (cmpI a q)) ∧ Below w.heap.size w w' := by
 have H := cmp_any a q
 go_enter Tryd.func105, Tryd.ntmps105
 go_wp2_with (go_at_call 106; refine (H _).mono ?_; rintro e w1 ⟨rfl, rfl⟩)
 go_ret
 exact ⟨rfl, below_alloc (Below.refl _ _) _⟩
def bsI (l : List S46) (q : Int) : Nat → Nat → Nat → Nat
 | 0, i, _ => i
 | f + 1, i, j => if i < j then (if (rd_T46 l (((i + j) / 2 : Nat) : Int)).f0 < q then bsI l q f ((i + j) / 2 + 1) j else bsI l q f i ((i + j) / 2)) else i
theorem bsI_le (l : List S46) (q : Int) (n : Nat) : ∀ f i j, i ≤ j → j ≤ n → bsI l q f i j ≤ n
 | 0, i, j, h1, h2 => by show i ≤ n; omega
 | f + 1, i, j, h1, h2 => by
  unfold bsI
  split
  ·split
   ·exact bsI_le l q n f _ _ (by omega) h2
   ·exact bsI_le l q n f _ _ (by omega) (by omega)
  ·omega
def placeN (l : List S46) (q : Int) : Nat := bsI l q l.length 0 l.length
def placeIs (l : List S46) (q : Int) : Bool := decide (placeN l q < l.length ∧ (rd_T46 l (placeN l q : Int)).f0 = q)
theorem placeN_le (l : List S46) (q : Int) : placeN l q ≤ l.length := bsI_le l q _ _ _ _ (by omega) (Nat.le_refl _)
set_option maxRecDepth 100000 in
set_option maxHeartbeats 4000000 in
theorem search_any (A0 : Option Addr) (c0 : Nat) (l : List S46) (q : Int) (w : World) (hr0 : Kd.C k46 w A0 l.length l) (hc0 : l.length ≤ c0) (hn : l.length ≤ 1000000000) :
  Calls Tryd.prog 104 #[.slice A0 l.length c0, .int .u64 q, .func (.func 105) #[] #[]] w fun e w' =>
   e = .returned (.tuple #[.int .i64 (placeN l q : Nat), .bool (placeIs l q)]) ∧ Below w.heap.size w w' := by
 have hu46 := Tryd.underlying46
 have HR0 := Aside0.mk hr0
 have HC0 := Aside0.mk hc0
 clear hr0 hc0
 have HB := Aside0.mk (Below.refl w.heap.size w)
 go_enter Tryd.func104, Tryd.ntmps104
 go_wp2
 go_loopw [9, 10] (fun iv jv wr => ∃ i j f : Nat, iv = .int .i64 i ∧ jv = .int .i64 j ∧ Aside0 (i ≤ j ∧ j ≤ l.length ∧ j - i ≤ f ∧ bsI l q f i j = placeN l q) ∧ Aside0 (Below w.heap.size w wr)) (fun iv jv _ => (intOf jv).toNat - (intOf iv).toNat)
 case atStart => exact ⟨0, l.length, l.length, rfl, rfl, ⟨by omega, Nat.le_refl _, by omega, rfl⟩, HB⟩
 case round =>
  obtain ⟨i, j, f, rfl, rfl, HA, HB⟩ := hrel
  by_cases hlt : i < j
  ·go_upto_region 5 with (fail)
   have hjl : j ≤ l.length := HA.out.2.1
   have hm : wrap64 (IntKind.u64.wrap (wrap64 ((i : Int) + (j : Int))) / 2) = (((i + j) / 2 : Nat) : Int) := by
    rw [IntKind.wrap_u64]
    unfold wrap64
    omega
   obtain ⟨x, hx⟩ : ∃ x : Int, wrap64 (IntKind.u64.wrap (wrap64 ((i : Int) + (j : Int))) / 2) = x := ⟨_, rfl⟩
   rw [hx] at hm ⊢
   have hxn : x = (((i + j) / 2 : Nat) : Int) := hm
   clear hx hm
   have hil : i ≤ (i + j) / 2 := by omega
   have hhj : (i + j) / 2 < j := by omega
   have p1 : (0 : Int) ≤ x := by omega
   have q1 : x < (l.length : Int) := by omega
   obtain ⟨ad, e1, hx0, hx1⟩ := at_T46 HR0.out x p1 q1
   cases e1
   replace hx0 := (HB.out.cell (World.block_lt_of_cell? w _ hx0)).trans hx0
   replace hx1 := (HB.out.cell (World.block_lt_of_cell? w _ hx1)).trans hx1
   have hw1 : wrap64 (x + 1) = (((i + j) / 2 + 1 : Nat) : Int) := by unfold wrap64; omega
   have HC := Lib.hid (item_cmp (rd_T46 l x).f0 (rd_T46 l x).f1 q)
   have HXN := Aside0.mk hxn
   clear hxn hil hhj hjl
   by_cases hk : (rd_T46 l x).f0 < q
   ·have hc : decide (cmpI (rd_T46 l x).f0 q < 0) = true := by unfold cmpI; rw [if_pos hk]; rfl
    go_wp2_with (go_at_call 105; refine (HC.out _).mono ?_; rintro e w1 ⟨rfl, hb1⟩; replace HB := Aside0.mk (below_step HB.out hb1); clear hb1)
    obtain ⟨g1, g2, g3, g4⟩ := HA.out
    have hxn := HXN.out
    obtain ⟨f, rfl⟩ : ∃ m, f = m + 1 := ⟨f - 1, by omega⟩
    unfold bsI at g4
    rw [if_pos hlt, ← hxn, if_pos hk] at g4
    refine ⟨⟨(i + j) / 2 + 1, j, f, by rw [hxn]; rfl, rfl, ⟨by omega, g2, by omega, g4⟩, HB⟩, ?_⟩
    rw [hxn]
    simp [intOf]
    omega
   ·have hc : decide (cmpI (rd_T46 l x).f0 q < 0) = false := by
     unfold cmpI
     rw [if_neg hk]
     split <;> rfl
    go_wp2_with (go_at_call 105; refine (HC.out _).mono ?_; rintro e w1 ⟨rfl, hb1⟩; replace HB := Aside0.mk (below_step HB.out hb1); clear hb1)
    obtain ⟨g1, g2, g3, g4⟩ := HA.out
    have hxn := HXN.out
    obtain ⟨f, rfl⟩ : ∃ m, f = m + 1 := ⟨f - 1, by omega⟩
    unfold bsI at g4
    rw [if_pos hlt, ← hxn, if_neg (by omega)] at g4
    refine ⟨⟨i, (i + j) / 2, f, rfl, by rw [hxn], ⟨by omega, by omega, by omega, g4⟩, HB⟩, ?_⟩
    rw [hxn]
    simp [intOf]
    omega
  ·obtain ⟨g1, g2, g3, g4⟩ := HA.out
   obtain rfl : i = j := by omega
   have e0 : bsI l q f i i = i := by
    cases f with
    | zero => rfl
    | succ f => unfold bsI; rw [if_neg (by omega)]
   rw [e0] at g4
   have hres : placeIs l q = decide (i < l.length ∧ (rd_T46 l (i : Int)).f0 = q) := by unfold placeIs; rw [← g4]
   have h4 : ((placeN l q : Nat) : Int) = (i : Int) := by rw [← g4]
   have HP := Aside0.mk h4
   have HQ := Aside0.mk hres
   have dij : decide ((i : Int) < (i : Int)) = false := decide_eq_false (by omega)
   clear g1 g3 g4 h4 e0 hres hlt HA
   by_cases hin : i < l.length
   ·obtain ⟨x, hx⟩ : ∃ x : Int, (i : Int) = x := ⟨_, rfl⟩
    have p1 : (0 : Int) ≤ x := by omega
    have q1 : x < (l.length : Int) := by omega
    rw [hx]
    rw [hx] at HP HQ dij
    obtain ⟨ad, e1, hx0, hx1⟩ := at_T46 HR0.out x p1 q1
    cases e1
    replace hx0 := (HB.out.cell (World.block_lt_of_cell? w _ hx0)).trans hx0
    replace hx1 := (HB.out.cell (World.block_lt_of_cell? w _ hx1)).trans hx1
    have HC := Lib.hid (item_cmp (rd_T46 l x).f0 (rd_T46 l x).f1 q)
    have dn : decide (x < (l.length : Int)) = true := decide_eq_true q1
    have hfin : (cmpI (rd_T46 l x).f0 q == 0) = decide (i < l.length ∧ (rd_T46 l x).f0 = q) := by
     unfold cmpI
     by_cases h1 : (rd_T46 l x).f0 < q
     ·rw [if_pos h1, decide_eq_false (fun y => by omega)]
      rfl
     ·rw [if_neg h1]
      by_cases h2 : q < (rd_T46 l x).f0
      ·rw [if_pos h2, decide_eq_false (fun y => by omega)]
       rfl
      ·rw [if_neg h2, decide_eq_true ⟨hin, by omega⟩]
       rfl
    rw [← hfin] at HQ
    have HX := Aside0.mk hx
    clear hx hin hfin
    go_wp2_with (go_at_call 105; refine (HC.out _).mono ?_; rintro e w1 ⟨rfl, hb1⟩; replace HB := Aside0.mk (below_step HB.out hb1); clear hb1)
    go_ret2
    exact ⟨by rw [HP.out, HQ.out]; rfl, HB.out⟩
   ·have dn : decide ((i : Int) < (l.length : Int)) = false := decide_eq_false (by omega)
    have dn2 : decide (i < l.length) = false := decide_eq_false hin
    rw [decide_eq_false (fun y : i < l.length ∧ _ => hin y.1)] at HQ
    clear hin g2
    go_wp2
    go_ret2
    exact ⟨by rw [HP.out, HQ.out]; rfl, HB.out⟩
theorem place_any (A0 : Option Addr) (c0 : Nat) (l : List S46) (q : Int) (w : World) (hr0 : Kd.C k46 w A0 l.length l) (hc0 : l.length ≤ c0) (hn : l.length ≤ 1000000000) :
  Calls Tryd.prog 71 #[.slice A0 l.length c0, .int .u64 q] w fun e w' => e = .returned (.tuple #[.int .i64 (placeN l q : Nat), .bool (placeIs l q)]) ∧ Below w.heap.size w w' := by
 have H := Lib.hid (search_any A0 c0 l q w hr0 hc0 hn)
 go_enter Tryd.func71, Tryd.ntmps71
 go_wp2_with (go_at_call 104; refine (H.out).mono ?_; rintro e w1 ⟨rfl, hb1⟩)
 go_ret2
 exact ⟨rfl, hb1⟩
end Go.Proofs.YtolbhliepkcihaaDoor.Skip
end
section
namespace Go.Proofs.YtolbhliepkcihaaDoor.Skip
open Go.RowKit Go.Proofs.YtolbhliepkcihaaDoor.Kinds Go.Proofs.YtolbhliepkcihaaDoor.QSF Go.Proofs.YtolbhliepkcihaaDoorW.PrintWords Go.Proofs.YtolbhliepkcihaaDoorW.PrintLast Go.Proofs.YtolbhliepkcihaaDoorW.PrintMore Go.Proofs.YtolbhliepkcihaaDoor.Sha Go.Proofs.YtolbhliepkcihaaDoor.Mac Go.Proofs.YtolbhliepkcihaaDoor.Codec Go.Proofs.YtolbhliepkcihaaDoor.Tower
/-! ### items as cells -/
def cell2 (x : S46) : List Value := [.int .u64 x.f0, .string x.f1]
def flat (l : List S46) : List Value := l.flatMap cell2
theorem flat_cons (x : S46) (l : List S46) : flat (x :: l) = [.int .u64 x.f0, .string x.f1] ++ flat l := rfl
theorem flat_app (l m : List S46) : flat (l ++ m) = flat l ++ flat m := List.flatMap_append ..
theorem flat_len (l : List S46) : (flat l).length = l.length * 2 := by
 induction l with
 | nil => rfl
 | cons x l ih => rw [flat_cons, List.length_append, ih]; simp; omega
theorem flat_one (l : List S46) : ∀ u ∈ flat l, u.oneCell' = true := by
 induction l with
 | nil => intro u hu; cases hu
 | cons x l ih =>
  intro u hu
  rw [flat_cons] at hu
  rcases List.mem_append.1 hu with h | h
  ·simp only [List.mem_cons, List.mem_nil_iff, or_false] at h
   rcases h with rfl | rfl <;> rfl
  ·exact ih u h
theorem flat_at (l : List S46) : ∀ j p, l[j]? = some p → ((flat l).drop (j * 2)).take 2 = [.int .u64 p.f0, .string p.f1] := by
 induction l with
 | nil => intro j p h; simp at h
 | cons x l ih =>
  intro j p h
  cases j with
  | zero =>
   obtain rfl := Option.some.inj h
   rfl
  | succ j =>
   rw [flat_cons, show (j + 1) * 2 = 2 + j * 2 by omega, ← List.drop_drop]
   exact ih j p (by simpa using h)
theorem flat_get (l : List S46) (i : Nat) (h : i < l.length) : (flat l)[i * 2]? = some (.int .u64 l[i].f0) ∧ (flat l)[i * 2 + 1]? = some (.string l[i].f1) := by
 have e := flat_at l i l[i] (List.getElem?_eq_getElem h)
 have h0 : ((flat l).drop (i * 2))[0]? = some (.int .u64 l[i].f0) := by
  have := congrArg (fun x : List Value => x[0]?) e
  simpa [List.getElem?_take] using this
 have h1 : ((flat l).drop (i * 2))[1]? = some (.string l[i].f1) := by
  have := congrArg (fun x : List Value => x[1]?) e
  simpa [List.getElem?_take] using this
 rw [List.getElem?_drop] at h0 h1
 exact ⟨by simpa using h0, h1⟩
theorem flat_cells {w : World} {ad : Addr} {l : List S46} (h : Kd.C k46 w (some ad) l.length l) : ∀ j u, (flat l)[j]? = some u → w.cell? (ad.add j) = some u := by
 intro j u hu
 have hj : j < (flat l).length := (List.getElem?_eq_some_iff.1 hu).1
 rw [flat_len] at hj
 have hi : j / 2 < l.length := by omega
 obtain ⟨ad', c, e, _, hK, hc0⟩ := Kd.C_get h z46 ((j / 2 : Nat) : Int) (by omega) (by omega)
 obtain rfl := Option.some.inj e
 have hc : ∀ i u, c[i]? = some u → w.cell? (ad.add (((j / 2 : Nat) : Int).toNat * 2 + i)) = some u := hc0
 obtain rfl := k46_open hK
 have h0 := hc 0 _ rfl
 have h1 := hc 1 _ rfl
 have er : l.getD ((j / 2 : Nat) : Int).toNat z46 = l[j / 2] := by rw [Int.toNat_natCast, List.getD_eq_getElem?_getD, List.getElem?_eq_getElem hi]; rfl
 rw [er, Int.toNat_natCast] at h0 h1
 obtain ⟨f0, f1⟩ := flat_get l (j / 2) hi
 by_cases hp : j % 2 = 0
 ·have ej : j = j / 2 * 2 := by omega
  rw [ej] at hu ⊢
  rw [f0] at hu
  obtain rfl := Option.some.inj hu
  exact h0
 ·have ej : j = j / 2 * 2 + 1 := by omega
  rw [ej] at hu ⊢
  rw [f1] at hu
  obtain rfl := Option.some.inj hu
  exact h1
theorem own_row {w : World} {base : Nat} {v : Value} {xs : List S46} (h : w.ownsRow base 46 2 v xs.length (flat xs)) : Kd.R k46 46 w base (fun _ => True) v xs :=
 ⟨fun _ _ => trivial, flat xs, h, flat_len xs, fun j p hp => by
  have e := flat_at xs j p hp
  show k46.M _ _ _ p (((flat xs).drop (j * 2)).take 2)
  rw [e]
  exact k46_mkM _ _ _ p⟩
theorem cut3 (A : Option Addr) (n c : Nat) (j : Int) (h0 : 0 ≤ j) (hm : j ≤ n) (hc : n ≤ c) :
  ∀ W : World, (Instr.slice 36 (.slice A n c) none (some (.int .i64 j)) (some (.int .i64 j))).run Tryd.prog W = .ok (.slice A j.toNat j.toNat) W := by
 intro W
 have ht := Tryd.underlying36
 have hel : Tryd.prog.elem 36 = 46 := by simp [Program.elem, ht]
 have hu : Tryd.prog.underlying 36 = some (.slice (Tryd.prog.elem 36)) := by rw [hel]; exact ht
 have ha : (A.map fun x => x.add 0) = A := by cases A <;> simp [Addr.add]
 have hs : ∀ w, (sizeOf 46).run Tryd.prog w = .ok 2 w := fun w => by kernel_rfl
 rw [run_slice_hm W 36 A n c hu .i64 .i64 j j h0 (Int.le_refl _) (by omega), hel, hs]
 simp [sliced, Result.andThen, ha]
theorem flat_take (l : List S46) (i : Nat) : ∀ (j : Nat) (u : Value), (flat (l.take i))[j]? = some u → (flat l)[j]? = some u := fun j u hu => by
 have hj := (List.getElem?_eq_some_iff.1 hu).1
 conv => lhs; rw [← List.take_append_drop i l, flat_app]
 rw [List.getElem?_append_left hj]
 exact hu
theorem flat_drop (l : List S46) (i : Nat) (hi : i ≤ l.length) : ∀ (j : Nat) (u : Value), (flat (l.drop i))[j]? = some u → (flat l)[i * 2 + j]? = some u := fun j u hu => by
 have hz : (flat (l.take i)).length = i * 2 := by rw [flat_len, List.length_take, Nat.min_eq_left hi]
 conv => lhs; rw [← List.take_append_drop i l, flat_app]
 rw [List.getElem?_append_right (by omega), hz, Nat.add_sub_cancel_left]
 exact hu
theorem add_two (ad : Addr) (a b : Nat) : (ad.add a).add b = ad.add (a + b) := Addr.add_add ad a b
theorem own_mono3 {w : World} {b b' : Nat} {e : TypeId} {size n : Nat} {v : Value} {xs : List Value} (h : w.ownsRow b e size v n xs) (hb : b' ≤ b) : w.ownsRow b' e size v n xs :=
 ⟨h.1, h.2.imp id fun ⟨g, cap, cur, e1, e2, r⟩ => ⟨g, cap, cur, e1, Nat.le_trans hb e2, r⟩⟩
/-! ### skip.Drop -/
theorem item_info : (Tryd.prog.info? 46).map (fun i => (i.zero, i.size, i.bytes)) = some (some (.agg #[.int .u64 0, .string ⟨#[]⟩]), 2, 24) := by kernel_rfl
set_option maxRecDepth 100000 in
set_option maxHeartbeats 4000000 in
theorem drop_grow (ad : Addr) (c0 : Nat) (l : List S46) (q : Int) (k : Nat) (w : World) (hr0 : Kd.C k46 w (some ad) l.length l) (hc0 : l.length ≤ c0) (hn : l.length ≤ 100000) (hR : skip_Right.f k l = some true) (his : placeIs l q = true) (hlt : placeN l q + 1 < l.length) :
  Calls Tryd.prog 37 #[.slice (some ad) l.length c0, .int .u64 q] w fun e w' => ∃ v, e = .returned (.tuple #[v, .int .i64 0]) ∧ Kd.R k46 46 w' w.heap.size (fun _ => True) v (l.take (placeN l q) ++ l.drop (placeN l q + 1)) ∧ Below w.heap.size w w' := by
 obtain ⟨i0, hi, hz, hs, hb⟩ := info_parts item_info
 have HP := Lib.hid (place_any (some ad) c0 l q w hr0 hc0 (by omega))
 have HQ := Lib.hid (fun W (hW : Below w.heap.size w W) => skip_Right.calls k (some ad) c0 l true W (Kd.C_below hr0 hW) hc0 hR)
 rw [his] at HP
 have HC := Lib.hid hr0
 clear hr0
 generalize placeN l q = i at *
 have HB := Aside0.mk (Below.refl w.heap.size w)
 have hcut := cut3 (some ad) l.length c0 (i : Int) (by omega) (by omega) hc0
 have hcut2 := cut_from (P := Tryd.prog) 36 46 .i64 Tryd.underlying36 hi 2 hs (some ad) l.length c0 ((i : Int) + 1) (by omega) (by omega)
 rw [show ((i : Int) + 1).toNat = i + 1 by omega, if_neg (by omega)] at hcut2
 rw [Int.toNat_natCast] at hcut
 go_enter Tryd.func37, Tryd.ntmps37
 go_wp2_with (first | (go_at_call 71; refine (HP.out).mono ?_; rintro e w1 ⟨rfl, hb1⟩; replace HB := Aside0.mk (below_step HB.out hb1); clear hb1) | (go_at_call 38; refine (HQ.out _ HB.out).mono ?_; rintro e w1 ⟨rfl, hb1⟩; replace HB := Aside0.mk (below_step HB.out hb1); clear hb1))
 have HW := Aside0.mk (Kd.C_below HC.out HB.out)
 have hz1 : (flat (l.take i)).length = i * 2 := by rw [flat_len, List.length_take, Nat.min_eq_left (by omega)]
 have hz2 : (flat (l.drop (i + 1))).length = (l.length - (i + 1)) * 2 := by rw [flat_len, List.length_drop]
 have hold : Hid (∀ b, some ad = some b → ∀ j u, (flat (l.take i))[j]? = some u → w1.cell? (b.add j) = some u) := Lib.hid fun b hb j u hu => by
  obtain rfl := Option.some.inj hb
  exact flat_cells HW.out j u (flat_take l i j u hu)
 have hnew : Hid (∀ j u, (flat (l.drop (i + 1)))[j]? = some u → w1.cell? ((ad.add ((i + 1) * 2)).add j) = some u) := Lib.hid fun j u hu => by
  rw [add_two]
  exact flat_cells HW.out _ u (flat_drop l (i + 1) (by omega) j u hu)
 have h1 : Hid (∀ u ∈ flat (l.drop (i + 1)), u.oneCell' = true) := Lib.hid (flat_one _)
 have hfull : i < i + (l.length - (i + 1)) := by omega
 have hb1 : i + (l.length - (i + 1)) ≤ maxLen := by simp only [maxLen]; omega
 have hb2 : (i + (l.length - (i + 1))) * 24 ≤ 140737488355328 := by omega
 have hwr : IntKind.i64.wrap ((i : Int) + 1) = (i : Int) + 1 := by rw [IntKind.wrap_i64]; omega
 have hp0 : (0 : Int) ≤ (i : Int) + 1 := by omega
 have hp1 : (i : Int) + 1 ≤ (l.length : Int) := by omega
 have hp2 : ((i : Int) + 1).toNat = i + 1 := by omega
 have hp3 : ¬ c0 = i + 1 := by omega
 go_region_law (refine step_append_grows rfl (.tmp 24) (.tmp 28) 36 rfl 46 i0 (.agg #[.int .u64 0, .string ⟨#[]⟩]) 2 24 Tryd.underlying36 hi hz hs hb rfl (by decide) (some ad) i i (flat (l.take i)) (by simp [Act.eval, Act.put]) (fun h => by cases h) hz1 hold.out (ad.add ((i + 1) * 2)) (l.length - (i + 1)) (c0 - (i + 1)) (flat (l.drop (i + 1))) (by simp [Act.eval, Act.put]) hz2 hnew.out h1.out hfull hb1 hb2 ?_; intro v' w' hown hgrow)
 have hlen : (l.take i ++ l.drop (i + 1)).length = i + (l.length - (i + 1)) := by rw [List.length_append, List.length_take, List.length_drop, Nat.min_eq_left (by omega)]
 have hfl : flat (l.take i ++ l.drop (i + 1)) = flat (l.take i) ++ flat (l.drop (i + 1)) := flat_app _ _
 all_goals go_wp2
 all_goals go_ret2
 all_goals exact ⟨v', rfl, own_row (by rw [hlen, hfl]; exact own_mono3 hown HB.out.size), (below_drew HB.out).grown hgrow HB.out.size (fun k e => by cases e)⟩
theorem step_append_nothing {P : Program} {ops : Array Oper} {o : Oper} {a : Act} {w : World} {K : Act → World → Prop} {Q : Exit → Act → World → Prop} {E : Prop}
  (hg : o.guard = none) (s x : Operand) (t : TypeId) (hop : o.op = Op.call { callee := Callee.builtin Builtin.append, args := #[s, x], argTypes := #[t, t] })
  (e : TypeId) (i : TypeInfo) (h1 : P.underlying t = some (.slice e)) (h2 : P.info? e = some i) (ao : Option Addr) (n cap : Nat) (hs : a.eval s = .slice ao n cap) (hle : n ≤ cap)
  (xv : Value) (hx : a.eval x = xv) (hsrc : Src P i.size t xv 0 [] w) (hK : K (a.put o.dst (.slice ao n cap)) w) :
  if Region.wanted o (yielded ops a.tmps) = true then Oper.wp P o a w K Q else E := by
 have hw : Region.wanted o (yielded ops a.tmps) = true := by simp [Region.wanted, hg]
 rw [if_pos hw]
 have hrun := run_append_nothing (P := P) w t t o.type e i h1 h2 ao n cap hle xv hsrc
 unfold Oper.wp
 simp [execOp, hop, resolve, invoke, builtin, hs, hx, hrun, Result.andThen]
 exact hK
theorem src_nothing (ao : Option Addr) (c : Nat) (w : World) (z : Nat) : Src Tryd.prog z 36 (.slice ao 0 c) 0 [] w := by
 cases ao with
 | none => exact Src.ofNil w Tryd.underlying36 c
 | some a => exact Src.ofSlice w Tryd.underlying36 a 0 c [] (by simp) (fun j u h => by simp at h) (fun u h => by cases h)
set_option maxRecDepth 100000 in
set_option maxHeartbeats 4000000 in
theorem drop_last (ad : Addr) (c0 : Nat) (l : List S46) (q : Int) (k : Nat) (w : World) (hr0 : Kd.C k46 w (some ad) l.length l) (hc0 : l.length ≤ c0) (hn : l.length ≤ 100000) (hR : skip_Right.f k l = some true) (his : placeIs l q = true) (hlt : placeN l q + 1 = l.length) :
  Calls Tryd.prog 37 #[.slice (some ad) l.length c0, .int .u64 q] w fun e w' => e = .returned (.tuple #[.slice (some ad) (placeN l q) (placeN l q), .int .i64 0]) ∧ Below w.heap.size w w' := by
 obtain ⟨i0, hi, hz, hs, hb⟩ := info_parts item_info
 have HP := Lib.hid (place_any (some ad) c0 l q w hr0 hc0 (by omega))
 have HQ := Lib.hid (fun W (hW : Below w.heap.size w W) => skip_Right.calls k (some ad) c0 l true W (Kd.C_below hr0 hW) hc0 hR)
 rw [his] at HP
 clear hr0
 generalize placeN l q = i at *
 have HB := Aside0.mk (Below.refl w.heap.size w)
 go_enter Tryd.func37, Tryd.ntmps37
 go_wp2_with (first | (go_at_call 71; refine (HP.out).mono ?_; rintro e w1 ⟨rfl, hb1⟩; replace HB := Aside0.mk (below_step HB.out hb1); clear hb1) | (go_at_call 38; refine (HQ.out _ HB.out).mono ?_; rintro e w1 ⟨rfl, hb1⟩; replace HB := Aside0.mk (below_step HB.out hb1); clear hb1))
 have hwr : IntKind.i64.wrap ((i : Int) + 1) = (i : Int) + 1 := by rw [IntKind.wrap_i64]; omega
 have hp0 : (0 : Int) ≤ (i : Int) + 1 := by omega
 have hp1 : (i : Int) + 1 ≤ (l.length : Int) := by omega
 have hp2 : ((i : Int) + 1).toNat = i + 1 := by omega
 have hp4 : l.length - (i + 1) = 0 := by omega
 have hp5 : i ≤ c0 := by omega
 have HL := Aside0.mk hlt
 clear hlt
 go_region_law (refine step_append_nothing rfl (.tmp 24) (.tmp 28) 36 rfl 46 i0 Tryd.underlying36 hi (some ad) i i (by simp [Act.eval, Act.put]) (Nat.le_refl _) (.slice (if c0 = i + 1 then some ad else some (ad.add ((i + 1) * 2))) 0 (c0 - (i + 1))) (by simp [Act.eval, Act.put, hp4]) (src_nothing _ _ _ _) ?_)
 all_goals go_wp2
 all_goals go_ret2
 all_goals exact ⟨rfl, below_drew HB.out⟩
theorem drop_none (A0 : Option Addr) (c0 : Nat) (l : List S46) (q : Int) (k : Nat) (w : World) (hr0 : Kd.C k46 w A0 l.length l) (hc0 : l.length ≤ c0) (hn : l.length ≤ 100000) (hR : skip_Right.f k l = some true) (his : placeIs l q = false) :
  Calls Tryd.prog 37 #[.slice A0 l.length c0, .int .u64 q] w fun e w' => e = .returned (.tuple #[.slice none 0 0, .int .i64 3]) ∧ Below w.heap.size w w' := by
 have HP := Lib.hid (place_any A0 c0 l q w hr0 hc0 (by omega))
 have HQ := Lib.hid (fun W (hW : Below w.heap.size w W) => skip_Right.calls k A0 c0 l true W (Kd.C_below hr0 hW) hc0 hR)
 rw [his] at HP
 clear hr0
 generalize placeN l q = i at *
 have HB := Aside0.mk (Below.refl w.heap.size w)
 go_enter Tryd.func37, Tryd.ntmps37
 go_wp2_with (first | (go_at_call 71; refine (HP.out).mono ?_; rintro e w1 ⟨rfl, hb1⟩; replace HB := Aside0.mk (below_step HB.out hb1); clear hb1) | (go_at_call 38; refine (HQ.out _ HB.out).mono ?_; rintro e w1 ⟨rfl, hb1⟩; replace HB := Aside0.mk (below_step HB.out hb1); clear hb1))
 go_ret2
 exact ⟨rfl, HB.out⟩
theorem drop_bad (A0 : Option Addr) (c0 : Nat) (l : List S46) (q : Int) (k : Nat) (w : World) (hr0 : Kd.C k46 w A0 l.length l) (hc0 : l.length ≤ c0) (hn : l.length ≤ 100000) (hR : skip_Right.f k l = some false) :
  Calls Tryd.prog 37 #[.slice A0 l.length c0, .int .u64 q] w fun e w' => e = .returned (.tuple #[.slice none 0 0, .int .i64 1]) ∧ Below w.heap.size w w' := by
 have HP := Lib.hid (place_any A0 c0 l q w hr0 hc0 (by omega))
 have HQ := Lib.hid (fun W (hW : Below w.heap.size w W) => skip_Right.calls k A0 c0 l false W (Kd.C_below hr0 hW) hc0 hR)
 clear hr0
 generalize placeN l q = i at *
 generalize placeIs l q = b at *
 have HB := Aside0.mk (Below.refl w.heap.size w)
 go_enter Tryd.func37, Tryd.ntmps37
 go_wp2_with (first | (go_at_call 71; refine (HP.out).mono ?_; rintro e w1 ⟨rfl, hb1⟩; replace HB := Aside0.mk (below_step HB.out hb1); clear hb1) | (go_at_call 38; refine (HQ.out _ HB.out).mono ?_; rintro e w1 ⟨rfl, hb1⟩; replace HB := Aside0.mk (below_step HB.out hb1); clear hb1))
 go_ret2
 exact ⟨rfl, HB.out⟩
end Go.Proofs.YtolbhliepkcihaaDoor.Skip
end
section
namespace Go.Proofs.YtolbhliepkcihaaDoor.Skip
open Go.RowKit Go.Proofs.YtolbhliepkcihaaDoor.Kinds Go.Proofs.YtolbhliepkcihaaDoor.QSF Go.Proofs.YtolbhliepkcihaaDoorW.PrintWords Go.Proofs.YtolbhliepkcihaaDoorW.PrintLast Go.Proofs.YtolbhliepkcihaaDoorW.PrintMore Go.Proofs.YtolbhliepkcihaaDoor.Sha Go.Proofs.YtolbhliepkcihaaDoor.Mac Go.Proofs.YtolbhliepkcihaaDoor.Codec Go.Proofs.YtolbhliepkcihaaDoor.Tower
theorem step_append_own2 {P : Program} {ops : Array Oper} {o : Oper} {a : Act} {w : World} {K : Act → World → Prop} {Q : Exit → Act → World → Prop} {E : Prop}
  (hg : o.guard = none) (s x : Operand) (t : TypeId) (hop : o.op = Op.call { callee := Callee.builtin Builtin.append, args := #[s, x], argTypes := #[t, t] })
  (base : Nat) (e : TypeId) (i : TypeInfo) (z : Value) (size bytes : Nat) (h1 : P.underlying t = some (.slice e)) (h2 : P.info? e = some i) (h3 : i.zero = some z) (h4 : i.size = size) (h5 : i.bytes = bytes) (h6 : z.cells.size = size) (h7 : 0 < size)
  (v : Value) (n : Nat) (xs : List Value) (hs : a.eval s = v) (hown : w.ownsRow base e size v n xs)
  (ad : Addr) (m c : Nat) (news : List Value) (hx : a.eval x = .slice (some ad) m c) (hn : news.length = m * size) (hc : ∀ j u, news[j]? = some u → w.cell? (ad.add j) = some u) (h1c : ∀ u ∈ news, u.oneCell' = true)
  (b1 : n + m ≤ maxLen) (b2 : (n + m) * bytes ≤ 140737488355328) (hbase : base ≤ w.heap.size)
  (hK : ∀ v' w', w'.ownsRow base e size v' (n + m) (xs ++ news) → w.grownBy w' v.ownBlock → K (a.put o.dst v') w') :
  if Region.wanted o (yielded ops a.tmps) = true then Oper.wp P o a w K Q else E := by
 have hw : Region.wanted o (yielded ops a.tmps) = true := by simp [Region.wanted, hg]
 rw [if_pos hw]
 obtain ⟨v', w', hrun, r1, r2, _⟩ := run_append_own (P := P) w base t o.type e i z size bytes h1 h2 h3 h4 h5 h6 h7 v n xs hown ad m c news hn hc h1c b1 b2 hbase
 unfold Oper.wp
 simp [execOp, hop, resolve, invoke, builtin, hs, hx, hrun, Result.andThen]
 exact hK v' w' r1 r2
theorem own_succ2 {W : World} {base : Nat} {e : TypeId} {size : Nat} {v : Value} {k : Nat} {xs : List Value} (h : W.ownsRow base e size v (k + 1) xs) : ∃ g cap, v = .slice (some ⟨g, 0, none⟩) (k + 1) cap ∧ k + 1 ≤ cap := by
 rcases h.2 with ⟨_, h0⟩ | ⟨g, cap, cur, rfl, _, _, hc, _⟩
 ·omega
 ·exact ⟨g, cap, rfl, hc⟩
theorem two_new (W : World) (a : Int) (s : ByteArray) : ∀ (j : Nat) (u : Value), [Value.int .u64 a, Value.string s][j]? = some u → (W.alloc (.cells #[.int .u64 a, .string s] 46)).cell? ((⟨W.heap.size, 0, none⟩ : Addr).add j) = some u := by
 intro j u h
 have hb := World.alloc_heap_new W (.cells #[.int .u64 a, .string s] 46)
 rw [Addr.add_lit, Nat.zero_add, blk_cell hb j]
 simpa using h
set_option maxRecDepth 100000 in
set_option maxHeartbeats 4000000 in
theorem put_bad (A0 : Option Addr) (c0 : Nat) (l : List S46) (x : S46) (k : Nat) (w : World) (hr0 : Kd.C k46 w A0 l.length l) (hc0 : l.length ≤ c0) (hn : l.length ≤ 100000) (hR : skip_Right.f k l = some false) :
  Calls Tryd.prog 36 #[.slice A0 l.length c0, .agg #[.int .u64 x.f0, .string x.f1]] w fun e w' => e = .returned (.tuple #[.slice none 0 0, .int .i64 1]) ∧ Below w.heap.size w w' := by
 have HP := Lib.hid (fun W (hW : Below w.heap.size w W) => place_any A0 c0 l x.f0 W (Kd.C_below hr0 hW) hc0 (by omega))
 have HQ := Lib.hid (fun W (hW : Below w.heap.size w W) => skip_Right.calls k A0 c0 l false W (Kd.C_below hr0 hW) hc0 hR)
 clear hr0
 generalize placeN l x.f0 = i at *
 generalize placeIs l x.f0 = b at *
 have HB := Aside0.mk (below_alloc (Below.refl w.heap.size w) (.cells #[.int .u64 x.f0, .string x.f1] 46))
 have X0 := Aside0.mk (two_new w x.f0 x.f1 0 _ rfl)
 have X1 := Aside0.mk (two_new w x.f0 x.f1 1 _ rfl)
 simp only [Addr.add_lit] at X0 X1
 go_enter Tryd.func36, Tryd.ntmps36
 go_wp2_with (first | (go_at_call 71; refine (HP.out _ (below_step (below_alloc (Below.refl _ _) _) (Below.refl _ _))).mono ?_; rintro e w1 ⟨rfl, hb1⟩; replace X0 := Aside0.mk ((hb1.cell (World.block_lt_of_cell? _ _ X0.out)).trans X0.out); replace X1 := Aside0.mk ((hb1.cell (World.block_lt_of_cell? _ _ X1.out)).trans X1.out); (try clear hx0 hx1); have hx0 := X0.out; have hx1 := X1.out; replace HB := Aside0.mk (below_step HB.out hb1); clear hb1) | (go_at_call 38; refine (HQ.out _ HB.out).mono ?_; rintro e w1 ⟨rfl, hb1⟩; replace X0 := Aside0.mk ((hb1.cell (World.block_lt_of_cell? _ _ X0.out)).trans X0.out); replace X1 := Aside0.mk ((hb1.cell (World.block_lt_of_cell? _ _ X1.out)).trans X1.out); (try clear hx0 hx1); have hx0 := X0.out; have hx1 := X1.out; replace HB := Aside0.mk (below_step HB.out hb1); clear hb1))
 go_ret2
 exact ⟨rfl, HB.out⟩
set_option maxRecDepth 100000 in
set_option maxHeartbeats 4000000 in
theorem put_size (A0 : Option Addr) (c0 : Nat) (l : List S46) (x : S46) (k : Nat) (w : World) (hr0 : Kd.C k46 w A0 l.length l) (hc0 : l.length ≤ c0) (hn : l.length ≤ 100000) (hR : skip_Right.f k l = some true) (hz : 64 < x.f1.size) :
  Calls Tryd.prog 36 #[.slice A0 l.length c0, .agg #[.int .u64 x.f0, .string x.f1]] w fun e w' => e = .returned (.tuple #[.slice none 0 0, .int .i64 4]) ∧ Below w.heap.size w w' := by
 have HP := Lib.hid (fun W (hW : Below w.heap.size w W) => place_any A0 c0 l x.f0 W (Kd.C_below hr0 hW) hc0 (by omega))
 have HQ := Lib.hid (fun W (hW : Below w.heap.size w W) => skip_Right.calls k A0 c0 l true W (Kd.C_below hr0 hW) hc0 hR)
 clear hr0
 generalize placeN l x.f0 = i at *
 generalize placeIs l x.f0 = b at *
 have hz2 : decide (64 < (x.f1.size : Int)) = true := decide_eq_true (by omega)
 have hz3 : decide (64 < x.f1.size) = true := decide_eq_true hz
 have HB := Aside0.mk (below_alloc (Below.refl w.heap.size w) (.cells #[.int .u64 x.f0, .string x.f1] 46))
 have X0 := Aside0.mk (two_new w x.f0 x.f1 0 _ rfl)
 have X1 := Aside0.mk (two_new w x.f0 x.f1 1 _ rfl)
 simp only [Addr.add_lit] at X0 X1
 go_enter Tryd.func36, Tryd.ntmps36
 go_wp2_with (first | (go_at_call 71; refine (HP.out _ (below_step (below_alloc (Below.refl _ _) _) (Below.refl _ _))).mono ?_; rintro e w1 ⟨rfl, hb1⟩; replace X0 := Aside0.mk ((hb1.cell (World.block_lt_of_cell? _ _ X0.out)).trans X0.out); replace X1 := Aside0.mk ((hb1.cell (World.block_lt_of_cell? _ _ X1.out)).trans X1.out); (try clear hx0 hx1); have hx0 := X0.out; have hx1 := X1.out; replace HB := Aside0.mk (below_step HB.out hb1); clear hb1) | (go_at_call 38; refine (HQ.out _ HB.out).mono ?_; rintro e w1 ⟨rfl, hb1⟩; replace X0 := Aside0.mk ((hb1.cell (World.block_lt_of_cell? _ _ X0.out)).trans X0.out); replace X1 := Aside0.mk ((hb1.cell (World.block_lt_of_cell? _ _ X1.out)).trans X1.out); (try clear hx0 hx1); have hx0 := X0.out; have hx1 := X1.out; replace HB := Aside0.mk (below_step HB.out hb1); clear hb1))
 go_ret2
 exact ⟨rfl, HB.out⟩
set_option maxRecDepth 100000 in
set_option maxHeartbeats 4000000 in
theorem put_space (A0 : Option Addr) (c0 : Nat) (l : List S46) (x : S46) (k : Nat) (w : World) (hr0 : Kd.C k46 w A0 l.length l) (hc0 : l.length ≤ c0) (hn : l.length ≤ 100000) (hR : skip_Right.f k l = some true) (hz : ¬64 < x.f1.size) (his : placeIs l x.f0 = false) (h64 : l.length = 64) :
  Calls Tryd.prog 36 #[.slice A0 l.length c0, .agg #[.int .u64 x.f0, .string x.f1]] w fun e w' => e = .returned (.tuple #[.slice none 0 0, .int .i64 6]) ∧ Below w.heap.size w w' := by
 have HP := Lib.hid (fun W (hW : Below w.heap.size w W) => place_any A0 c0 l x.f0 W (Kd.C_below hr0 hW) hc0 (by omega))
 have HQ := Lib.hid (fun W (hW : Below w.heap.size w W) => skip_Right.calls k A0 c0 l true W (Kd.C_below hr0 hW) hc0 hR)
 rw [his] at HP
 clear hr0
 generalize placeN l x.f0 = i at *
 have hz2 : decide (64 < (x.f1.size : Int)) = false := decide_eq_false (by omega)
 have hz3 : decide (64 < x.f1.size) = false := decide_eq_false hz
 have h65 : ((l.length : Int) == 64) = true := by rw [beq_iff_eq]; omega
 have HL := Aside0.mk h64
 clear h64 hn hc0 his hz hR
 have HB := Aside0.mk (below_alloc (Below.refl w.heap.size w) (.cells #[.int .u64 x.f0, .string x.f1] 46))
 have X0 := Aside0.mk (two_new w x.f0 x.f1 0 _ rfl)
 have X1 := Aside0.mk (two_new w x.f0 x.f1 1 _ rfl)
 simp only [Addr.add_lit] at X0 X1
 go_enter Tryd.func36, Tryd.ntmps36
 go_wp2_with (first | (go_at_call 71; refine (HP.out _ (below_step (below_alloc (Below.refl _ _) _) (Below.refl _ _))).mono ?_; rintro e w1 ⟨rfl, hb1⟩; replace X0 := Aside0.mk ((hb1.cell (World.block_lt_of_cell? _ _ X0.out)).trans X0.out); replace X1 := Aside0.mk ((hb1.cell (World.block_lt_of_cell? _ _ X1.out)).trans X1.out); (try clear hx0 hx1); have hx0 := X0.out; have hx1 := X1.out; replace HB := Aside0.mk (below_step HB.out hb1); clear hb1) | (go_at_call 38; refine (HQ.out _ HB.out).mono ?_; rintro e w1 ⟨rfl, hb1⟩; replace X0 := Aside0.mk ((hb1.cell (World.block_lt_of_cell? _ _ X0.out)).trans X0.out); replace X1 := Aside0.mk ((hb1.cell (World.block_lt_of_cell? _ _ X1.out)).trans X1.out); (try clear hx0 hx1); have hx0 := X0.out; have hx1 := X1.out; replace HB := Aside0.mk (below_step HB.out hb1); clear hb1))
 go_ret2
 exact ⟨rfl, HB.out⟩
end Go.Proofs.YtolbhliepkcihaaDoor.Skip
end
section
namespace Go.Proofs.YtolbhliepkcihaaDoor.Skip
set_option linter.unusedSimpArgs false
set_option linter.unusedVariables false
open Go.RowKit Go.Proofs.YtolbhliepkcihaaDoor.Kinds Go.Proofs.YtolbhliepkcihaaDoor.QSF Go.Proofs.YtolbhliepkcihaaDoorW.PrintWords Go.Proofs.YtolbhliepkcihaaDoorW.PrintLast Go.Proofs.YtolbhliepkcihaaDoorW.PrintMore Go.Proofs.YtolbhliepkcihaaDoor.Sha Go.Proofs.YtolbhliepkcihaaDoor.Mac Go.Proofs.YtolbhliepkcihaaDoor.Codec Go.Proofs.YtolbhliepkcihaaDoor.Tower
set_option maxRecDepth 100000 in
set_option maxHeartbeats 4000000 in
theorem put_new (ad : Addr) (c0 : Nat) (l : List S46) (x : S46) (k : Nat) (w : World) (hr0 : Kd.C k46 w (some ad) l.length l) (hc0 : l.length ≤ c0) (hn : l.length ≤ 100000) (hR : skip_Right.f k l = some true) (hz : ¬64 < x.f1.size) (his : placeIs l x.f0 = false) (h64 : ¬l.length = 64) (hlt : placeN l x.f0 < l.length) :
  Calls Tryd.prog 36 #[.slice (some ad) l.length c0, .agg #[.int .u64 x.f0, .string x.f1]] w fun e w' => ∃ v, e = .returned (.tuple #[v, .int .i64 0]) ∧ Kd.R k46 46 w' w.heap.size (fun _ => True) v (l.take (placeN l x.f0) ++ [x] ++ l.drop (placeN l x.f0)) ∧ Below w.heap.size w w' := by
 obtain ⟨i0, hi, hiz, hs, hb⟩ := info_parts item_info
 have HP := Lib.hid (fun W (hW : Below w.heap.size w W) => place_any (some ad) c0 l x.f0 W (Kd.C_below hr0 hW) hc0 (by omega))
 have HQ := Lib.hid (fun W (hW : Below w.heap.size w W) => skip_Right.calls k (some ad) c0 l true W (Kd.C_below hr0 hW) hc0 hR)
 rw [his] at HP
 have HC := Lib.hid hr0
 clear hr0
 generalize placeN l x.f0 = i at *
 have hz2 : decide (64 < (x.f1.size : Int)) = false := decide_eq_false (by omega)
 have hz3 : decide (64 < x.f1.size) = false := decide_eq_false hz
 have h65 : ((l.length : Int) == 64) = false := by rw [beq_eq_false_iff_ne]; omega
 have h66 : (l.length == 64) = false := by rw [beq_eq_false_iff_ne]; omega
 have HL := Aside0.mk (And.intro h64 (And.intro hn hlt))
 have hp0 : (0 : Int) ≤ (i : Int) := by omega
 have hp1 : (i : Int) ≤ (l.length : Int) := by omega
 have hp3 : ¬ c0 = i := by omega
 have hp5 : i ≤ c0 := by omega
 have hp6 : i ≤ l.length := by omega
 clear h64 hn his hz hR hlt
 have HB := Aside0.mk (below_alloc (Below.refl w.heap.size w) (.cells #[.int .u64 x.f0, .string x.f1] 46))
 have X0 := Aside0.mk (two_new w x.f0 x.f1 0 _ rfl)
 have X1 := Aside0.mk (two_new w x.f0 x.f1 1 _ rfl)
 simp only [Addr.add_lit] at X0 X1
 go_enter Tryd.func36, Tryd.ntmps36
 go_wp2_with (first | (go_at_call 71; refine (HP.out _ (below_step (below_alloc (Below.refl _ _) _) (Below.refl _ _))).mono ?_; rintro e w1 ⟨rfl, hb1⟩; replace X0 := Aside0.mk ((hb1.cell (World.block_lt_of_cell? _ _ X0.out)).trans X0.out); replace X1 := Aside0.mk ((hb1.cell (World.block_lt_of_cell? _ _ X1.out)).trans X1.out); (try clear hx0 hx1); have hx0 := X0.out; have hx1 := X1.out; replace HB := Aside0.mk (below_step HB.out hb1); clear hb1) | (go_at_call 38; refine (HQ.out _ HB.out).mono ?_; rintro e w1 ⟨rfl, hb1⟩; replace X0 := Aside0.mk ((hb1.cell (World.block_lt_of_cell? _ _ X0.out)).trans X0.out); replace X1 := Aside0.mk ((hb1.cell (World.block_lt_of_cell? _ _ X1.out)).trans X1.out); (try clear hx0 hx1); have hx0 := X0.out; have hx1 := X1.out; replace HB := Aside0.mk (below_step HB.out hb1); clear hb1))
 obtain ⟨h64, hn, hlt⟩ := HL.out
 have HW := Aside0.mk (Kd.C_alloc (Kd.C_drew (Kd.C_below HC.out HB.out)) (.cells #[.int .u64 x.f0, .string x.f1] 46))
 have hz1 : (flat (l.take i)).length = i * 2 := by rw [flat_len, List.length_take, Nat.min_eq_left (by omega)]
 have hzd : (flat (l.drop i)).length = (l.length - i) * 2 := by rw [flat_len, List.length_drop]
 have hold : Hid (∀ b, some ad = some b → ∀ j u, (flat (l.take i))[j]? = some u → (w1.drew.alloc (.cells #[.int .u64 x.f0, .string x.f1] 46)).cell? (b.add j) = some u) := Lib.hid fun b hb j u hu => by
  obtain rfl := Option.some.inj hb
  exact flat_cells HW.out j u (flat_take l i j u hu)
 have hone : Hid (∀ u ∈ [Value.int .u64 x.f0, Value.string x.f1], u.oneCell' = true) := Lib.hid (flat_one [x])
 have hdone : Hid (∀ u ∈ flat (l.drop i), u.oneCell' = true) := Lib.hid (flat_one _)
 have hfull : i < i + 1 := by omega
 have hb1 : i + 1 ≤ maxLen := by simp only [maxLen]; omega
 have hb2 : (i + 1) * 24 ≤ 140737488355328 := by omega
 have hb3 : i + 1 + (l.length - i) ≤ maxLen := by simp only [maxLen]; omega
 have hb4 : (i + 1 + (l.length - i)) * 24 ≤ 140737488355328 := by omega
 have hxx0 := X0.out
 have hxx1 := X1.out
 have HL2 := Aside0.mk (And.intro h64 (And.intro hn hlt))
 clear h64 hn hlt
 go_region_law (first | (refine step_append_grows rfl (.tmp 44) (.tmp 46) 36 rfl 46 i0 (.agg #[.int .u64 0, .string ⟨#[]⟩]) 2 24 Tryd.underlying36 hi hiz hs hb rfl (by decide) (some ad) i i (flat (l.take i)) (by simp [Act.eval, Act.put]) (fun h => by cases h) hz1 hold.out ⟨w1.heap.size, 0, none⟩ 1 1 [.int .u64 x.f0, .string x.f1] (by simp [Act.eval, Act.put]) rfl (two_new w1.drew x.f0 x.f1) hone.out hfull hb1 hb2 ?_; intro v1 w2 hown1 hgrow1) | (refine step_append_own2 rfl (.tmp 47) (.tmp 48) 36 rfl _ 46 i0 (.agg #[.int .u64 0, .string ⟨#[]⟩]) 2 24 Tryd.underlying36 hi hiz hs hb rfl (by decide) v1 (i + 1) _ (by simp [Act.eval, Act.put]) hown1 (ad.add (i * 2)) (l.length - i) (c0 - i) (flat (l.drop i)) (by simp [Act.eval, Act.put]) hzd (fun j u hu => by rw [add_two]; exact flat_cells (Kd.C_below HW.out ((Below.refl _ _).grown hgrow1 (Nat.le_refl _) (fun k e => by cases e))) _ u (flat_drop l i hp6 j u hu)) hdone.out hb3 hb4 (by have := hgrow1.size; omega) ?_; intro v2 w3 hown2 hgrow2))
 obtain ⟨h64, hn, hlt⟩ := HL2.out
 have hlen : (l.take i ++ [x] ++ l.drop i).length = i + 1 + (l.length - i) := by rw [List.length_append, List.length_append, List.length_take, List.length_drop, Nat.min_eq_left (by omega)]; rfl
 have hfl : flat (l.take i ++ [x] ++ l.drop i) = flat (l.take i) ++ [.int .u64 x.f0, .string x.f1] ++ flat (l.drop i) := by rw [flat_app, flat_app]; rfl
 all_goals go_wp2
 all_goals go_ret2
 all_goals exact ⟨v2, rfl, own_row (by rw [hlen, hfl]; exact own_mono3 hown2 (by have := HB.out.size; simp; omega)), (((below_alloc (below_drew HB.out) _).grown hgrow1 (by have := HB.out.size; simp; omega) (fun k e => by cases e)).grown hgrow2 (by have := HB.out.size; have := hgrow1.size; simp at this; omega) (fun k e => by have := own_base hown1 k e; have := HB.out.size; simp at *; omega))⟩
set_option maxRecDepth 100000 in
set_option maxHeartbeats 4000000 in
theorem put_over (ad : Addr) (c0 : Nat) (l : List S46) (x : S46) (k : Nat) (w : World) (hr0 : Kd.C k46 w (some ad) l.length l) (hc0 : l.length ≤ c0) (hn : l.length ≤ 100000) (hR : skip_Right.f k l = some true) (hz : ¬64 < x.f1.size) (his : placeIs l x.f0 = true) (hlt : placeN l x.f0 + 1 < l.length) :
  Calls Tryd.prog 36 #[.slice (some ad) l.length c0, .agg #[.int .u64 x.f0, .string x.f1]] w fun e w' => ∃ v, e = .returned (.tuple #[v, .int .i64 0]) ∧ Kd.R k46 46 w' w.heap.size (fun _ => True) v (l.take (placeN l x.f0) ++ [x] ++ l.drop (placeN l x.f0 + 1)) ∧ Below w.heap.size w w' := by
 obtain ⟨i0, hi, hiz, hs, hb⟩ := info_parts item_info
 have HP := Lib.hid (fun W (hW : Below w.heap.size w W) => place_any (some ad) c0 l x.f0 W (Kd.C_below hr0 hW) hc0 (by omega))
 have HQ := Lib.hid (fun W (hW : Below w.heap.size w W) => skip_Right.calls k (some ad) c0 l true W (Kd.C_below hr0 hW) hc0 hR)
 rw [his] at HP
 have HC := Lib.hid hr0
 clear hr0
 generalize placeN l x.f0 = i at *
 have hz2 : decide (64 < (x.f1.size : Int)) = false := decide_eq_false (by omega)
 have hz3 : decide (64 < x.f1.size) = false := decide_eq_false hz
 have hwr : IntKind.i64.wrap ((i : Int) + 1) = (i : Int) + 1 := by rw [IntKind.wrap_i64]; omega
 have hw2 : wrap64 ((i : Int) + 1) = (i : Int) + 1 := by unfold wrap64; omega
 have hq0 : (0 : Int) ≤ (i : Int) + 1 := by omega
 have hq1 : (i : Int) + 1 ≤ (l.length : Int) := by omega
 have hq2 : ((i : Int) + 1).toNat = i + 1 := by omega
 have hq3 : ¬ c0 = i + 1 := by omega
 have HL := Aside0.mk (And.intro hn hlt)
 have hp0 : (0 : Int) ≤ (i : Int) := by omega
 have hp1 : (i : Int) ≤ (l.length : Int) := by omega
 have hp3 : ¬ c0 = i := by omega
 have hp5 : i ≤ c0 := by omega
 have hp6 : i + 1 ≤ l.length := by omega
 clear hn his hz hR hlt
 have HB := Aside0.mk (below_alloc (Below.refl w.heap.size w) (.cells #[.int .u64 x.f0, .string x.f1] 46))
 have X0 := Aside0.mk (two_new w x.f0 x.f1 0 _ rfl)
 have X1 := Aside0.mk (two_new w x.f0 x.f1 1 _ rfl)
 simp only [Addr.add_lit] at X0 X1
 go_enter Tryd.func36, Tryd.ntmps36
 go_wp2_with (first | (go_at_call 71; refine (HP.out _ (below_step (below_alloc (Below.refl _ _) _) (Below.refl _ _))).mono ?_; rintro e w1 ⟨rfl, hb1⟩; replace X0 := Aside0.mk ((hb1.cell (World.block_lt_of_cell? _ _ X0.out)).trans X0.out); replace X1 := Aside0.mk ((hb1.cell (World.block_lt_of_cell? _ _ X1.out)).trans X1.out); (try clear hx0 hx1); have hx0 := X0.out; have hx1 := X1.out; replace HB := Aside0.mk (below_step HB.out hb1); clear hb1) | (go_at_call 38; refine (HQ.out _ HB.out).mono ?_; rintro e w1 ⟨rfl, hb1⟩; replace X0 := Aside0.mk ((hb1.cell (World.block_lt_of_cell? _ _ X0.out)).trans X0.out); replace X1 := Aside0.mk ((hb1.cell (World.block_lt_of_cell? _ _ X1.out)).trans X1.out); (try clear hx0 hx1); have hx0 := X0.out; have hx1 := X1.out; replace HB := Aside0.mk (below_step HB.out hb1); clear hb1))
 obtain ⟨hn, hlt⟩ := HL.out
 have HW := Aside0.mk (Kd.C_alloc (Kd.C_drew (Kd.C_below HC.out HB.out)) (.cells #[.int .u64 x.f0, .string x.f1] 46))
 have hz1 : (flat (l.take i)).length = i * 2 := by rw [flat_len, List.length_take, Nat.min_eq_left (by omega)]
 have hzd : (flat (l.drop (i + 1))).length = (l.length - (i + 1)) * 2 := by rw [flat_len, List.length_drop]
 have hold : Hid (∀ b, some ad = some b → ∀ j u, (flat (l.take i))[j]? = some u → (w1.drew.alloc (.cells #[.int .u64 x.f0, .string x.f1] 46)).cell? (b.add j) = some u) := Lib.hid fun b hb j u hu => by
  obtain rfl := Option.some.inj hb
  exact flat_cells HW.out j u (flat_take l i j u hu)
 have hone : Hid (∀ u ∈ [Value.int .u64 x.f0, Value.string x.f1], u.oneCell' = true) := Lib.hid (flat_one [x])
 have hdone : Hid (∀ u ∈ flat (l.drop (i + 1)), u.oneCell' = true) := Lib.hid (flat_one _)
 have hfull : i < i + 1 := by omega
 have hb1 : i + 1 ≤ maxLen := by simp only [maxLen]; omega
 have hb2 : (i + 1) * 24 ≤ 140737488355328 := by omega
 have hb3 : i + 1 + (l.length - (i + 1)) ≤ maxLen := by simp only [maxLen]; omega
 have hb4 : (i + 1 + (l.length - (i + 1))) * 24 ≤ 140737488355328 := by omega
 have hxx0 := X0.out
 have hxx1 := X1.out
 have HL2 := Aside0.mk (And.intro hn hlt)
 clear hn hlt
 go_region_law (first | (refine step_append_grows rfl (.tmp 44) (.tmp 46) 36 rfl 46 i0 (.agg #[.int .u64 0, .string ⟨#[]⟩]) 2 24 Tryd.underlying36 hi hiz hs hb rfl (by decide) (some ad) i i (flat (l.take i)) (by simp [Act.eval, Act.put]) (fun h => by cases h) hz1 hold.out ⟨w1.heap.size, 0, none⟩ 1 1 [.int .u64 x.f0, .string x.f1] (by simp [Act.eval, Act.put]) rfl (two_new w1.drew x.f0 x.f1) hone.out hfull hb1 hb2 ?_; intro v1 w2 hown1 hgrow1) | (refine step_append_own2 rfl (.tmp 47) (.tmp 48) 36 rfl _ 46 i0 (.agg #[.int .u64 0, .string ⟨#[]⟩]) 2 24 Tryd.underlying36 hi hiz hs hb rfl (by decide) v1 (i + 1) _ (by simp [Act.eval, Act.put]) hown1 (ad.add ((i + 1) * 2)) (l.length - (i + 1)) (c0 - (i + 1)) (flat (l.drop (i + 1))) (by simp [Act.eval, Act.put]) hzd (fun j u hu => by rw [add_two]; exact flat_cells (Kd.C_below HW.out ((Below.refl _ _).grown hgrow1 (Nat.le_refl _) (fun k e => by cases e))) _ u (flat_drop l (i + 1) hp6 j u hu)) hdone.out hb3 hb4 (by have := hgrow1.size; omega) ?_; intro v2 w3 hown2 hgrow2))
 obtain ⟨hn, hlt⟩ := HL2.out
 have hlen : (l.take i ++ [x] ++ l.drop (i + 1)).length = i + 1 + (l.length - (i + 1)) := by rw [List.length_append, List.length_append, List.length_take, List.length_drop, Nat.min_eq_left (by omega)]; rfl
 have hfl : flat (l.take i ++ [x] ++ l.drop (i + 1)) = flat (l.take i) ++ [.int .u64 x.f0, .string x.f1] ++ flat (l.drop (i + 1)) := by rw [flat_app, flat_app]; rfl
 all_goals go_wp2
 all_goals go_ret2
 all_goals exact ⟨v2, rfl, own_row (by rw [hlen, hfl]; exact own_mono3 hown2 (by have := HB.out.size; simp; omega)), (((below_alloc (below_drew HB.out) _).grown hgrow1 (by have := HB.out.size; simp; omega) (fun k e => by cases e)).grown hgrow2 (by have := HB.out.size; have := hgrow1.size; simp at this; omega) (fun k e => by have := own_base hown1 k e; have := HB.out.size; simp at *; omega))⟩
set_option maxRecDepth 100000 in
set_option maxHeartbeats 4000000 in
theorem put_end (ad : Addr) (c0 : Nat) (l : List S46) (x : S46) (k : Nat) (w : World) (hr0 : Kd.C k46 w (some ad) l.length l) (hc0 : l.length ≤ c0) (hn : l.length ≤ 100000) (hR : skip_Right.f k l = some true) (hz : ¬64 < x.f1.size) (his : placeIs l x.f0 = false) (h64 : ¬l.length = 64) (hlt : placeN l x.f0 = l.length) :
  Calls Tryd.prog 36 #[.slice (some ad) l.length c0, .agg #[.int .u64 x.f0, .string x.f1]] w fun e w' => ∃ v, e = .returned (.tuple #[v, .int .i64 0]) ∧ Kd.R k46 46 w' w.heap.size (fun _ => True) v (l.take (placeN l x.f0) ++ [x]) ∧ Below w.heap.size w w' := by
 obtain ⟨i0, hi, hiz, hs, hb⟩ := info_parts item_info
 have HP := Lib.hid (fun W (hW : Below w.heap.size w W) => place_any (some ad) c0 l x.f0 W (Kd.C_below hr0 hW) hc0 (by omega))
 have HQ := Lib.hid (fun W (hW : Below w.heap.size w W) => skip_Right.calls k (some ad) c0 l true W (Kd.C_below hr0 hW) hc0 hR)
 rw [his] at HP
 have HC := Lib.hid hr0
 clear hr0
 generalize placeN l x.f0 = i at *
 have hz2 : decide (64 < (x.f1.size : Int)) = false := decide_eq_false (by omega)
 have hz3 : decide (64 < x.f1.size) = false := decide_eq_false hz
 have h65 : ((l.length : Int) == 64) = false := by rw [beq_eq_false_iff_ne]; omega
 have h66 : (l.length == 64) = false := by rw [beq_eq_false_iff_ne]; omega
 have HL := Aside0.mk (And.intro h64 (And.intro hn hlt))
 have hp0 : (0 : Int) ≤ (i : Int) := by omega
 have hp1 : (i : Int) ≤ (l.length : Int) := by omega
 have hp4 : l.length - i = 0 := by omega
 have hp5 : i ≤ c0 := by omega
 have hp6 : i ≤ l.length := by omega
 clear h64 hn his hz hR hlt
 have HB := Aside0.mk (below_alloc (Below.refl w.heap.size w) (.cells #[.int .u64 x.f0, .string x.f1] 46))
 have X0 := Aside0.mk (two_new w x.f0 x.f1 0 _ rfl)
 have X1 := Aside0.mk (two_new w x.f0 x.f1 1 _ rfl)
 simp only [Addr.add_lit] at X0 X1
 go_enter Tryd.func36, Tryd.ntmps36
 go_wp2_with (first | (go_at_call 71; refine (HP.out _ (below_step (below_alloc (Below.refl _ _) _) (Below.refl _ _))).mono ?_; rintro e w1 ⟨rfl, hb1⟩; replace X0 := Aside0.mk ((hb1.cell (World.block_lt_of_cell? _ _ X0.out)).trans X0.out); replace X1 := Aside0.mk ((hb1.cell (World.block_lt_of_cell? _ _ X1.out)).trans X1.out); (try clear hx0 hx1); have hx0 := X0.out; have hx1 := X1.out; replace HB := Aside0.mk (below_step HB.out hb1); clear hb1) | (go_at_call 38; refine (HQ.out _ HB.out).mono ?_; rintro e w1 ⟨rfl, hb1⟩; replace X0 := Aside0.mk ((hb1.cell (World.block_lt_of_cell? _ _ X0.out)).trans X0.out); replace X1 := Aside0.mk ((hb1.cell (World.block_lt_of_cell? _ _ X1.out)).trans X1.out); (try clear hx0 hx1); have hx0 := X0.out; have hx1 := X1.out; replace HB := Aside0.mk (below_step HB.out hb1); clear hb1))
 all_goals
  obtain ⟨h64, hn, hlt⟩ := HL.out
  have HW := Aside0.mk (Kd.C_alloc (Kd.C_drew (Kd.C_below HC.out HB.out)) (.cells #[.int .u64 x.f0, .string x.f1] 46))
  have hz1 : (flat (l.take i)).length = i * 2 := by rw [flat_len, List.length_take, Nat.min_eq_left (by omega)]
  have hold : Hid (∀ b, (some ad) = some b → ∀ j u, (flat (l.take i))[j]? = some u → (w1.drew.alloc (.cells #[.int .u64 x.f0, .string x.f1] 46)).cell? (b.add j) = some u) := Lib.hid fun b hb j u hu => by
   obtain rfl := Option.some.inj hb
   exact flat_cells HW.out j u (flat_take l i j u hu)
  have hone : Hid (∀ u ∈ [Value.int .u64 x.f0, Value.string x.f1], u.oneCell' = true) := Lib.hid (flat_one [x])
  have hfull : i < i + 1 := by omega
  have hb1 : i + 1 ≤ maxLen := by simp only [maxLen]; omega
  have hb2 : (i + 1) * 24 ≤ 140737488355328 := by omega
  have hxx0 := X0.out
  have hxx1 := X1.out
  have HL2 := Aside0.mk (And.intro h64 (And.intro hn hlt))
  clear h64 hn hlt
  go_region_law (first | (refine step_append_grows rfl (.tmp 44) (.tmp 46) 36 rfl 46 i0 (.agg #[.int .u64 0, .string ⟨#[]⟩]) 2 24 Tryd.underlying36 hi hiz hs hb rfl (by decide) (some ad) i i (flat (l.take i)) (by simp [Act.eval, Act.put]) (fun h => by cases h) hz1 hold.out ⟨w1.heap.size, 0, none⟩ 1 1 [.int .u64 x.f0, .string x.f1] (by simp [Act.eval, Act.put]) rfl (two_new w1.drew x.f0 x.f1) hone.out hfull hb1 hb2 ?_; intro v1 w2 hown1 hgrow1; obtain ⟨g1, cap1, rfl, hcap1⟩ := own_succ2 hown1) | (refine step_append_nothing rfl (.tmp 47) (.tmp 48) 36 rfl 46 i0 Tryd.underlying36 hi (some ⟨g1, 0, none⟩) (i + 1) cap1 (by simp [Act.eval, Act.put]) hcap1 _ rfl (src_nothing _ _ _ _) ?_))
  obtain ⟨h64, hn, hlt⟩ := HL2.out
  have hlen : (l.take i ++ [x]).length = i + 1 := by rw [List.length_append, List.length_take, Nat.min_eq_left (by omega)]; rfl
  have hfl : flat (l.take i ++ [x]) = flat (l.take i) ++ [.int .u64 x.f0, .string x.f1] := by rw [flat_app]; rfl
  all_goals go_wp2
  all_goals go_ret2
  all_goals exact ⟨_, rfl, own_row (by rw [hlen, hfl]; exact own_mono3 hown1 (by have := HB.out.size; simp; omega)), (below_alloc (below_drew HB.out) _).grown hgrow1 (by have := HB.out.size; simp; omega) (fun k e => by cases e)⟩
set_option maxRecDepth 100000 in
set_option maxHeartbeats 4000000 in
theorem put_overend (ad : Addr) (c0 : Nat) (l : List S46) (x : S46) (k : Nat) (w : World) (hr0 : Kd.C k46 w (some ad) l.length l) (hc0 : l.length ≤ c0) (hn : l.length ≤ 100000) (hR : skip_Right.f k l = some true) (hz : ¬64 < x.f1.size) (his : placeIs l x.f0 = true) (hlt : placeN l x.f0 + 1 = l.length) :
  Calls Tryd.prog 36 #[.slice (some ad) l.length c0, .agg #[.int .u64 x.f0, .string x.f1]] w fun e w' => ∃ v, e = .returned (.tuple #[v, .int .i64 0]) ∧ Kd.R k46 46 w' w.heap.size (fun _ => True) v (l.take (placeN l x.f0) ++ [x]) ∧ Below w.heap.size w w' := by
 obtain ⟨i0, hi, hiz, hs, hb⟩ := info_parts item_info
 have HP := Lib.hid (fun W (hW : Below w.heap.size w W) => place_any (some ad) c0 l x.f0 W (Kd.C_below hr0 hW) hc0 (by omega))
 have HQ := Lib.hid (fun W (hW : Below w.heap.size w W) => skip_Right.calls k (some ad) c0 l true W (Kd.C_below hr0 hW) hc0 hR)
 rw [his] at HP
 have HC := Lib.hid hr0
 clear hr0
 generalize placeN l x.f0 = i at *
 have hz2 : decide (64 < (x.f1.size : Int)) = false := decide_eq_false (by omega)
 have hz3 : decide (64 < x.f1.size) = false := decide_eq_false hz
 have hwr : IntKind.i64.wrap ((i : Int) + 1) = (i : Int) + 1 := by rw [IntKind.wrap_i64]; omega
 have hw2 : wrap64 ((i : Int) + 1) = (i : Int) + 1 := by unfold wrap64; omega
 have hq0 : (0 : Int) ≤ (i : Int) + 1 := by omega
 have hle1 : (i : Int) ≤ (i : Int) + 1 := by omega
 have hq1 : (i : Int) + 1 ≤ (l.length : Int) := by omega
 have hq2 : ((i : Int) + 1).toNat = i + 1 := by omega
 have HL := Aside0.mk (And.intro hn hlt)
 have hp0 : (0 : Int) ≤ (i : Int) := by omega
 have hp1 : (i : Int) ≤ (l.length : Int) := by omega
 have hp4 : l.length - (i + 1) = 0 := by omega
 have hp5 : i ≤ c0 := by omega
 have hp6 : i ≤ l.length := by omega
 have hcut := cut3 (some ad) l.length c0 (i : Int) (by omega) (by omega) hc0
 rw [Int.toNat_natCast] at hcut
 clear hn his hz hR hlt
 have HB := Aside0.mk (below_alloc (Below.refl w.heap.size w) (.cells #[.int .u64 x.f0, .string x.f1] 46))
 have X0 := Aside0.mk (two_new w x.f0 x.f1 0 _ rfl)
 have X1 := Aside0.mk (two_new w x.f0 x.f1 1 _ rfl)
 simp only [Addr.add_lit] at X0 X1
 go_enter Tryd.func36, Tryd.ntmps36
 go_wp2_with (first | (go_at_call 71; refine (HP.out _ (below_step (below_alloc (Below.refl _ _) _) (Below.refl _ _))).mono ?_; rintro e w1 ⟨rfl, hb1⟩; replace X0 := Aside0.mk ((hb1.cell (World.block_lt_of_cell? _ _ X0.out)).trans X0.out); replace X1 := Aside0.mk ((hb1.cell (World.block_lt_of_cell? _ _ X1.out)).trans X1.out); (try clear hx0 hx1); have hx0 := X0.out; have hx1 := X1.out; replace HB := Aside0.mk (below_step HB.out hb1); clear hb1) | (go_at_call 38; refine (HQ.out _ HB.out).mono ?_; rintro e w1 ⟨rfl, hb1⟩; replace X0 := Aside0.mk ((hb1.cell (World.block_lt_of_cell? _ _ X0.out)).trans X0.out); replace X1 := Aside0.mk ((hb1.cell (World.block_lt_of_cell? _ _ X1.out)).trans X1.out); (try clear hx0 hx1); have hx0 := X0.out; have hx1 := X1.out; replace HB := Aside0.mk (below_step HB.out hb1); clear hb1))
 all_goals
  obtain ⟨hn, hlt⟩ := HL.out
  have HW := Aside0.mk (Kd.C_alloc (Kd.C_drew (Kd.C_below HC.out HB.out)) (.cells #[.int .u64 x.f0, .string x.f1] 46))
  have hz1 : (flat (l.take i)).length = i * 2 := by rw [flat_len, List.length_take, Nat.min_eq_left (by omega)]
  have hold : Hid (∀ b, (some ad) = some b → ∀ j u, (flat (l.take i))[j]? = some u → (w1.drew.alloc (.cells #[.int .u64 x.f0, .string x.f1] 46)).cell? (b.add j) = some u) := Lib.hid fun b hb j u hu => by
   obtain rfl := Option.some.inj hb
   exact flat_cells HW.out j u (flat_take l i j u hu)
  have hone : Hid (∀ u ∈ [Value.int .u64 x.f0, Value.string x.f1], u.oneCell' = true) := Lib.hid (flat_one [x])
  have hfull : i < i + 1 := by omega
  have hb1 : i + 1 ≤ maxLen := by simp only [maxLen]; omega
  have hb2 : (i + 1) * 24 ≤ 140737488355328 := by omega
  have hxx0 := X0.out
  have hxx1 := X1.out
  have HL2 := Aside0.mk (And.intro hn hlt)
  clear hn hlt
  go_region_law (first | (refine step_append_grows rfl (.tmp 44) (.tmp 46) 36 rfl 46 i0 (.agg #[.int .u64 0, .string ⟨#[]⟩]) 2 24 Tryd.underlying36 hi hiz hs hb rfl (by decide) (some ad) i i (flat (l.take i)) (by simp [Act.eval, Act.put]) (fun h => by cases h) hz1 hold.out ⟨w1.heap.size, 0, none⟩ 1 1 [.int .u64 x.f0, .string x.f1] (by simp [Act.eval, Act.put]) rfl (two_new w1.drew x.f0 x.f1) hone.out hfull hb1 hb2 ?_; intro v1 w2 hown1 hgrow1; obtain ⟨g1, cap1, rfl, hcap1⟩ := own_succ2 hown1) | (refine step_append_nothing rfl (.tmp 47) (.tmp 48) 36 rfl 46 i0 Tryd.underlying36 hi (some ⟨g1, 0, none⟩) (i + 1) cap1 (by simp [Act.eval, Act.put]) hcap1 _ rfl (src_nothing _ _ _ _) ?_))
  obtain ⟨hn, hlt⟩ := HL2.out
  have hlen : (l.take i ++ [x]).length = i + 1 := by rw [List.length_append, List.length_take, Nat.min_eq_left (by omega)]; rfl
  have hfl : flat (l.take i ++ [x]) = flat (l.take i) ++ [.int .u64 x.f0, .string x.f1] := by rw [flat_app]; rfl
  all_goals go_wp2
  all_goals go_ret2
  all_goals exact ⟨_, rfl, own_row (by rw [hlen, hfl]; exact own_mono3 hown1 (by have := HB.out.size; simp; omega)), (below_alloc (below_drew HB.out) _).grown hgrow1 (by have := HB.out.size; simp; omega) (fun k e => by cases e)⟩
end Go.Proofs.YtolbhliepkcihaaDoor.Skip
end
section
namespace Go.Proofs.YtolbhliepkcihaaDoor.Skip
set_option linter.unusedSimpArgs false
set_option linter.unusedVariables false
open Go.RowKit Go.Proofs.YtolbhliepkcihaaDoor.Kinds Go.Proofs.YtolbhliepkcihaaDoor.QSF Go.Proofs.YtolbhliepkcihaaDoorW.PrintWords Go.Proofs.YtolbhliepkcihaaDoorW.PrintLast Go.Proofs.YtolbhliepkcihaaDoorW.PrintMore Go.Proofs.YtolbhliepkcihaaDoor.Sha Go.Proofs.YtolbhliepkcihaaDoor.Mac Go.Proofs.YtolbhliepkcihaaDoor.Codec Go.Proofs.YtolbhliepkcihaaDoor.Tower
set_option maxRecDepth 100000 in
set_option maxHeartbeats 4000000 in
theorem put_nil (c0 : Nat) (l : List S46) (x : S46) (k : Nat) (w : World) (hr0 : Kd.C k46 w none l.length l) (hc0 : l.length ≤ c0) (hn : l.length ≤ 100000) (hR : skip_Right.f k l = some true) (hz : ¬64 < x.f1.size) (his : placeIs l x.f0 = false) (h64 : ¬l.length = 64) (hlt : placeN l x.f0 = l.length) :
  Calls Tryd.prog 36 #[.slice none l.length c0, .agg #[.int .u64 x.f0, .string x.f1]] w fun e w' => ∃ v, e = .returned (.tuple #[v, .int .i64 0]) ∧ Kd.R k46 46 w' w.heap.size (fun _ => True) v (l.take (placeN l x.f0) ++ [x]) ∧ Below w.heap.size w w' := by
 obtain ⟨i0, hi, hiz, hs, hb⟩ := info_parts item_info
 have HP := Lib.hid (fun W (hW : Below w.heap.size w W) => place_any none c0 l x.f0 W (Kd.C_below hr0 hW) hc0 (by omega))
 have HQ := Lib.hid (fun W (hW : Below w.heap.size w W) => skip_Right.calls k none c0 l true W (Kd.C_below hr0 hW) hc0 hR)
 rw [his] at HP
 have hl0 : l.length = 0 := by
  rcases Nat.eq_zero_or_pos l.length with h | h
  ·exact h
  ·obtain ⟨ad, e, _⟩ := hr0.2.2 h
   cases e
 have HC := Lib.hid hr0
 clear hr0
 have HI0 : Hid (placeN l x.f0 = 0) := Lib.hid (by omega)
 clear hl0
 generalize placeN l x.f0 = i at *
 have hz2 : decide (64 < (x.f1.size : Int)) = false := decide_eq_false (by omega)
 have hz3 : decide (64 < x.f1.size) = false := decide_eq_false hz
 have h65 : ((l.length : Int) == 64) = false := by rw [beq_eq_false_iff_ne]; omega
 have h66 : (l.length == 64) = false := by rw [beq_eq_false_iff_ne]; omega
 have HL := Aside0.mk (And.intro h64 (And.intro hn hlt))
 have hp0 : (0 : Int) ≤ (i : Int) := by omega
 have hp1 : (i : Int) ≤ (l.length : Int) := by omega
 have hp4 : l.length - i = 0 := by omega
 have hp5 : i ≤ c0 := by omega
 have hp6 : i ≤ l.length := by omega
 clear h64 hn his hz hR hlt
 have HB := Aside0.mk (below_alloc (Below.refl w.heap.size w) (.cells #[.int .u64 x.f0, .string x.f1] 46))
 have X0 := Aside0.mk (two_new w x.f0 x.f1 0 _ rfl)
 have X1 := Aside0.mk (two_new w x.f0 x.f1 1 _ rfl)
 simp only [Addr.add_lit] at X0 X1
 go_enter Tryd.func36, Tryd.ntmps36
 go_wp2_with (first | (go_at_call 71; refine (HP.out _ (below_step (below_alloc (Below.refl _ _) _) (Below.refl _ _))).mono ?_; rintro e w1 ⟨rfl, hb1⟩; replace X0 := Aside0.mk ((hb1.cell (World.block_lt_of_cell? _ _ X0.out)).trans X0.out); replace X1 := Aside0.mk ((hb1.cell (World.block_lt_of_cell? _ _ X1.out)).trans X1.out); (try clear hx0 hx1); have hx0 := X0.out; have hx1 := X1.out; replace HB := Aside0.mk (below_step HB.out hb1); clear hb1) | (go_at_call 38; refine (HQ.out _ HB.out).mono ?_; rintro e w1 ⟨rfl, hb1⟩; replace X0 := Aside0.mk ((hb1.cell (World.block_lt_of_cell? _ _ X0.out)).trans X0.out); replace X1 := Aside0.mk ((hb1.cell (World.block_lt_of_cell? _ _ X1.out)).trans X1.out); (try clear hx0 hx1); have hx0 := X0.out; have hx1 := X1.out; replace HB := Aside0.mk (below_step HB.out hb1); clear hb1))
 all_goals
  obtain ⟨h64, hn, hlt⟩ := HL.out
  have HW := Aside0.mk (Kd.C_alloc (Kd.C_drew (Kd.C_below HC.out HB.out)) (.cells #[.int .u64 x.f0, .string x.f1] 46))
  have hz1 : (flat (l.take i)).length = i * 2 := by rw [flat_len, List.length_take, Nat.min_eq_left (by omega)]
  have hold : Hid (∀ b : Addr, none = some b → ∀ j u, (flat (l.take i))[j]? = some u → (w1.drew.alloc (.cells #[.int .u64 x.f0, .string x.f1] 46)).cell? (b.add j) = some u) := Lib.hid fun b hb j u hu => by
   cases hb
  have hone : Hid (∀ u ∈ [Value.int .u64 x.f0, Value.string x.f1], u.oneCell' = true) := Lib.hid (flat_one [x])
  have hfull : i < i + 1 := by omega
  have hb1 : i + 1 ≤ maxLen := by simp only [maxLen]; omega
  have hb2 : (i + 1) * 24 ≤ 140737488355328 := by omega
  have hxx0 := X0.out
  have hxx1 := X1.out
  have HL2 := Aside0.mk (And.intro h64 (And.intro hn hlt))
  clear h64 hn hlt
  go_region_law (first | (refine step_append_grows rfl (.tmp 44) (.tmp 46) 36 rfl 46 i0 (.agg #[.int .u64 0, .string ⟨#[]⟩]) 2 24 Tryd.underlying36 hi hiz hs hb rfl (by decide) none i i (flat (l.take i)) (by simp [Act.eval, Act.put]) (fun _ => ⟨HI0.out, HI0.out⟩) hz1 hold.out ⟨w1.heap.size, 0, none⟩ 1 1 [.int .u64 x.f0, .string x.f1] (by simp [Act.eval, Act.put]) rfl (two_new w1.drew x.f0 x.f1) hone.out hfull hb1 hb2 ?_; intro v1 w2 hown1 hgrow1; obtain ⟨g1, cap1, rfl, hcap1⟩ := own_succ2 hown1) | (refine step_append_nothing rfl (.tmp 47) (.tmp 48) 36 rfl 46 i0 Tryd.underlying36 hi (some ⟨g1, 0, none⟩) (i + 1) cap1 (by simp [Act.eval, Act.put]) hcap1 _ rfl (src_nothing _ _ _ _) ?_))
  obtain ⟨h64, hn, hlt⟩ := HL2.out
  have hlen : (l.take i ++ [x]).length = i + 1 := by rw [List.length_append, List.length_take, Nat.min_eq_left (by omega)]; rfl
  have hfl : flat (l.take i ++ [x]) = flat (l.take i) ++ [.int .u64 x.f0, .string x.f1] := by rw [flat_app]; rfl
  all_goals go_wp2
  all_goals go_ret2
  all_goals exact ⟨_, rfl, own_row (by rw [hlen, hfl]; exact own_mono3 hown1 (by have := HB.out.size; simp; omega)), (below_alloc (below_drew HB.out) _).grown hgrow1 (by have := HB.out.size; simp; omega) (fun k e => by cases e)⟩
end Go.Proofs.YtolbhliepkcihaaDoor.Skip
end
section
namespace Go.Proofs.YtolbhliepkcihaaDoor.QSF
open Go.RowKit Go.Proofs.YtolbhliepkcihaaDoor.Kinds Go.Proofs.YtolbhliepkcihaaDoorW.PrintWords Go.Proofs.YtolbhliepkcihaaDoorW.PrintLast Go.Proofs.YtolbhliepkcihaaDoorW.PrintMore
attribute [local go_sem] max2_int min2_int max_two min_two max_three min_three max_four min_four   -- for this text's walks alone
set_option linter.unusedVariables false
set_option linter.unusedSimpArgs false
theorem eqA48 (d : Nat) (w : World) (x0 y0 : Int) (x1 y1 : Int) :
  (Op.equalIn (d + 2) 48 (.agg #[.int .i64 x0, .int .i64 x1]) (.agg #[.int .i64 y0, .int .i64 y1])).run Tryd.prog w = .ok (x0 == y0 && (x1 == y1)) w := by
 refine eqA_of Tryd.underlying48 (by kernel_rfl) ?_
 refine eqf_cons (by rfl) (by go_simp; rfl) (by go_simp; rfl) (by go_simp) ?_
 exact eqf_last (by rfl) (by go_simp; rfl) (by go_simp; rfl) (by go_simp)
end Go.Proofs.YtolbhliepkcihaaDoor.QSF
end
section
namespace Go.Proofs.YtolbhliepkcihaaDoor.QSF
open Go.RowKit Go.Proofs.YtolbhliepkcihaaDoor.Kinds Go.Proofs.YtolbhliepkcihaaDoorW.PrintWords Go.Proofs.YtolbhliepkcihaaDoorW.PrintLast Go.Proofs.YtolbhliepkcihaaDoorW.PrintMore
attribute [local go_sem] max2_int min2_int max_two min_two max_three min_three max_four min_four   -- for this text's walks alone
set_option linter.unusedVariables false
set_option linter.unusedSimpArgs false
attribute [local go_sem high] eqA48
/-! ### saltusref16_Right: function 25 -/
mutual
def saltusref16_Right.l0 : Nat → List (S46) → List (S46) → Int → Int → Option (Bool)
 | 0, _, _, _, _ => none
 | k + 1, x0, x7, x8, x9 => if x9 < x8 then (if 0 ≤ x9 then (if x9 < (x7.length : Int) then (if (((rd_T46 x7 x9).f1).size : Int) > 64 then (some false) else (if x9 ≤ (x0.length : Int) then ((some (x0.take (x9 : Int).toNat : List (S46))).bind fun y119 => (saltusref16_Right.l1 k x0 x7 x8 x9 y119 (y119.length : Int) 0 ((rd_T46 x7 x9).f0) ((rd_T46 x7 x9).f1))) else (none))) else (none)) else (none)) else (some (decide ((x0.length : Int) ≤ 64)))
def saltusref16_Right.l1 : Nat → List (S46) → List (S46) → Int → Int → List (S46) → Int → Int → Int → ByteArray → Option (Bool)
 | 0, _, _, _, _, _, _, _, _, _ => none
 | k + 1, x0, x7, x8, x9, x20, x21, x22, x119000, x119001 => if x22 < x21 then (if 0 ≤ x22 then (if x22 < (x20.length : Int) then (if ((rd_T46 x20 x22).f0) ≥ x119000 then (some false) else (saltusref16_Right.l1 k x0 x7 x8 x9 x20 x21 (wrap64 (x22 + 1)) x119000 x119001)) else (none)) else (none)) else (saltusref16_Right.l0 k x0 x7 x8 (wrap64 (x9 + 1)))
end
def saltusref16_Right.f (k : Nat) (l0 : List (S46)) : Option (Bool) := saltusref16_Right.l0 k l0 l0 (l0.length : Int) 0
theorem saltusref16_Right.mono_l : ∀ k, (∀ y0 y1 y2 y3, LeO (saltusref16_Right.l0 k y0 y1 y2 y3) (saltusref16_Right.l0 (k + 1) y0 y1 y2 y3)) ∧ (∀ y0 y1 y2 y3 y4 y5 y6 y7 y8, LeO (saltusref16_Right.l1 k y0 y1 y2 y3 y4 y5 y6 y7 y8) (saltusref16_Right.l1 (k + 1) y0 y1 y2 y3 y4 y5 y6 y7 y8))
 | 0 => ⟨fun _ _ _ _ r h => by simp [saltusref16_Right.l0] at h, fun _ _ _ _ _ _ _ _ _ r h => by simp [saltusref16_Right.l1] at h⟩
 | k + 1 => by
  obtain ⟨ih0, ih1⟩ := saltusref16_Right.mono_l k
  refine ⟨?_, ?_⟩
  ·intro y0 y1 y2 y3
   unfold saltusref16_Right.l0
   repeat' first
   | (with_reducible exact ih0 _ _ _ _)
   | (with_reducible exact ih1 _ _ _ _ _ _ _ _ _)
   | (with_reducible exact LeO.refl _)
   | (with_reducible exact LeO.none _)
   | (with_reducible refine LeO.ite ?_ ?_)
   | (with_reducible refine LeO.bind ?_ (fun _ => ?_))
   | exact ih0 _ _ _ _
   | exact ih1 _ _ _ _ _ _ _ _ _
   | exact LeO.none _
   | refine LeO.ite ?_ ?_
   | refine LeO.bind ?_ (fun _ => ?_)
  ·intro y0 y1 y2 y3 y4 y5 y6 y7 y8
   unfold saltusref16_Right.l1
   repeat' first
   | (with_reducible exact ih0 _ _ _ _)
   | (with_reducible exact ih1 _ _ _ _ _ _ _ _ _)
   | (with_reducible exact LeO.refl _)
   | (with_reducible exact LeO.none _)
   | (with_reducible refine LeO.ite ?_ ?_)
   | (with_reducible refine LeO.bind ?_ (fun _ => ?_))
   | exact ih0 _ _ _ _
   | exact ih1 _ _ _ _ _ _ _ _ _
   | exact LeO.none _
   | refine LeO.ite ?_ ?_
   | refine LeO.bind ?_ (fun _ => ?_)
theorem saltusref16_Right.mono : ∀ a0 k, LeO (saltusref16_Right.f k a0) (saltusref16_Right.f (k + 1) a0) := by
 intro a0 k
 obtain ⟨ih0, ih1⟩ := saltusref16_Right.mono_l k
 unfold saltusref16_Right.f
 repeat' first
   | (with_reducible exact ih0 _ _ _ _)
   | (with_reducible exact ih1 _ _ _ _ _ _ _ _ _)
   | (with_reducible exact LeO.refl _)
   | (with_reducible exact LeO.none _)
   | (with_reducible refine LeO.ite ?_ ?_)
   | (with_reducible refine LeO.bind ?_ (fun _ => ?_))
   | exact ih0 _ _ _ _
   | exact ih1 _ _ _ _ _ _ _ _ _
   | exact LeO.none _
   | refine LeO.ite ?_ ?_
   | refine LeO.bind ?_ (fun _ => ?_)
set_option maxHeartbeats 8000000 in
set_option maxRecDepth 100000 in
theorem saltusref16_Right.calls (k : Nat) (A0 : Option Addr) (c0 : Nat) (l0 : List (S46)) (r : Bool) (w : World) (hr0 : Kd.C k46 w A0 l0.length l0) (hc0 : l0.length ≤ c0) (h : saltusref16_Right.f k l0 = some r) :
  Calls Tryd.prog 25 #[.slice A0 l0.length c0] w fun e w' => e = .returned (.bool r) ∧ Below w.heap.size w w' := by
 have hu46 := Tryd.underlying46
 have HR0 := Aside0.mk hr0
 have HC0 := Aside0.mk hc0
 clear hr0 hc0
 have HB := Aside0.mk (Below.refl w.heap.size w)
 have H : (saltusref16_Right.l0 k l0 l0 (l0.length : Int) 0) = some r := h
 clear h
 have H' := Aside0.mk H
 clear H
 go_enter Tryd.func25, Tryd.ntmps25
 go_wp2
 go_loopg [9] k (fun kq v9 w' => ∃ (x9_1 : Int), v9 = .int .i64 x9_1 ∧ Aside0 (saltusref16_Right.l0 kq l0 l0 (l0.length : Int) x9_1 = some r) ∧ Aside0 (kq ≤ k) ∧ Aside0 (Below w.heap.size w w'))
 case atStart => exact ⟨(0), (by first | rfl | (simp; done) | (simp [*]; done)), H', ⟨Nat.le_refl _⟩, ⟨by repeat (first | (with_reducible first | exact HB.out | apply below_alloc | apply pw_below_drewN | apply below_drew1) | exact HB.out)⟩⟩
 case round =>
  clear H'
  obtain ⟨x9_1, rfl, HA, HK1, HB⟩ := hrel
  cases gk with
  | zero => exact absurd HA.out (by simp [saltusref16_Right.l0])
  | succ k1 =>
   have H := HA.out
   clear HA
   simp only [saltusref16_Right.l0] at H
   by_cases c2 : x9_1 < (l0.length : Int)
   ·rw [if_pos c2] at H
    have c2b0 : decide (x9_1 < (l0.length : Int)) = true := decide_eq_true c2
    clear c2
    by_cases c3 : 0 ≤ x9_1
    ·rw [if_pos c3] at H
     have c3b0 : decide (0 ≤ x9_1) = true := decide_eq_true c3
     clear c3
     by_cases c4 : x9_1 < (l0.length : Int)
     ·rw [if_pos c4] at H
      have c4b0 : decide (x9_1 < (l0.length : Int)) = true := decide_eq_true c4
      clear c4
      by_cases c5 : (((rd_T46 l0 x9_1).f1).size : Int) > 64
      ·rw [if_pos c5] at H
       have c5b0 : decide (64 < (((rd_T46 l0 x9_1).f1).size : Int)) = true := decide_eq_true c5
       have c5b1 : decide (64 < ((rd_T46 l0 x9_1).f1).size) = true := decide_eq_true (by omega)
       clear c5
       obtain rfl := Option.some.inj H
       have p117 : 0 ≤ (x9_1 : Int) := of_decide_eq_true (by first | (with_reducible assumption) | assumption)
       have q117 : x9_1 < (l0.length : Int) := of_decide_eq_true (by first | (with_reducible assumption) | assumption)
       obtain ⟨ad117, e117, hx117_0, hx117_1⟩ := at_T46 HR0.out x9_1 p117 q117
       cases e117
       replace hx117_0 := (HB.out.cell (World.block_lt_of_cell? w _ hx117_0)).trans hx117_0
       replace hx117_1 := (HB.out.cell (World.block_lt_of_cell? w _ hx117_1)).trans hx117_1
       replace p117 := eq_true p117
       replace q117 := eq_true q117
       go_wp2_with (first | ((with_reducible refine gate_dst (N := 4) rfl ?_); refine box_event ?hg (N := 4) ?hd (cs := #[.int .u64 0, .string (⟨#[]⟩ : ByteArray)]) (t := 46) ?hr ?_; (case hd => rfl); (case hg => rfl); (case hr => first | (go_simp; done) | (go_simp; rfl)); intro gb118 hg w6 hbox hb; have n0_ := Aside0.mk (below_step (by repeat (first | (with_reducible first | exact HB.out | apply below_alloc | apply pw_below_drewN | apply below_drew1) | exact HB.out)) hb); have n1_ := Aside0.mk (hbox); have n2_ := Aside0.mk ((by rw [hg]; exact (below_size (by repeat (first | (with_reducible first | exact HB.out | apply below_alloc | apply pw_below_drewN | apply below_drew1) | exact HB.out))) : w.heap.size ≤ gb118)); have n3_ := Aside0.mk ((by rw [hg]; exact (below_size (by repeat (first | (with_reducible first | exact HB.out | apply below_alloc | apply pw_below_drewN | apply below_drew1) | exact HB.out))) : w.heap.size ≤ gb118)); clear HB; have HB := n0_; have BK118 := n1_; have GW118 := n2_; have GE118 := n3_; clear n0_ n1_ n2_ n3_; clear hb hbox hg; have hcz7_0 : w6.cell? ⟨gb118, 0, none⟩ = some (.int .u64 0) := (blk_cell BK118.out 0).trans rfl; have hcz7_1 : w6.cell? ⟨gb118, 1, none⟩ = some (.string (⟨#[]⟩ : ByteArray)) := (blk_cell BK118.out 1).trans rfl; have hfz7_0 := blk_frozen BK118.out 0; have hfz7_1 := blk_frozen BK118.out 1))
       go_ret
       exact ⟨by first | rfl | (simp [errW_none, errW_some] <;> rfl) | (simp [*, errW_none, errW_some] <;> rfl), by repeat (first | (with_reducible first | exact HB.out | apply below_alloc | apply pw_below_drewN | apply below_drew1 | refine below_set ?_ GE118.out) | exact HB.out)⟩
      ·rw [if_neg c5] at H
       have c5b0 : decide (64 < (((rd_T46 l0 x9_1).f1).size : Int)) = false := decide_eq_false c5
       have c5b1 : decide (64 < ((rd_T46 l0 x9_1).f1).size) = false := decide_eq_false (by omega)
       clear c5
       have c8b0 := eq_true (of_decide_eq_true (by first | (with_reducible assumption) | assumption) : 0 ≤ x9_1)
       by_cases c9 : x9_1 ≤ (l0.length : Int)
       ·rw [if_pos c9] at H
        have c9b0 := eq_true c9
        have c9b1 : decide (x9_1 ≤ (l0.length : Int)) = true := decide_eq_true c9
        clear c9
        obtain ⟨y119, hy119⟩ : ∃ y_ : List (S46), y_ = (l0.take (x9_1 : Int).toNat) := ⟨_, rfl⟩
        replace H : (saltusref16_Right.l1 k1 l0 l0 (l0.length : Int) x9_1 y119 (y119.length : Int) 0 ((rd_T46 l0 x9_1).f0) ((rd_T46 l0 x9_1).f1)) = some r := by first | (rw [hy119]; with_reducible exact H) | (have H2_ := (Option.bind_some _ _).symm.trans H; rw [hy119]; with_reducible exact H2_) | (have H2_ := (Option.bind_some _ _).symm.trans H; with_reducible exact H2_) | with_reducible exact H | (rw [hy119]; exact H) | exact H
        have Ny119 := Aside0.mk hy119
        clear hy119
        have H' := Aside0.mk H
        clear H
        have p117 : 0 ≤ (x9_1 : Int) := of_decide_eq_true (by first | (with_reducible assumption) | assumption)
        have q117 : x9_1 < (l0.length : Int) := of_decide_eq_true (by first | (with_reducible assumption) | assumption)
        obtain ⟨ad117, e117, hx117_0, hx117_1⟩ := at_T46 HR0.out x9_1 p117 q117
        cases e117
        replace hx117_0 := (HB.out.cell (World.block_lt_of_cell? w _ hx117_0)).trans hx117_0
        replace hx117_1 := (HB.out.cell (World.block_lt_of_cell? w _ hx117_1)).trans hx117_1
        replace p117 := eq_true p117
        replace q117 := eq_true q117
        go_wp2_with (first | ((with_reducible refine gate_dst (N := 4) rfl ?_); refine box_event ?hg (N := 4) ?hd (cs := #[.int .u64 0, .string (⟨#[]⟩ : ByteArray)]) (t := 46) ?hr ?_; (case hd => rfl); (case hg => rfl); (case hr => first | (go_simp; done) | (go_simp; rfl)); intro gb118 hg w10 hbox hb; have n0_ := Aside0.mk (below_step (by repeat (first | (with_reducible first | exact HB.out | apply below_alloc | apply pw_below_drewN | apply below_drew1) | exact HB.out)) hb); have n1_ := Aside0.mk (hbox); have n2_ := Aside0.mk ((by rw [hg]; exact (below_size (by repeat (first | (with_reducible first | exact HB.out | apply below_alloc | apply pw_below_drewN | apply below_drew1) | exact HB.out))) : w.heap.size ≤ gb118)); have n3_ := Aside0.mk ((by rw [hg]; exact (below_size (by repeat (first | (with_reducible first | exact HB.out | apply below_alloc | apply pw_below_drewN | apply below_drew1) | exact HB.out))) : w.heap.size ≤ gb118)); clear HB; have HB := n0_; have BK118 := n1_; have GW118 := n2_; have GE118 := n3_; clear n0_ n1_ n2_ n3_; clear hb hbox hg; have hcz11_0 : w10.cell? ⟨gb118, 0, none⟩ = some (.int .u64 0) := (blk_cell BK118.out 0).trans rfl; have hcz11_1 : w10.cell? ⟨gb118, 1, none⟩ = some (.string (⟨#[]⟩ : ByteArray)) := (blk_cell BK118.out 1).trans rfl; have hfz11_0 := blk_frozen BK118.out 0; have hfz11_1 := blk_frozen BK118.out 1) | ((with_reducible refine gate_store (t := 46) (p := 4) rfl ?_); refine store_event (t := 46) (p := 4) (v := ?vo_w12) (w1 := ((w10.setCell ⟨gb118, 0, none⟩ (.int .u64 ((rd_T46 l0 x9_1).f0))).setCell ⟨gb118, 1, none⟩ (.string ((rd_T46 l0 x9_1).f1)))) ?hg ?ho ?hn ?hr ?_; (case ho => rfl); (case hg => rfl); (case hn => rfl); (case hr => first | (go_simp; done) | (go_simp; rfl)); intro w12 hw; have n0_ : Aside0 (w12.heap[gb118]? = some (.cells #[.int .u64 ((rd_T46 l0 x9_1).f0), .string ((rd_T46 l0 x9_1).f1)] 46 (0, 0))) := ⟨(by rw [hw]; exact (by (with_reducible repeat (first | refine blk_drewN ?_ _ | refine blk_drew ?_ | refine blk_alloc ?_ _)); refine blk_put (cs := #[.int .u64 ((rd_T46 l0 x9_1).f0), .string (⟨#[]⟩ : ByteArray)]) ?_ 1 _ rfl; (with_reducible repeat (first | refine blk_drewN ?_ _ | refine blk_drew ?_ | refine blk_alloc ?_ _)); refine blk_put (cs := #[.int .u64 0, .string (⟨#[]⟩ : ByteArray)]) ?_ 0 _ rfl; (with_reducible repeat (first | refine blk_drewN ?_ _ | refine blk_drew ?_ | refine blk_alloc ?_ _)); exact BK118.out))⟩; have n1_ : Aside0 (Below w.heap.size w w12) := ⟨(by rw [hw]; exact (by repeat (first | (with_reducible first | exact HB.out | apply below_alloc | apply pw_below_drewN | apply below_drew1 | refine below_set ?_ GE118.out) | exact HB.out)))⟩; clear hw; clear BK118; clear HB; have BK118 := n0_; have HB := n1_; clear n0_ n1_; have hcz13_0 : w12.cell? ⟨gb118, 0, none⟩ = some (.int .u64 ((rd_T46 l0 x9_1).f0)) := (blk_cell BK118.out 0).trans rfl; have hcz13_1 : w12.cell? ⟨gb118, 1, none⟩ = some (.string ((rd_T46 l0 x9_1).f1)) := (blk_cell BK118.out 1).trans rfl; have hfz13_0 := blk_frozen BK118.out 0; have hfz13_1 := blk_frozen BK118.out 1; have q14 : (x9_1 : Int) ≤ ((l0.length : Int) : Int) := of_decide_eq_true (by first | (with_reducible assumption) | assumption); obtain ⟨i014, hi014, _, hsz14, _⟩ := info_parts info46; have hroom14 : l0.length ≤ c0 := HC0.out; have hC14 : Kd.C k46 _ (some ad117) l0.length l0 := HR0.out; have hcut14 := cut_to (P := Tryd.prog) 36 46 .i64 Tryd.underlying36 hi014 (some ad117) l0.length c0 x9_1 (of_decide_eq_true (by first | (with_reducible assumption) | assumption)) q14 hroom14; have hr14 := Kd.C_take (m := (x9_1 : Int).toNat) hC14 (by omega); have hy14 : y119.length = (x9_1 : Int).toNat := (by rw [Ny119.out, List.length_take]; omega); rw [← Ny119.out] at hr14; rw [← hy14] at hcut14; have HR122 := Aside0.mk hr14; have HC122 := Aside0.mk (show y119.length ≤ c0 from by omega); clear hr14 hC14 hroom14 hi014 hsz14; have KY14 := Aside0.mk hy14; clear hy14; replace q14 := eq_true q14))
        go_loopg [22] k1 (fun kq v22 w' => ∃ (x22_2 : Int), v22 = .int .i64 x22_2 ∧ Aside0 (saltusref16_Right.l1 kq l0 l0 (l0.length : Int) x9_1 y119 (y119.length : Int) x22_2 ((rd_T46 l0 x9_1).f0) ((rd_T46 l0 x9_1).f1) = some r) ∧ Aside0 (kq ≤ k1) ∧ Aside0 (w'.heap[gb118]? = some (.cells #[.int .u64 ((rd_T46 l0 x9_1).f0), .string ((rd_T46 l0 x9_1).f1)] 46 (0, 0))) ∧ Aside0 (Below w.heap.size w w'))
        case atStart => exact ⟨(0), (by first | rfl | (simp; done) | (simp [*]; done)), H', ⟨Nat.le_refl _⟩, ⟨by (with_reducible repeat (first | refine blk_drewN ?_ _ | refine blk_drew ?_ | refine blk_alloc ?_ _)); exact BK118.out⟩, ⟨by repeat (first | (with_reducible first | exact HB.out | apply below_alloc | apply pw_below_drewN | apply below_drew1 | refine below_set ?_ GE118.out) | exact HB.out)⟩⟩
        case round =>
         clear H'
         try clear p1
         try clear q1
         try clear hx1
         try clear c2
         try clear c2b0
         try clear p2
         try clear c3
         try clear c3b0
         try clear c4
         try clear c4b0
         try clear c5
         try clear c5b0
         try clear c5b1
         try clear c8
         try clear c8b0
         try clear c9
         try clear c9b0
         try clear c9b1
         try clear p11
         try clear q11
         try clear hx11
         try clear q14
         try clear hcz11_0
         try clear hcz11_1
         try clear hcz13_0
         try clear hcz13_1
         try clear hcz7_0
         try clear hcz7_1
         try clear hfz11_0
         try clear hfz11_1
         try clear hfz13_0
         try clear hfz13_1
         try clear hfz7_0
         try clear hfz7_1
         try clear hx117_0
         try clear hx117_1
         try clear p117
         try clear q117
         try clear q14
         obtain ⟨x22_2, rfl, HA, HK2, BK118, HB⟩ := hrel
         cases gk with
         | zero => exact absurd HA.out (by simp [saltusref16_Right.l1])
         | succ k2 =>
          have H := HA.out
          clear HA
          simp only [saltusref16_Right.l1] at H
          by_cases c15 : x22_2 < (y119.length : Int)
          ·rw [if_pos c15] at H
           have c15b0 : decide (x22_2 < (y119.length : Int)) = true := decide_eq_true c15
           clear c15
           by_cases c16 : 0 ≤ x22_2
           ·rw [if_pos c16] at H
            have c16b0 : decide (0 ≤ x22_2) = true := decide_eq_true c16
            clear c16
            by_cases c17 : x22_2 < (y119.length : Int)
            ·rw [if_pos c17] at H
             have c17b0 : decide (x22_2 < (y119.length : Int)) = true := decide_eq_true c17
             clear c17
             by_cases c18 : ((rd_T46 y119 x22_2).f0) ≥ ((rd_T46 l0 x9_1).f0)
             ·rw [if_pos c18] at H
              have c18b0 : decide (((rd_T46 l0 x9_1).f0) ≤ ((rd_T46 y119 x22_2).f0)) = true := decide_eq_true c18
              clear c18
              obtain rfl := Option.some.inj H
              have p123 : 0 ≤ (x22_2 : Int) := of_decide_eq_true (by first | (with_reducible assumption) | assumption)
              have q123 : x22_2 < (y119.length : Int) := of_decide_eq_true (by first | (with_reducible assumption) | assumption)
              obtain ⟨ad123, e123, hx123_0, hx123_1⟩ := at_T46 HR122.out x22_2 p123 q123
              obtain rfl : ad117 = ad123 := (by injection e123)
              replace hx123_0 := (HB.out.cell (World.block_lt_of_cell? w _ hx123_0)).trans hx123_0
              replace hx123_1 := (HB.out.cell (World.block_lt_of_cell? w _ hx123_1)).trans hx123_1
              replace p123 := eq_true p123
              replace q123 := eq_true q123
              go_wp2_with (first | ((with_reducible refine gate_dst (N := 6) rfl ?_); refine box_event ?hg (N := 6) ?hd (cs := #[.int .u64 0, .string (⟨#[]⟩ : ByteArray)]) (t := 46) ?hr ?_; (case hd => rfl); (case hg => rfl); (case hr => first | (go_simp; done) | (go_simp; rfl)); intro gb124 hg w19 hbox hb; have n0_ := Aside0.mk (blk_below (g := gb118) (o := .cells #[.int .u64 ((rd_T46 l0 x9_1).f0), .string ((rd_T46 l0 x9_1).f1)] 46 (0, 0)) (by (with_reducible repeat (first | refine blk_drewN ?_ _ | refine blk_drew ?_ | refine blk_alloc ?_ _)); exact BK118.out) hb); have n1_ := Aside0.mk (below_step (by repeat (first | (with_reducible first | exact HB.out | apply below_alloc | apply pw_below_drewN | apply below_drew1 | refine below_set ?_ GE118.out) | exact HB.out)) hb); have n2_ := Aside0.mk (hbox); have n3_ := Aside0.mk ((by rw [hg]; exact (below_size (by repeat (first | (with_reducible first | exact HB.out | apply below_alloc | apply pw_below_drewN | apply below_drew1 | refine below_set ?_ GE118.out) | exact HB.out))) : w.heap.size ≤ gb124)); have n4_ := Aside0.mk ((by rw [hg]; exact (below_size (by repeat (first | (with_reducible first | exact HB.out | apply below_alloc | apply pw_below_drewN | apply below_drew1 | refine below_set ?_ GE118.out) | exact HB.out))) : w.heap.size ≤ gb124)); have n5_ := Aside0.mk ((by rw [hg]; exact Nat.ne_of_lt (blk_lt (g := gb118) (o := .cells #[.int .u64 ((rd_T46 l0 x9_1).f0), .string ((rd_T46 l0 x9_1).f1)] 46 (0, 0)) (by (with_reducible repeat (first | refine blk_drewN ?_ _ | refine blk_drew ?_ | refine blk_alloc ?_ _)); exact BK118.out)) : gb118 ≠ gb124)); have n6_ := Aside0.mk ((by rw [hg]; exact Nat.ne_of_gt (blk_lt (g := gb118) (o := .cells #[.int .u64 ((rd_T46 l0 x9_1).f0), .string ((rd_T46 l0 x9_1).f1)] 46 (0, 0)) (by (with_reducible repeat (first | refine blk_drewN ?_ _ | refine blk_drew ?_ | refine blk_alloc ?_ _)); exact BK118.out)) : gb124 ≠ gb118)); clear BK118; clear HB; have BK118 := n0_; have HB := n1_; have BK124 := n2_; have GW124 := n3_; have GE124 := n4_; have NB118_124 := n5_; have NB124_118 := n6_; clear n0_ n1_ n2_ n3_ n4_ n5_ n6_; clear hb hbox hg; have hnb20 := NB124_118.out; have hnc20 := NB118_124.out; have hcz21_0 : w19.cell? ⟨gb124, 0, none⟩ = some (.int .u64 0) := (blk_cell BK124.out 0).trans rfl; have hcz21_1 : w19.cell? ⟨gb124, 1, none⟩ = some (.string (⟨#[]⟩ : ByteArray)) := (blk_cell BK124.out 1).trans rfl; have hfz21_0 := blk_frozen BK124.out 0; have hfz21_1 := blk_frozen BK124.out 1; have hcz22_0 : w19.cell? ⟨gb118, 0, none⟩ = some (.int .u64 ((rd_T46 l0 x9_1).f0)) := (blk_cell BK118.out 0).trans rfl; have hcz22_1 : w19.cell? ⟨gb118, 1, none⟩ = some (.string ((rd_T46 l0 x9_1).f1)) := (blk_cell BK118.out 1).trans rfl; have hfz22_0 := blk_frozen BK118.out 0; have hfz22_1 := blk_frozen BK118.out 1))
              go_ret
              exact ⟨by first | rfl | (simp [errW_none, errW_some] <;> rfl) | (simp [*, errW_none, errW_some] <;> rfl), by repeat (first | (with_reducible first | exact HB.out | apply below_alloc | apply pw_below_drewN | apply below_drew1 | refine below_set ?_ GE118.out | refine below_set ?_ GE124.out) | exact HB.out)⟩
             ·rw [if_neg c18] at H
              have c18b0 : decide (((rd_T46 l0 x9_1).f0) ≤ ((rd_T46 y119 x22_2).f0)) = false := decide_eq_false c18
              clear c18
              have H' := Aside0.mk H
              clear H
              have p123 : 0 ≤ (x22_2 : Int) := of_decide_eq_true (by first | (with_reducible assumption) | assumption)
              have q123 : x22_2 < (y119.length : Int) := of_decide_eq_true (by first | (with_reducible assumption) | assumption)
              obtain ⟨ad123, e123, hx123_0, hx123_1⟩ := at_T46 HR122.out x22_2 p123 q123
              obtain rfl : ad117 = ad123 := (by injection e123)
              replace hx123_0 := (HB.out.cell (World.block_lt_of_cell? w _ hx123_0)).trans hx123_0
              replace hx123_1 := (HB.out.cell (World.block_lt_of_cell? w _ hx123_1)).trans hx123_1
              replace p123 := eq_true p123
              replace q123 := eq_true q123
              go_wp2_with (first | ((with_reducible refine gate_dst (N := 6) rfl ?_); refine box_event ?hg (N := 6) ?hd (cs := #[.int .u64 0, .string (⟨#[]⟩ : ByteArray)]) (t := 46) ?hr ?_; (case hd => rfl); (case hg => rfl); (case hr => first | (go_simp; done) | (go_simp; rfl)); intro gb124 hg w23 hbox hb; have n0_ := Aside0.mk (blk_below (g := gb118) (o := .cells #[.int .u64 ((rd_T46 l0 x9_1).f0), .string ((rd_T46 l0 x9_1).f1)] 46 (0, 0)) (by (with_reducible repeat (first | refine blk_drewN ?_ _ | refine blk_drew ?_ | refine blk_alloc ?_ _)); exact BK118.out) hb); have n1_ := Aside0.mk (below_step (by repeat (first | (with_reducible first | exact HB.out | apply below_alloc | apply pw_below_drewN | apply below_drew1 | refine below_set ?_ GE118.out) | exact HB.out)) hb); have n2_ := Aside0.mk (hbox); have n3_ := Aside0.mk ((by rw [hg]; exact (below_size (by repeat (first | (with_reducible first | exact HB.out | apply below_alloc | apply pw_below_drewN | apply below_drew1 | refine below_set ?_ GE118.out) | exact HB.out))) : w.heap.size ≤ gb124)); have n4_ := Aside0.mk ((by rw [hg]; exact (below_size (by repeat (first | (with_reducible first | exact HB.out | apply below_alloc | apply pw_below_drewN | apply below_drew1 | refine below_set ?_ GE118.out) | exact HB.out))) : w.heap.size ≤ gb124)); have n5_ := Aside0.mk ((by rw [hg]; exact Nat.ne_of_lt (blk_lt (g := gb118) (o := .cells #[.int .u64 ((rd_T46 l0 x9_1).f0), .string ((rd_T46 l0 x9_1).f1)] 46 (0, 0)) (by (with_reducible repeat (first | refine blk_drewN ?_ _ | refine blk_drew ?_ | refine blk_alloc ?_ _)); exact BK118.out)) : gb118 ≠ gb124)); have n6_ := Aside0.mk ((by rw [hg]; exact Nat.ne_of_gt (blk_lt (g := gb118) (o := .cells #[.int .u64 ((rd_T46 l0 x9_1).f0), .string ((rd_T46 l0 x9_1).f1)] 46 (0, 0)) (by (with_reducible repeat (first | refine blk_drewN ?_ _ | refine blk_drew ?_ | refine blk_alloc ?_ _)); exact BK118.out)) : gb124 ≠ gb118)); clear BK118; clear HB; have BK118 := n0_; have HB := n1_; have BK124 := n2_; have GW124 := n3_; have GE124 := n4_; have NB118_124 := n5_; have NB124_118 := n6_; clear n0_ n1_ n2_ n3_ n4_ n5_ n6_; clear hb hbox hg; have hnb24 := NB124_118.out; have hnc24 := NB118_124.out; have hcz25_0 : w23.cell? ⟨gb124, 0, none⟩ = some (.int .u64 0) := (blk_cell BK124.out 0).trans rfl; have hcz25_1 : w23.cell? ⟨gb124, 1, none⟩ = some (.string (⟨#[]⟩ : ByteArray)) := (blk_cell BK124.out 1).trans rfl; have hfz25_0 := blk_frozen BK124.out 0; have hfz25_1 := blk_frozen BK124.out 1; have hcz26_0 : w23.cell? ⟨gb118, 0, none⟩ = some (.int .u64 ((rd_T46 l0 x9_1).f0)) := (blk_cell BK118.out 0).trans rfl; have hcz26_1 : w23.cell? ⟨gb118, 1, none⟩ = some (.string ((rd_T46 l0 x9_1).f1)) := (blk_cell BK118.out 1).trans rfl; have hfz26_0 := blk_frozen BK118.out 0; have hfz26_1 := blk_frozen BK118.out 1))
              go_roundg k2
              case measure => have := HK1.out; have := HK2.out; omega
              case rel => exact ⟨(wrap64 (x22_2 + 1)), (by first | rfl | (simp; done) | (simp [*]; done)), H', ⟨by have := HK1.out; have := HK2.out; omega⟩, ⟨by (with_reducible repeat (first | refine blk_drewN ?_ _ | refine blk_drew ?_ | refine blk_alloc ?_ _)); refine blk_far ?_ NB118_124.out _; (with_reducible repeat (first | refine blk_drewN ?_ _ | refine blk_drew ?_ | refine blk_alloc ?_ _)); refine blk_far ?_ NB118_124.out _; (with_reducible repeat (first | refine blk_drewN ?_ _ | refine blk_drew ?_ | refine blk_alloc ?_ _)); exact BK118.out⟩, ⟨by repeat (first | (with_reducible first | exact HB.out | apply below_alloc | apply pw_below_drewN | apply below_drew1 | refine below_set ?_ GE118.out | refine below_set ?_ GE124.out) | exact HB.out)⟩⟩
            ·rw [if_neg c17] at H
             exact absurd H (by simp)
           ·rw [if_neg c16] at H
            exact absurd H (by simp)
          ·rw [if_neg c15] at H
           have c15b0 : decide (x22_2 < (y119.length : Int)) = false := decide_eq_false c15
           clear c15
           have H' := Aside0.mk H
           clear H
           go_wp2
           go_roundg k2
           case measure => have := HK1.out; have := HK2.out; omega
           case rel => exact ⟨(wrap64 (x9_1 + 1)), (by first | rfl | (simp; done) | (simp [*]; done)), H', ⟨by have := HK1.out; have := HK2.out; omega⟩, ⟨by repeat (first | (with_reducible first | exact HB.out | apply below_alloc | apply pw_below_drewN | apply below_drew1 | refine below_set ?_ GE118.out) | exact HB.out)⟩⟩
       ·rw [if_neg c9] at H
        exact absurd H (by simp)
     ·rw [if_neg c4] at H
      exact absurd H (by simp)
    ·rw [if_neg c3] at H
     exact absurd H (by simp)
   ·rw [if_neg c2] at H
    have c2b0 : decide (x9_1 < (l0.length : Int)) = false := decide_eq_false c2
    clear c2
    obtain rfl := Option.some.inj H
    go_wp2
    go_ret
    exact ⟨by first | rfl | (simp [errW_none, errW_some] <;> rfl) | (simp [*, errW_none, errW_some] <;> rfl), by repeat (first | (with_reducible first | exact HB.out | apply below_alloc | apply pw_below_drewN | apply below_drew1) | exact HB.out)⟩
/-! ### saltuslaw16_alive: function 26 -/
def saltuslaw16_alive.f (k : Nat)  : Option (Bool) := (skip_Find.f k (⟨#[107]⟩ : ByteArray) (([(⟨3, (⟨#[]⟩ : ByteArray)⟩ : S46), (⟨5, (⟨#[]⟩ : ByteArray)⟩ : S46), (⟨9, (⟨#[]⟩ : ByteArray)⟩ : S46)] : List (S46))) 6).bind fun bt128 => (if bt128.2.2 = 0 then (if bt128.1 = 1 then (some (decide ((bt128.2.1.length : Int) > 0))) else (some false)) else (some false))
theorem saltuslaw16_alive.mono : ∀ k, LeO (saltuslaw16_alive.f k ) (saltuslaw16_alive.f (k + 1) ) := by
 intro  k
 unfold saltuslaw16_alive.f
 repeat' first
   | (with_reducible exact skip_Find.mono _ _ _ _)
   | (with_reducible exact LeO.refl _)
   | (with_reducible exact LeO.none _)
   | (with_reducible refine LeO.ite ?_ ?_)
   | (with_reducible refine LeO.bind ?_ (fun _ => ?_))
   | exact skip_Find.mono _ _ _ _
   | exact LeO.none _
   | refine LeO.ite ?_ ?_
   | refine LeO.bind ?_ (fun _ => ?_)
set_option maxHeartbeats 8000000 in
set_option maxRecDepth 100000 in
theorem saltuslaw16_alive.calls (k : Nat)  (r : Bool) (w : World) (h : saltuslaw16_alive.f k  = some r) (hT0 : Tower.TabW w) :
  Calls Tryd.prog 26 #[] w fun e w' => e = .returned (.bool r) ∧ Below w.heap.size w w' := by
 have HT := Aside0.mk hT0
 clear hT0
 have hu46 := Tryd.underlying46
 have HB := Aside0.mk (Below.refl w.heap.size w)
 have H : ((skip_Find.f k (⟨#[107]⟩ : ByteArray) (([(⟨3, (⟨#[]⟩ : ByteArray)⟩ : S46), (⟨5, (⟨#[]⟩ : ByteArray)⟩ : S46), (⟨9, (⟨#[]⟩ : ByteArray)⟩ : S46)] : List (S46))) 6).bind fun bt128 => (if bt128.2.2 = 0 then (if bt128.1 = 1 then (some (decide ((bt128.2.1.length : Int) > 0))) else (some false)) else (some false))) = some r := h
 clear h
 obtain ⟨y125, hy125⟩ : ∃ y_ : List (S46), y_ = (([(⟨3, (⟨#[]⟩ : ByteArray)⟩ : S46), (⟨5, (⟨#[]⟩ : ByteArray)⟩ : S46), (⟨9, (⟨#[]⟩ : ByteArray)⟩ : S46)] : List (S46))) := ⟨_, rfl⟩
 replace H : ((skip_Find.f k (⟨#[107]⟩ : ByteArray) y125 6).bind fun bt128 => (if bt128.2.2 = 0 then (if bt128.1 = 1 then (some (decide ((bt128.2.1.length : Int) > 0))) else (some false)) else (some false))) = some r := by first | (rw [hy125]; with_reducible exact H) | (have H2_ := (Option.bind_some _ _).symm.trans H; rw [hy125]; with_reducible exact H2_) | (have H2_ := (Option.bind_some _ _).symm.trans H; with_reducible exact H2_) | with_reducible exact H | (rw [hy125]; exact H) | exact H
 have Ny125 := Aside0.mk hy125
 clear hy125
 replace H := Option.bind_eq_some_iff.mp H
 obtain ⟨⟨t128, t129, t130⟩, A10, H⟩ := H
 (try dsimp only at H)
 have A1 := Aside0.mk A10
 clear A10
 by_cases c2 : t130 = 0
 ·rw [if_pos c2] at H
  have c2b0 : (t130 == 0) = true := beq_iff_eq.mpr c2
  have c2b1 : (t130 != 0) = false := bne_eq_false_iff_eq.mpr c2
  clear c2
  by_cases c3 : t128 = 1
  ·rw [if_pos c3] at H
   have c3b0 : (t128 == 1) = true := beq_iff_eq.mpr c3
   have c3b1 : (t128 != 1) = false := bne_eq_false_iff_eq.mpr c3
   clear c3
   obtain rfl := Option.some.inj H
   go_enter Tryd.func26, Tryd.ntmps26
   go_wp2_with (first | ((with_reducible refine gate_dst (N := 8) rfl ?_); (try (refine gate_guard (by rfl) ?_; dsimp only)); refine Kd.R_lit k46 _ 46 ?hg (N := 8) ?hd (xs := ([(⟨3, (⟨#[]⟩ : ByteArray)⟩ : S46), (⟨5, (⟨#[]⟩ : ByteArray)⟩ : S46), (⟨9, (⟨#[]⟩ : ByteArray)⟩ : S46)] : List (S46))) (inner := [.int .u64 3, .string (⟨#[]⟩ : ByteArray), .int .u64 5, .string (⟨#[]⟩ : ByteArray), .int .u64 9, .string (⟨#[]⟩ : ByteArray)]) (ok := fun _ => True) (okp := fun _ => True) ?hr ?hp (fun _ hk => hk) trivial (Below.refl _ _) (Nat.le_refl _) (by simp) ?_; (case hd => rfl); (case hg => rfl); (case hr => first | (go_simp; done) | (go_simp; rfl)); (case hp => exact (Reps.c2 (show Kd.M k46 _ _ _ (⟨3, (⟨#[]⟩ : ByteArray)⟩ : S46) [.int .u64 3, .string (⟨#[]⟩ : ByteArray)] from (k46_mkM _ _ _ (⟨3, (⟨#[]⟩ : ByteArray)⟩ : S46) )) (Reps.c2 (show Kd.M k46 _ _ _ (⟨5, (⟨#[]⟩ : ByteArray)⟩ : S46) [.int .u64 5, .string (⟨#[]⟩ : ByteArray)] from (k46_mkM _ _ _ (⟨5, (⟨#[]⟩ : ByteArray)⟩ : S46) )) (Reps.c2 (show Kd.M k46 _ _ _ (⟨9, (⟨#[]⟩ : ByteArray)⟩ : S46) [.int .u64 9, .string (⟨#[]⟩ : ByteArray)] from (k46_mkM _ _ _ (⟨9, (⟨#[]⟩ : ByteArray)⟩ : S46) )) (Reps.none _ _))))); intro v126 w4 ho5 hb hg_ hnew_; clear hg_ hnew_; (first | rw [← Ny125.out] at ho5 | (simp only [Int.reduceToNat] at ho5; rw [← Ny125.out] at ho5)); have n0_ := Aside0.mk (Kd.R_lower ho5 (below_size (by repeat (first | (with_reducible first | exact HB.out | apply below_alloc | apply pw_below_drewN | apply below_drew1) | exact HB.out)))); have n1_ := Aside0.mk (below_step (by repeat (first | (with_reducible first | exact HB.out | apply below_alloc | apply pw_below_drewN | apply below_drew1) | exact HB.out)) hb); clear HB; have HO127 := n0_; have HB := n1_; clear n0_ n1_; clear hb ho5; obtain ⟨Ao6, co6, eo6⟩ := Kd.R_slice HO127.out; subst eo6) | ((with_reducible refine gate_callee (f := 24) rfl ?_); refine goesL_ (some 9) rfl rfl Tryd.func24 (by kernel_rfl) rfl #[.string (⟨#[107]⟩ : ByteArray), .slice Ao6 y125.length co6, .int .u64 6] rfl (by (try simp only [List.map_toArray, List.map_cons, List.map_nil]); first | done | rfl | (simp only [List.length_drop, List.length_take]; rfl)) ?_; (with_reducible refine (skip_Find.calls k (⟨#[107]⟩ : ByteArray) _ _ y125 6 t128 t129 t130 _ ?side1 ?side2 A1.out (Tower.tab_below HT.out (by repeat (first | (with_reducible first | exact HB.out | apply below_alloc | apply pw_below_drewN | apply below_drew1) | exact HB.out)) (Nat.le_refl _))).mono ?_); (case side1 => repeat (first | exact (Kd.R_reads' HO127.out).2.2 | (with_reducible refine Kd.C_alloc ?_ _) | (with_reducible refine Kd.C_drewN ?_ _) | (with_reducible refine Kd.C_drew ?_))); (case side2 => exact (Kd.R_reads' HO127.out).2.1); rintro e w7 ⟨v131, rfl, ho0, hb⟩; refine ⟨_, rfl, ?_⟩; have n0_ := Aside0.mk (Kd.R_below (by (with_reducible repeat (first | apply Kd.R_alloc | apply Kd.R_drewN | apply Kd.R_drew)); exact HO127.out) hb); have n1_ := Aside0.mk (Kd.R_lower ho0 (below_size (by repeat (first | (with_reducible first | exact HB.out | apply below_alloc | apply pw_below_drewN | apply below_drew1) | exact HB.out)))); have n2_ := Aside0.mk (below_step (by repeat (first | (with_reducible first | exact HB.out | apply below_alloc | apply pw_below_drewN | apply below_drew1) | exact HB.out)) hb); clear HO127; clear HB; have HO127 := n0_; have HO132 := n1_; have HB := n2_; clear n0_ n1_ n2_; (try clear hb); (try clear hb2); (try clear hk); (try clear hi); (try clear ho0); obtain ⟨Ao8, co8, eo8⟩ := Kd.R_slice HO132.out; subst eo8))
   go_ret
   exact ⟨by first | rfl | (simp [errW_none, errW_some] <;> rfl) | (simp [*, errW_none, errW_some] <;> rfl), by repeat (first | (with_reducible first | exact HB.out | apply below_alloc | apply pw_below_drewN | apply below_drew1) | exact HB.out)⟩
  ·rw [if_neg c3] at H
   have c3b0 : (t128 == 1) = false := beq_eq_false_iff_ne.mpr c3
   have c3b1 : (t128 != 1) = true := bne_iff_ne.mpr c3
   obtain rfl := Option.some.inj H
   go_enter Tryd.func26, Tryd.ntmps26
   go_wp2_with (first | ((with_reducible refine gate_dst (N := 8) rfl ?_); (try (refine gate_guard (by rfl) ?_; dsimp only)); refine Kd.R_lit k46 _ 46 ?hg (N := 8) ?hd (xs := ([(⟨3, (⟨#[]⟩ : ByteArray)⟩ : S46), (⟨5, (⟨#[]⟩ : ByteArray)⟩ : S46), (⟨9, (⟨#[]⟩ : ByteArray)⟩ : S46)] : List (S46))) (inner := [.int .u64 3, .string (⟨#[]⟩ : ByteArray), .int .u64 5, .string (⟨#[]⟩ : ByteArray), .int .u64 9, .string (⟨#[]⟩ : ByteArray)]) (ok := fun _ => True) (okp := fun _ => True) ?hr ?hp (fun _ hk => hk) trivial (Below.refl _ _) (Nat.le_refl _) (by simp) ?_; (case hd => rfl); (case hg => rfl); (case hr => first | (go_simp; done) | (go_simp; rfl)); (case hp => exact (Reps.c2 (show Kd.M k46 _ _ _ (⟨3, (⟨#[]⟩ : ByteArray)⟩ : S46) [.int .u64 3, .string (⟨#[]⟩ : ByteArray)] from (k46_mkM _ _ _ (⟨3, (⟨#[]⟩ : ByteArray)⟩ : S46) )) (Reps.c2 (show Kd.M k46 _ _ _ (⟨5, (⟨#[]⟩ : ByteArray)⟩ : S46) [.int .u64 5, .string (⟨#[]⟩ : ByteArray)] from (k46_mkM _ _ _ (⟨5, (⟨#[]⟩ : ByteArray)⟩ : S46) )) (Reps.c2 (show Kd.M k46 _ _ _ (⟨9, (⟨#[]⟩ : ByteArray)⟩ : S46) [.int .u64 9, .string (⟨#[]⟩ : ByteArray)] from (k46_mkM _ _ _ (⟨9, (⟨#[]⟩ : ByteArray)⟩ : S46) )) (Reps.none _ _))))); intro v126 w9 ho10 hb hg_ hnew_; clear hg_ hnew_; (first | rw [← Ny125.out] at ho10 | (simp only [Int.reduceToNat] at ho10; rw [← Ny125.out] at ho10)); have n0_ := Aside0.mk (Kd.R_lower ho10 (below_size (by repeat (first | (with_reducible first | exact HB.out | apply below_alloc | apply pw_below_drewN | apply below_drew1) | exact HB.out)))); have n1_ := Aside0.mk (below_step (by repeat (first | (with_reducible first | exact HB.out | apply below_alloc | apply pw_below_drewN | apply below_drew1) | exact HB.out)) hb); clear HB; have HO127 := n0_; have HB := n1_; clear n0_ n1_; clear hb ho10; obtain ⟨Ao11, co11, eo11⟩ := Kd.R_slice HO127.out; subst eo11) | ((with_reducible refine gate_callee (f := 24) rfl ?_); refine goesL_ (some 9) rfl rfl Tryd.func24 (by kernel_rfl) rfl #[.string (⟨#[107]⟩ : ByteArray), .slice Ao11 y125.length co11, .int .u64 6] rfl (by (try simp only [List.map_toArray, List.map_cons, List.map_nil]); first | done | rfl | (simp only [List.length_drop, List.length_take]; rfl)) ?_; (with_reducible refine (skip_Find.calls k (⟨#[107]⟩ : ByteArray) _ _ y125 6 t128 t129 t130 _ ?side1 ?side2 A1.out (Tower.tab_below HT.out (by repeat (first | (with_reducible first | exact HB.out | apply below_alloc | apply pw_below_drewN | apply below_drew1) | exact HB.out)) (Nat.le_refl _))).mono ?_); (case side1 => repeat (first | exact (Kd.R_reads' HO127.out).2.2 | (with_reducible refine Kd.C_alloc ?_ _) | (with_reducible refine Kd.C_drewN ?_ _) | (with_reducible refine Kd.C_drew ?_))); (case side2 => exact (Kd.R_reads' HO127.out).2.1); rintro e w12 ⟨v131, rfl, ho0, hb⟩; refine ⟨_, rfl, ?_⟩; have n0_ := Aside0.mk (Kd.R_below (by (with_reducible repeat (first | apply Kd.R_alloc | apply Kd.R_drewN | apply Kd.R_drew)); exact HO127.out) hb); have n1_ := Aside0.mk (Kd.R_lower ho0 (below_size (by repeat (first | (with_reducible first | exact HB.out | apply below_alloc | apply pw_below_drewN | apply below_drew1) | exact HB.out)))); have n2_ := Aside0.mk (below_step (by repeat (first | (with_reducible first | exact HB.out | apply below_alloc | apply pw_below_drewN | apply below_drew1) | exact HB.out)) hb); clear HO127; clear HB; have HO127 := n0_; have HO132 := n1_; have HB := n2_; clear n0_ n1_ n2_; (try clear hb); (try clear hb2); (try clear hk); (try clear hi); (try clear ho0)))
   go_ret
   exact ⟨by first | rfl | (simp [errW_none, errW_some] <;> rfl) | (simp [*, errW_none, errW_some] <;> rfl), by repeat (first | (with_reducible first | exact HB.out | apply below_alloc | apply pw_below_drewN | apply below_drew1) | exact HB.out)⟩
 ·rw [if_neg c2] at H
  have c2b0 : (t130 == 0) = false := beq_eq_false_iff_ne.mpr c2
  have c2b1 : (t130 != 0) = true := bne_iff_ne.mpr c2
  obtain rfl := Option.some.inj H
  go_enter Tryd.func26, Tryd.ntmps26
  go_wp2_with (first | ((with_reducible refine gate_dst (N := 8) rfl ?_); (try (refine gate_guard (by rfl) ?_; dsimp only)); refine Kd.R_lit k46 _ 46 ?hg (N := 8) ?hd (xs := ([(⟨3, (⟨#[]⟩ : ByteArray)⟩ : S46), (⟨5, (⟨#[]⟩ : ByteArray)⟩ : S46), (⟨9, (⟨#[]⟩ : ByteArray)⟩ : S46)] : List (S46))) (inner := [.int .u64 3, .string (⟨#[]⟩ : ByteArray), .int .u64 5, .string (⟨#[]⟩ : ByteArray), .int .u64 9, .string (⟨#[]⟩ : ByteArray)]) (ok := fun _ => True) (okp := fun _ => True) ?hr ?hp (fun _ hk => hk) trivial (Below.refl _ _) (Nat.le_refl _) (by simp) ?_; (case hd => rfl); (case hg => rfl); (case hr => first | (go_simp; done) | (go_simp; rfl)); (case hp => exact (Reps.c2 (show Kd.M k46 _ _ _ (⟨3, (⟨#[]⟩ : ByteArray)⟩ : S46) [.int .u64 3, .string (⟨#[]⟩ : ByteArray)] from (k46_mkM _ _ _ (⟨3, (⟨#[]⟩ : ByteArray)⟩ : S46) )) (Reps.c2 (show Kd.M k46 _ _ _ (⟨5, (⟨#[]⟩ : ByteArray)⟩ : S46) [.int .u64 5, .string (⟨#[]⟩ : ByteArray)] from (k46_mkM _ _ _ (⟨5, (⟨#[]⟩ : ByteArray)⟩ : S46) )) (Reps.c2 (show Kd.M k46 _ _ _ (⟨9, (⟨#[]⟩ : ByteArray)⟩ : S46) [.int .u64 9, .string (⟨#[]⟩ : ByteArray)] from (k46_mkM _ _ _ (⟨9, (⟨#[]⟩ : ByteArray)⟩ : S46) )) (Reps.none _ _))))); intro v126 w13 ho14 hb hg_ hnew_; clear hg_ hnew_; (first | rw [← Ny125.out] at ho14 | (simp only [Int.reduceToNat] at ho14; rw [← Ny125.out] at ho14)); have n0_ := Aside0.mk (Kd.R_lower ho14 (below_size (by repeat (first | (with_reducible first | exact HB.out | apply below_alloc | apply pw_below_drewN | apply below_drew1) | exact HB.out)))); have n1_ := Aside0.mk (below_step (by repeat (first | (with_reducible first | exact HB.out | apply below_alloc | apply pw_below_drewN | apply below_drew1) | exact HB.out)) hb); clear HB; have HO127 := n0_; have HB := n1_; clear n0_ n1_; clear hb ho14; obtain ⟨Ao15, co15, eo15⟩ := Kd.R_slice HO127.out; subst eo15) | ((with_reducible refine gate_callee (f := 24) rfl ?_); refine goesL_ (some 9) rfl rfl Tryd.func24 (by kernel_rfl) rfl #[.string (⟨#[107]⟩ : ByteArray), .slice Ao15 y125.length co15, .int .u64 6] rfl (by (try simp only [List.map_toArray, List.map_cons, List.map_nil]); first | done | rfl | (simp only [List.length_drop, List.length_take]; rfl)) ?_; (with_reducible refine (skip_Find.calls k (⟨#[107]⟩ : ByteArray) _ _ y125 6 t128 t129 t130 _ ?side1 ?side2 A1.out (Tower.tab_below HT.out (by repeat (first | (with_reducible first | exact HB.out | apply below_alloc | apply pw_below_drewN | apply below_drew1) | exact HB.out)) (Nat.le_refl _))).mono ?_); (case side1 => repeat (first | exact (Kd.R_reads' HO127.out).2.2 | (with_reducible refine Kd.C_alloc ?_ _) | (with_reducible refine Kd.C_drewN ?_ _) | (with_reducible refine Kd.C_drew ?_))); (case side2 => exact (Kd.R_reads' HO127.out).2.1); rintro e w16 ⟨v131, rfl, ho0, hb⟩; refine ⟨_, rfl, ?_⟩; have n0_ := Aside0.mk (Kd.R_below (by (with_reducible repeat (first | apply Kd.R_alloc | apply Kd.R_drewN | apply Kd.R_drew)); exact HO127.out) hb); have n1_ := Aside0.mk (Kd.R_lower ho0 (below_size (by repeat (first | (with_reducible first | exact HB.out | apply below_alloc | apply pw_below_drewN | apply below_drew1) | exact HB.out)))); have n2_ := Aside0.mk (below_step (by repeat (first | (with_reducible first | exact HB.out | apply below_alloc | apply pw_below_drewN | apply below_drew1) | exact HB.out)) hb); clear HO127; clear HB; have HO127 := n0_; have HO132 := n1_; have HB := n2_; clear n0_ n1_ n2_; (try clear hb); (try clear hb2); (try clear hk); (try clear hi); (try clear ho0)))
  go_ret
  exact ⟨by first | rfl | (simp [errW_none, errW_some] <;> rfl) | (simp [*, errW_none, errW_some] <;> rfl), by repeat (first | (with_reducible first | exact HB.out | apply below_alloc | apply pw_below_drewN | apply below_drew1) | exact HB.out)⟩
/-! ### saltusref16_Floor: function 27 -/
/-! ### saltusref16_HopsSame: function 28 -/
/-! ### saltusref15_Height: function 18 -/
/-! ### saltusref15_Heights: function 21 -/
end Go.Proofs.YtolbhliepkcihaaDoor.QSF
end
section
namespace Go.Proofs.YtolbhliepkcihaaDoor.QSF
open Go.RowKit Go.Proofs.YtolbhliepkcihaaDoor.Kinds Go.Proofs.YtolbhliepkcihaaDoorW.PrintWords Go.Proofs.YtolbhliepkcihaaDoorW.PrintLast Go.Proofs.YtolbhliepkcihaaDoorW.PrintMore
attribute [local go_sem] max2_int min2_int max_two min_two max_three min_three max_four min_four   -- for this text's walks alone
set_option linter.unusedVariables false
set_option linter.unusedSimpArgs false
/-! ### saltusref16_Keys: function 66 -/
/-! ### saltusref16_next: function 67 -/
/-! ### saltusref16_Hops: function 29 -/
/-! ### saltuslaw16_SkipFinds: function 6 -/
end Go.Proofs.YtolbhliepkcihaaDoor.QSF
end
section
namespace Go.Proofs.YtolbhliepkcihaaDoor.QSF
open Go.RowKit Go.Proofs.YtolbhliepkcihaaDoor.Kinds Go.Proofs.YtolbhliepkcihaaDoorW.PrintWords Go.Proofs.YtolbhliepkcihaaDoorW.PrintLast Go.Proofs.YtolbhliepkcihaaDoorW.PrintMore
attribute [local go_sem] max2_int min2_int max_two min_two max_three min_three max_four min_four   -- for this text's walks alone
set_option linter.unusedVariables false
set_option linter.unusedSimpArgs false
/-! ### saltuslaw16_SkipHops: function 7 -/
end Go.Proofs.YtolbhliepkcihaaDoor.QSF
end
section
namespace Go.Proofs.YtolbhliepkcihaaDoor.SkipPure
open Go.RowKit Go.Proofs.YtolbhliepkcihaaDoor.Kinds Go.Proofs.YtolbhliepkcihaaDoor.QSF Go.Proofs.YtolbhliepkcihaaDoorW.PrintWords Go.Proofs.YtolbhliepkcihaaDoorW.PrintLast Go.Proofs.YtolbhliepkcihaaDoorW.PrintMore Go.Proofs.YtolbhliepkcihaaDoor.Sha Go.Proofs.YtolbhliepkcihaaDoor.Mac Go.Proofs.YtolbhliepkcihaaDoor.Codec Go.Proofs.YtolbhliepkcihaaDoor.Tower
abbrev Item := S46
abbrev Hop := S48
def it (l : List Item) (i : Nat) : Item := rd_T46 l (i : Int)
def ky (l : List Item) (i : Nat) : Int := (it l i).f0
theorem w_succ (i n : Nat) (h : i < n) (hn : n ≤ 1000000000) : wrap64 ((i : Int) + 1) = ((i + 1 : Nat) : Int) := by unfold wrap64; omega
/-! ### a tower's height, by halving -/
/-! ### a list that may be -/
def okAt (l : List Item) (i : Nat) : Prop := (it l i).f1.size ≤ 64 ∧ (0 < i → ky l (i - 1) < ky l i)
def RightP (l : List Item) : Prop := (∀ i, i < l.length → okAt l i) ∧ l.length ≤ 64
theorem right_l0 (l : List Item) (hn : l.length ≤ 100000) (d : Nat) : ∀ i, i + d = l.length → (∀ j, j < i → okAt l j) →
  (RightP l ∧ Ev (fun k => skip_Right.l0 k l l (l.length : Int) (i : Int)) true) ∨ (¬RightP l ∧ Ev (fun k => skip_Right.l0 k l l (l.length : Int) (i : Int)) false) := by
 induction d with
 | zero =>
  intro i hi hp
  obtain rfl : i = l.length := by omega
  by_cases h : l.length ≤ 64
  ·refine .inl ⟨⟨hp, h⟩, Ev.step (fun k => ?_) (Ev.now true)⟩
   rw [skip_Right.l0, if_neg (by omega), decide_eq_true (show (l.length : Int) ≤ 64 by omega)]
  ·refine .inr ⟨fun hr => h hr.2, Ev.step (fun k => ?_) (Ev.now false)⟩
   rw [skip_Right.l0, if_neg (by omega), decide_eq_false (show ¬ (l.length : Int) ≤ 64 by omega)]
 | succ d ih =>
  intro i hi hp
  by_cases hs : (it l i).f1.size ≤ 64
  ·by_cases h0 : i = 0
   ·subst h0
    have hok : okAt l 0 := ⟨hs, fun h => absurd h (by omega)⟩
    have st : ∀ k, skip_Right.l0 (k + 1) l l (l.length : Int) ((0 : Nat) : Int) = skip_Right.l0 k l l (l.length : Int) ((0 + 1 : Nat) : Int) := fun k => by
     rw [skip_Right.l0, if_pos (by omega), if_pos (by omega), if_pos (by omega), if_neg (show ¬ ((((rd_T46 l ((0 : Nat) : Int)).f1).size : Int) > 64) by have := hs; unfold it at this; omega), if_neg (by omega), w_succ 0 l.length (by omega) (by omega)]
    rcases ih 1 (by omega) (fun j hj => by
     obtain rfl : j = 0 := (by omega)
     exact hok) with ⟨h1, h2⟩ | ⟨h1, h2⟩
    ·exact .inl ⟨h1, Ev.step st h2⟩
    ·exact .inr ⟨h1, Ev.step st h2⟩
   ·have ew : wrap64 ((i : Int) - 1) = ((i - 1 : Nat) : Int) := by unfold wrap64; omega
    by_cases hk : ky l (i - 1) < ky l i
    ·have hok : okAt l i := ⟨hs, fun _ => hk⟩
     have st : ∀ k, skip_Right.l0 (k + 1) l l (l.length : Int) (i : Int) = skip_Right.l0 k l l (l.length : Int) ((i + 1 : Nat) : Int) := fun k => by
      rw [skip_Right.l0, if_pos (by omega), if_pos (by omega), if_pos (by omega), if_neg (show ¬ ((((rd_T46 l (i : Int)).f1).size : Int) > 64) by have := hs; unfold it at this; omega), if_pos (by omega), ew, if_pos (by omega), if_pos (by omega),
       if_neg (show ¬ ((rd_T46 l ((i - 1 : Nat) : Int)).f0 ≥ (rd_T46 l (i : Int)).f0) by have := hk; unfold ky it at this; omega), w_succ i l.length (by omega) (by omega)]
     rcases ih (i + 1) (by omega) (fun j hj => by
      by_cases e : j = i
      ·subst e; exact hok
      ·exact hp j (by omega)) with ⟨h1, h2⟩ | ⟨h1, h2⟩
     ·exact .inl ⟨h1, Ev.step st h2⟩
     ·exact .inr ⟨h1, Ev.step st h2⟩
    ·refine .inr ⟨fun hr => hk ((hr.1 i (by omega)).2 (by omega)), Ev.step (fun k => ?_) (Ev.now false)⟩
     rw [skip_Right.l0, if_pos (by omega), if_pos (by omega), if_pos (by omega), if_neg (show ¬ ((((rd_T46 l (i : Int)).f1).size : Int) > 64) by have := hs; unfold it at this; omega), if_pos (by omega), ew, if_pos (by omega), if_pos (by omega),
       if_pos (show ((rd_T46 l ((i - 1 : Nat) : Int)).f0 ≥ (rd_T46 l (i : Int)).f0) by have := hk; unfold ky it at this; omega)]
  ·refine .inr ⟨fun hr => hs (hr.1 i (by omega)).1, Ev.step (fun k => ?_) (Ev.now false)⟩
   rw [skip_Right.l0, if_pos (by omega), if_pos (by omega), if_pos (by omega), if_pos (show ((((rd_T46 l (i : Int)).f1).size : Int) > 64) by have := hs; unfold it at this; omega)]
theorem right_ev (l : List Item) (hn : l.length ≤ 100000) : (RightP l ∧ Ev (fun k => skip_Right.f k l) true) ∨ (¬RightP l ∧ Ev (fun k => skip_Right.f k l) false) :=
 right_l0 l hn l.length 0 (by omega) (fun j hj => absurd hj (by omega))
theorem asc (l : List Item) (n : Nat) (h : ∀ j, j < n → okAt l j) (b : Nat) : ∀ a, a < b → b < n → ky l a < ky l b := by
 induction b with
 | zero => intro a ha; omega
 | succ b ih =>
  intro a ha hb
  have h1 := (h (b + 1) hb).2 (by omega)
  rw [show b + 1 - 1 = b from rfl] at h1
  by_cases e : a = b
  ·subst e; exact h1
  ·have := ih a (by omega) (by omega)
   omega
theorem it_take (l : List Item) (i j : Nat) (h : j < i) (_ : i ≤ l.length) : rd_T46 (l.take i) (j : Int) = it l j := by
 unfold it rd_T46
 rw [Int.toNat_natCast, List.getD_eq_getElem?_getD, List.getD_eq_getElem?_getD, List.getElem?_take, if_pos h]
theorem refright_l1 (l : List Item) (hn : l.length ≤ 100000) (i : Nat) (hi : i < l.length) (x : Int) (v : ByteArray) (e : Nat) : ∀ j, j + e = i →
  ((∀ q, j ≤ q → q < i → ky l q < x) → ∀ r, Ev (fun k => saltusref16_Right.l0 k l l (l.length : Int) ((i + 1 : Nat) : Int)) r → Ev (fun k => saltusref16_Right.l1 k l l (l.length : Int) (i : Int) (l.take i) ((l.take i).length : Int) (j : Int) x v) r) ∧
  ((∃ q, j ≤ q ∧ q < i ∧ ¬ky l q < x) → Ev (fun k => saltusref16_Right.l1 k l l (l.length : Int) (i : Int) (l.take i) ((l.take i).length : Int) (j : Int) x v) false) := by
 have hz : (l.take i).length = i := by rw [List.length_take]; omega
 induction e with
 | zero =>
  intro j hj
  obtain rfl : j = i := by omega
  refine ⟨fun _ r hr => Ev.step (fun k => ?_) hr, fun ⟨q, h1, h2, _⟩ => by omega⟩
  rw [saltusref16_Right.l1, if_neg (by omega), w_succ j l.length hi (by omega)]
 | succ e ih =>
  intro j hj
  obtain ⟨ih1, ih2⟩ := ih (j + 1) (by omega)
  by_cases hk : ky l j < x
  ·have st : ∀ k, saltusref16_Right.l1 (k + 1) l l (l.length : Int) (i : Int) (l.take i) ((l.take i).length : Int) (j : Int) x v = saltusref16_Right.l1 k l l (l.length : Int) (i : Int) (l.take i) ((l.take i).length : Int) ((j + 1 : Nat) : Int) x v := fun k => by
    rw [saltusref16_Right.l1, if_pos (by omega), if_pos (by omega), if_pos (by omega), it_take l i j (by omega) (by omega), if_neg (show ¬ ((it l j).f0 ≥ x) by have := hk; unfold ky at this; omega), w_succ j l.length (by omega) (by omega)]
   refine ⟨fun h r hr => Ev.step st (ih1 (fun q h1 h2 => h q (by omega) h2) r hr), fun ⟨q, h1, h2, h3⟩ => Ev.step st (ih2 ⟨q, ?_, h2, h3⟩)⟩
   by_cases e : q = j
   ·subst e; exact absurd hk h3
   ·omega
  ·refine ⟨fun h => absurd (h j (Nat.le_refl _) (by omega)) hk, fun _ => Ev.step (fun k => ?_) (Ev.now false)⟩
   rw [saltusref16_Right.l1, if_pos (by omega), if_pos (by omega), if_pos (by omega), it_take l i j (by omega) (by omega), if_pos (show ((it l j).f0 ≥ x) by have := hk; unfold ky at this; omega)]
theorem refright_l0 (l : List Item) (hn : l.length ≤ 100000) (d : Nat) : ∀ i, i + d = l.length → (∀ j, j < i → okAt l j) →
  (RightP l ∧ Ev (fun k => saltusref16_Right.l0 k l l (l.length : Int) (i : Int)) true) ∨ (¬RightP l ∧ Ev (fun k => saltusref16_Right.l0 k l l (l.length : Int) (i : Int)) false) := by
 induction d with
 | zero =>
  intro i hi hp
  obtain rfl : i = l.length := by omega
  by_cases h : l.length ≤ 64
  ·refine .inl ⟨⟨hp, h⟩, Ev.step (fun k => ?_) (Ev.now true)⟩
   rw [saltusref16_Right.l0, if_neg (by omega), decide_eq_true (show (l.length : Int) ≤ 64 by omega)]
  ·refine .inr ⟨fun hr => h hr.2, Ev.step (fun k => ?_) (Ev.now false)⟩
   rw [saltusref16_Right.l0, if_neg (by omega), decide_eq_false (show ¬ (l.length : Int) ≤ 64 by omega)]
 | succ d ih =>
  intro i hi hp
  by_cases hs : (it l i).f1.size ≤ 64
  ·have st : ∀ k, saltusref16_Right.l0 (k + 1) l l (l.length : Int) (i : Int) = saltusref16_Right.l1 k l l (l.length : Int) (i : Int) (l.take i) ((l.take i).length : Int) ((0 : Nat) : Int) (ky l i) (it l i).f1 := fun k => by
    rw [saltusref16_Right.l0, if_pos (by omega), if_pos (by omega), if_pos (by omega), if_neg (show ¬ ((((rd_T46 l (i : Int)).f1).size : Int) > 64) by have := hs; unfold it at this; omega), if_pos (by omega), Int.toNat_natCast, Option.bind_some]
    rfl
   obtain ⟨g1, g2⟩ := refright_l1 l hn i (by omega) (ky l i) (it l i).f1 i 0 (by omega)
   by_cases hk : 0 < i → ky l (i - 1) < ky l i
   ·have hok : okAt l i := ⟨hs, hk⟩
    have hp2 : ∀ j, j < i + 1 → okAt l j := fun j hj => by
     by_cases e : j = i
     ·subst e; exact hok
     ·exact hp j (by omega)
    have hall : ∀ q, 0 ≤ q → q < i → ky l q < ky l i := fun q _ hq => asc l (i + 1) hp2 i q hq (by omega)
    rcases ih (i + 1) (by omega) hp2 with ⟨h1, h2⟩ | ⟨h1, h2⟩
    ·exact .inl ⟨h1, Ev.step st (g1 hall true h2)⟩
    ·exact .inr ⟨h1, Ev.step st (g1 hall false h2)⟩
   ·refine .inr ⟨fun hr => hk (hr.1 i (by omega)).2, Ev.step st (g2 ⟨i - 1, by omega, ?_, fun h => hk fun _ => h⟩)⟩
    rcases Nat.eq_zero_or_pos i with e | e
    ·exact absurd (fun h => absurd h (by omega)) hk
    ·omega
  ·refine .inr ⟨fun hr => hs (hr.1 i (by omega)).1, Ev.step (fun k => ?_) (Ev.now false)⟩
   rw [saltusref16_Right.l0, if_pos (by omega), if_pos (by omega), if_pos (by omega), if_pos (show ((((rd_T46 l (i : Int)).f1).size : Int) > 64) by have := hs; unfold it at this; omega)]
theorem refright_ev (l : List Item) (hn : l.length ≤ 100000) : (RightP l ∧ Ev (fun k => saltusref16_Right.f k l) true) ∨ (¬RightP l ∧ Ev (fun k => saltusref16_Right.f k l) false) :=
 refright_l0 l hn l.length 0 (by omega) (fun j hj => absurd hj (by omega))
end Go.Proofs.YtolbhliepkcihaaDoor.SkipPure
end
section
namespace Go.Proofs.YtolbhliepkcihaaDoor.SkipPure
open Go.RowKit Go.Proofs.YtolbhliepkcihaaDoor.Kinds Go.Proofs.YtolbhliepkcihaaDoor.QSF Go.Proofs.YtolbhliepkcihaaDoorW.PrintWords Go.Proofs.YtolbhliepkcihaaDoorW.PrintLast Go.Proofs.YtolbhliepkcihaaDoorW.PrintMore Go.Proofs.YtolbhliepkcihaaDoor.Sha Go.Proofs.YtolbhliepkcihaaDoor.Mac Go.Proofs.YtolbhliepkcihaaDoor.Codec Go.Proofs.YtolbhliepkcihaaDoor.Tower
def keysOk (l : List Item) : Prop := ∀ y, y ∈ l → 0 ≤ y.f0 ∧ y.f0 ≤ 18446744073709551615
def htsL (key : ByteArray) (l : List Item) : List Int := l.map fun x => ((heightN key x.f0.toNat : Nat) : Int)
theorem hts_len (key : ByteArray) (l : List Item) : (htsL key l).length = l.length := by unfold htsL; rw [List.length_map]
theorem it_mem (l : List Item) (i : Nat) (h : i < l.length) : it l i = l[i] := by
 unfold it rd_T46
 rw [Int.toNat_natCast, List.getD_eq_getElem?_getD, List.getElem?_eq_getElem h]
 rfl
theorem ky_ok {l : List Item} (hk : keysOk l) (i : Nat) (h : i < l.length) : 0 ≤ ky l i ∧ ky l i ≤ 18446744073709551615 := by
 unfold ky
 rw [it_mem l i h]
 exact hk _ (List.getElem_mem h)
theorem hts_at (key : ByteArray) (l : List Item) (i : Nat) (h : i < l.length) : rd (htsL key l) (i : Int) = ((heightN key (ky l i).toNat : Nat) : Int) := by
 unfold rd ky
 rw [it_mem l i h, Int.toNat_natCast, List.getD_eq_getElem?_getD, List.getElem?_eq_getElem (by rw [hts_len]; exact h)]
 simp [htsL]
theorem hts_get (key : ByteArray) (l : List Item) (i : Nat) (h : i < l.length) : (htsL key l)[i]'(by rw [hts_len]; exact h) = ((heightN key (ky l i).toNat : Nat) : Int) := by
 unfold ky
 rw [it_mem l i h]
 simp [htsL]
/-! ### the array of heights is filled -/
theorem fill_set (H : List Int) (i : Nat) (h : i < H.length) : (H.take i ++ List.replicate (H.length - i) 0).set i (H[i]'h) = H.take (i + 1) ++ List.replicate (H.length - (i + 1)) 0 := by
 have hz : (H.take i).length = i := by rw [List.length_take]; omega
 rw [List.set_append_right _ _ (by omega), hz, Nat.sub_self, show H.length - i = (H.length - (i + 1)) + 1 from by omega, List.replicate_succ, List.set_cons_zero, List.take_succ_eq_append_getElem h, List.append_assoc]
 rfl
theorem find_l0 (key : ByteArray) (hkey : key.size ≤ 1000000000) (l : List Item) (hn : l.length ≤ 100000) (hk : keysOk l) (q : Int) (r : Int × List Hop × Int) (hr : Ev (fun k => skip_Find.l1 k l q (htsL key l) (-1) [] 7) r) (d : Nat) : ∀ i, i + d = l.length →
  Ev (fun k => skip_Find.l0 k key l q ((htsL key l).take i ++ List.replicate ((htsL key l).length - i) 0) l (l.length : Int) (i : Int)) r := by
 have hz := hts_len key l
 induction d with
 | zero =>
  intro i hi
  obtain rfl : i = l.length := by omega
  refine Ev.step (fun k => ?_) hr
  rw [skip_Find.l0, if_neg (by omega), ← hz, List.take_length, Nat.sub_self]
  simp
 | succ d ih =>
  intro i hi
  refine Ev.step (fun k => ?_) (ih (i + 1) (by omega))
  have hb := ky_ok hk i (by omega)
  have e1 : tower_Height.f key (ky l i) = some ((heightN key (ky l i).toNat : Nat) : Int) := if_pos ⟨hkey, hb.1, by omega⟩
  have hlen : ((htsL key l).take i ++ List.replicate ((htsL key l).length - i) 0).length = l.length := by
   rw [List.length_append, List.length_take, List.length_replicate]; omega
  rw [skip_Find.l0, if_pos (by omega), if_pos (by omega), if_pos (by omega), show (rd_T46 l (i : Int)).f0 = ky l i from rfl, e1, Option.bind_some, if_pos (by omega), Int.toNat_natCast, w_succ i l.length (by omega) (by omega),
   ← hts_get key l i (by omega), fill_set (htsL key l) i (by omega)]
/-! ### the next one that is above a level -/
def nxF (h : List Int) (L : Int) : Nat → Nat → Nat
 | 0, i => i
 | d + 1, i => if rd h (i : Int) ≤ L then nxF h L d (i + 1) else i
def nx (h : List Int) (L : Int) (i : Nat) : Nat := nxF h L (h.length - i) i
theorem nxF_ge (h : List Int) (L : Int) : ∀ d i, i ≤ nxF h L d i ∧ nxF h L d i ≤ i + d
 | 0, i => ⟨Nat.le_refl _, Nat.le_refl _⟩
 | d + 1, i => by
  unfold nxF
  split
  ·have := nxF_ge h L d (i + 1)
   omega
  ·omega
theorem nx_ge (h : List Int) (L : Int) (i : Nat) (hi : i ≤ h.length) : i ≤ nx h L i ∧ nx h L i ≤ h.length := by
 have := nxF_ge h L (h.length - i) i
 unfold nx
 omega
theorem nx_zero (h : List Int) (i : Nat) (hi : i < h.length) (hp : 0 < rd h (i : Int)) : nx h 0 i = i := by
 unfold nx
 rw [show h.length - i = (h.length - i - 1) + 1 from by omega, nxF, if_neg (by omega)]
theorem find_l2 (l : List Item) (h : List Int) (hl : h.length = l.length) (hn : l.length ≤ 100000) (q : Int) (a : Int) (hops : List Hop) (hh : hops.length ≤ 100000) (L : Nat) (hL : L < 8) (r : Int × List Hop × Int) (d : Nat) : ∀ i, i + d = l.length →
  (¬(nxF h L d i < l.length ∧ ky l (nxF h L d i) ≤ q) → Ev (fun k => skip_Find.l1 k l q h a hops ((L : Int) - 1)) r → Ev (fun k => skip_Find.l2 k l q h a hops (L : Int) (i : Int)) r) ∧
  (nxF h L d i < l.length ∧ ky l (nxF h L d i) ≤ q → Ev (fun k => skip_Find.l1 k l q h ((nxF h L d i : Nat) : Int) (hops ++ [⟨(L : Int), ((nxF h L d i : Nat) : Int)⟩]) (L : Int)) r → Ev (fun k => skip_Find.l2 k l q h a hops (L : Int) (i : Int)) r) := by
 have ew : wrap64 ((L : Int) - 1) = (L : Int) - 1 := by unfold wrap64; omega
 induction d with
 | zero =>
  intro i hi
  obtain rfl : i = l.length := by omega
  refine ⟨fun _ hr => Ev.step (fun k => ?_) hr, fun hc => absurd hc.1 (by show ¬ l.length < l.length; omega)⟩
  rw [skip_Find.l2, if_neg (by omega), if_pos rfl, ew]
 | succ d ih =>
  intro i hi
  by_cases hle : rd h (i : Int) ≤ (L : Int)
  ·have e : nxF h L (d + 1) i = nxF h L d (i + 1) := by rw [nxF, if_pos hle]
   rw [e]
   have st : ∀ k, skip_Find.l2 (k + 1) l q h a hops (L : Int) (i : Int) = skip_Find.l2 k l q h a hops (L : Int) ((i + 1 : Nat) : Int) := fun k => by
    rw [skip_Find.l2, if_pos (by omega), if_pos (by omega), if_pos (by omega), if_pos hle, w_succ i l.length (by omega) (by omega)]
   obtain ⟨g1, g2⟩ := ih (i + 1) (by omega)
   exact ⟨fun hc hr => Ev.step st (g1 hc hr), fun hc hr => Ev.step st (g2 hc hr)⟩
  ·have e : nxF h L (d + 1) i = i := by rw [nxF, if_neg hle]
   rw [e]
   refine ⟨fun hc hr => Ev.step (fun k => ?_) hr, fun hc hr => Ev.step (fun k => ?_) hr⟩
   ·have hq : ¬ ky l i ≤ q := fun h => hc ⟨by omega, h⟩
    rw [skip_Find.l2, if_pos (by omega), if_pos (by omega), if_pos (by omega), if_neg hle, if_neg (by omega), if_pos (show (rd_T46 l (i : Int)).f0 > q by unfold ky it at hq; omega), ew]
   ·have hq := hc.2
    rw [skip_Find.l2, if_pos (by omega), if_pos (by omega), if_pos (by omega), if_neg hle, if_neg (by omega), if_neg (show ¬ (rd_T46 l (i : Int)).f0 > q by unfold ky it at hq; omega), if_pos (by omega)]
/-! ### the search -/
def goS (l : List Item) (q : Int) (h : List Int) : Nat → Nat → Nat → List Hop → Nat × List Hop
 | 0, s, _, hops => (s, hops)
 | _ + 1, s, 0, hops => (s, hops)
 | f + 1, s, L + 1, hops => if nx h L s < l.length ∧ ky l (nx h L s) ≤ q then goS l q h f (nx h L s + 1) (L + 1) (hops ++ [⟨(L : Int), ((nx h L s : Nat) : Int)⟩]) else goS l q h f s L hops
def fin (r : Nat × List Hop) : Int × List Hop × Int := if r.1 = 0 then (0, [], 3) else (((r.1 - 1 : Nat) : Int), r.2, 0)
theorem find_l1 (l : List Item) (h : List Int) (hl : h.length = l.length) (hn : l.length ≤ 50000) (q : Int) (f : Nat) : ∀ s L1 hops, (l.length - s) + L1 < f → s ≤ l.length → L1 ≤ 8 → hops.length ≤ s →
  Ev (fun k => skip_Find.l1 k l q h ((s : Int) - 1) hops ((L1 : Int) - 1)) (fin (goS l q h f s L1 hops)) := by
 induction f with
 | zero => intro s L1 hops hm; omega
 | succ f ih =>
  intro s L1 hops hm hs hL hh
  cases L1 with
  | zero =>
   refine Ev.step (fun k => ?_) (Ev.now _)
   rw [skip_Find.l1, if_neg (by omega), goS]
   unfold fin
   by_cases h0 : s = 0
   ·subst h0
    rw [if_pos (by omega), if_pos rfl]
   ·rw [if_neg (by omega), if_neg h0]
    congr 2
    show (s : Int) - 1 = ((s - 1 : Nat) : Int)
    omega
  | succ L =>
   have ea : wrap64 ((s : Int) - 1 + 1) = (s : Int) := by unfold wrap64; omega
   have st : ∀ k, skip_Find.l1 (k + 1) l q h ((s : Int) - 1) hops (((L + 1 : Nat) : Int) - 1) = skip_Find.l2 k l q h ((s : Int) - 1) hops (L : Int) (s : Int) := fun k => by
    rw [skip_Find.l1, if_pos (by omega), ea]
    congr 1
    omega
   have hz : h.length - s = l.length - s := by omega
   have hg := nx_ge h L s (by omega)
   have e : nx h L s = nxF h L (l.length - s) s := by unfold nx; rw [hz]
   by_cases hc : nx h L s < l.length ∧ ky l (nx h L s) ≤ q
   ·rw [goS, if_pos hc]
    have h2 := (find_l2 l h hl (by omega) q ((s : Int) - 1) hops (by omega) L (by omega) (fin (goS l q h f (nx h L s + 1) (L + 1) (hops ++ [⟨(L : Int), ((nx h L s : Nat) : Int)⟩]))) (l.length - s) s (by omega)).2
    rw [← e] at h2
    refine Ev.step st (h2 hc ?_)
    have h3 := ih (nx h L s + 1) (L + 1) (hops ++ [⟨(L : Int), ((nx h L s : Nat) : Int)⟩]) (by omega) (by omega) (by omega) (by rw [List.length_append, List.length_singleton]; omega)
    rw [show (((nx h L s + 1 : Nat) : Int) - 1) = ((nx h L s : Nat) : Int) from by omega, show (((L + 1 : Nat) : Int) - 1) = (L : Int) from by omega] at h3
    exact h3
   ·rw [goS, if_neg hc]
    have h2 := (find_l2 l h hl (by omega) q ((s : Int) - 1) hops (by omega) L (by omega) (fin (goS l q h f s L hops)) (l.length - s) s (by omega)).1
    rw [← e] at h2
    exact Ev.step st (h2 hc (ih s L hops (by omega) hs (by omega) hh))
theorem find_ev (key : ByteArray) (hkey : key.size ≤ 1000000000) (l : List Item) (hr : RightP l) (hk : keysOk l) (q : Int) :
  Ev (fun k => skip_Find.f k key l q) (fin (goS l q (htsL key l) (l.length + 9) 0 8 [])) := by
 have hn := hr.2
 have hz := hts_len key l
 have h1 : Ev (fun k => skip_Right.f k l) true := by
  rcases right_ev l (by omega) with ⟨_, h⟩ | ⟨h, _⟩
  ·exact h
  ·exact absurd hr h
 have h3 := find_l1 l (htsL key l) hz (by omega) q (l.length + 9) 0 8 [] (by omega) (by omega) (by decide) (by simp)
 rw [show ((0 : Nat) : Int) - 1 = -1 from rfl, show (((8 : Nat) : Int) - 1) = 7 from rfl] at h3
 have h4 := find_l0 key hkey l (by omega) hk q _ h3 l.length 0 (by omega)
 unfold skip_Find.f
 refine Ev.bind (f := fun k t => if t = true then (if 0 ≤ (l.length : Int) then (if ((l.length : Int) : Int).toNat ≤ 35184372088832 then (skip_Find.l0 k key l q (List.replicate ((l.length : Int) : Int).toNat 0) l (l.length : Int) 0) else none) else none) else some (0, [], 1)) h1 ?_
 refine Ev.congr (fun k => ?_) h4
 rw [if_pos rfl, if_pos (by omega), if_pos (by omega), Int.toNat_natCast, List.take_zero, List.nil_append, Nat.sub_zero, hz]
 rfl
end Go.Proofs.YtolbhliepkcihaaDoor.SkipPure
end
section
namespace Go.Proofs.YtolbhliepkcihaaDoor.SkipPure
open Go.RowKit Go.Proofs.YtolbhliepkcihaaDoor.Kinds Go.Proofs.YtolbhliepkcihaaDoor.QSF Go.Proofs.YtolbhliepkcihaaDoorW.PrintWords Go.Proofs.YtolbhliepkcihaaDoorW.PrintLast Go.Proofs.YtolbhliepkcihaaDoorW.PrintMore Go.Proofs.YtolbhliepkcihaaDoor.Sha Go.Proofs.YtolbhliepkcihaaDoor.Mac Go.Proofs.YtolbhliepkcihaaDoor.Codec Go.Proofs.YtolbhliepkcihaaDoor.Tower
def hp (hops : List Hop) (i : Nat) : Hop := rd_T48 hops (i : Int)
theorem hp_old (hops : List Hop) (z : Hop) (i : Nat) (h : i < hops.length) : hp (hops ++ [z]) i = hp hops i := by
 unfold hp rd_T48
 rw [Int.toNat_natCast, List.getD_eq_getElem?_getD, List.getD_eq_getElem?_getD, List.getElem?_append_left h]
theorem hp_new (hops : List Hop) (z : Hop) : hp (hops ++ [z]) hops.length = z := by
 unfold hp rd_T48
 rw [Int.toNat_natCast, List.getD_eq_getElem?_getD, List.getElem?_append_right (Nat.le_refl _), Nat.sub_self]
 rfl
structure GoodH (s L1 : Nat) (hops : List Hop) : Prop where
 some_ : 0 < s → 0 < hops.length
 none_ : s = 0 → hops = []
 last_ : 0 < hops.length → (hp hops (hops.length - 1)).f1 = (s : Int) - 1
 levels : ∀ i, i < hops.length → 0 ≤ (hp hops i).f0 ∧ (hp hops i).f0 < 8 ∧ (L1 : Int) - 1 ≤ (hp hops i).f0
 chain : ∀ i, 0 < i → i < hops.length → (hp hops (i - 1)).f1 < (hp hops i).f1 ∧ (hp hops i).f0 ≤ (hp hops (i - 1)).f0
theorem GoodH.down {s L : Nat} {hops : List Hop} (h : GoodH s (L + 1) hops) : GoodH s L hops :=
 ⟨h.some_, h.none_, h.last_, fun i hi => by have := h.levels i hi; omega, h.chain⟩
theorem GoodH.hop {s L x : Nat} {hops : List Hop} (h : GoodH s (L + 1) hops) (hL : L < 8) (hx : s ≤ x) : GoodH (x + 1) (L + 1) (hops ++ [⟨(L : Int), (x : Int)⟩]) := by
 have hz : (hops ++ [(⟨(L : Int), (x : Int)⟩ : Hop)]).length = hops.length + 1 := by simp
 refine ⟨fun _ => by omega, fun h0 => by omega, fun _ => ?_, fun i hi => ?_, fun i h0 hi => ?_⟩
 ·rw [hz, show hops.length + 1 - 1 = hops.length from rfl, hp_new]
  show (x : Int) = ((x + 1 : Nat) : Int) - 1
  omega
 ·by_cases e : i = hops.length
  ·subst e
   rw [hp_new]
   show 0 ≤ (L : Int) ∧ (L : Int) < 8 ∧ ((L + 1 : Nat) : Int) - 1 ≤ (L : Int)
   omega
  ·rw [hp_old _ _ _ (by omega)]
   exact h.levels i (by omega)
 ·by_cases e : i = hops.length
  ·subst e
   rw [hp_new, hp_old _ _ _ (by omega)]
   have h1 := h.last_ h0
   have h2 := h.levels (hops.length - 1) (by omega)
   show (hp hops (hops.length - 1)).f1 < (x : Int) ∧ (L : Int) ≤ (hp hops (hops.length - 1)).f0
   omega
  ·rw [hp_old _ _ _ (by omega), hp_old _ _ _ (by omega)]
   exact h.chain i h0 (by omega)
theorem go_spec (l : List Item) (q : Int) (h : List Int) (hl : h.length = l.length) (hpos : ∀ i, i < l.length → 0 < rd h (i : Int)) (f : Nat) : ∀ s L1 hops, (l.length - s) + L1 < f → s ≤ l.length → L1 ≤ 8 → (s = 0 ∨ ky l (s - 1) ≤ q) → (L1 = 0 → s = l.length ∨ q < ky l s) → GoodH s L1 hops →
  (goS l q h f s L1 hops).1 ≤ l.length ∧ ((goS l q h f s L1 hops).1 = 0 ∨ ky l ((goS l q h f s L1 hops).1 - 1) ≤ q) ∧ ((goS l q h f s L1 hops).1 = l.length ∨ q < ky l (goS l q h f s L1 hops).1) ∧ GoodH (goS l q h f s L1 hops).1 0 (goS l q h f s L1 hops).2 := by
 induction f with
 | zero => intro s L1 hops hm; omega
 | succ f ih =>
  intro s L1 hops hm hs hL hq1 hq2 hg
  cases L1 with
  | zero => exact ⟨hs, hq1, hq2 rfl, hg⟩
  | succ L =>
   have hx := nx_ge h L s (by omega)
   by_cases hc : nx h L s < l.length ∧ ky l (nx h L s) ≤ q
   ·rw [goS, if_pos hc]
    exact ih (nx h L s + 1) (L + 1) _ (by omega) (by omega) hL (.inr hc.2) (fun e => absurd e (by omega)) (hg.hop (by omega) hx.1)
   ·rw [goS, if_neg hc]
    refine ih s L hops (by omega) hs (by omega) hq1 (fun e => ?_) hg.down
    subst e
    by_cases hsn : s < l.length
    ·have e0 := nx_zero h s (by omega) (hpos s hsn)
     rw [show ((0 : Nat) : Int) = 0 from rfl, e0] at hc
     exact .inr (by
      have : ¬ ky l s ≤ q := fun h => hc ⟨hsn, h⟩
      omega)
    ·exact .inl (by omega)
theorem hts_pos (key : ByteArray) (l : List Item) (i : Nat) (h : i < l.length) : 0 < rd (htsL key l) (i : Int) := by
 rw [hts_at key l i h]
 have := height_lo key (ky l i).toNat
 omega
def endS (key : ByteArray) (l : List Item) (q : Int) : Nat × List Hop := goS l q (htsL key l) (l.length + 9) 0 8 []
theorem end_spec (key : ByteArray) (l : List Item) (q : Int) :
  (endS key l q).1 ≤ l.length ∧ ((endS key l q).1 = 0 ∨ ky l ((endS key l q).1 - 1) ≤ q) ∧ ((endS key l q).1 = l.length ∨ q < ky l (endS key l q).1) ∧ GoodH (endS key l q).1 0 (endS key l q).2 :=
 go_spec l q (htsL key l) (hts_len key l) (hts_pos key l) (l.length + 9) 0 8 [] (by omega) (by omega) (by decide) (.inl rfl) (fun e => absurd e (by decide))
  ⟨fun h => absurd h (by decide), fun _ => rfl, fun h => absurd h (by decide), fun i hi => absurd hi (by simp), fun i _ hi => absurd hi (by simp)⟩
theorem split_at (l : List Item) (hr : RightP l) (q : Int) (m : Nat) (_ : m ≤ l.length) (h1 : m = 0 ∨ ky l (m - 1) ≤ q) (h2 : m = l.length ∨ q < ky l m) : (∀ i, i < m → ky l i ≤ q) ∧ (∀ i, m ≤ i → i < l.length → ¬ky l i ≤ q) := by
 refine ⟨fun i hi => ?_, fun i hi hil => ?_⟩
 ·rcases h1 with h1 | h1
  ·omega
  ·by_cases e : i = m - 1
   ·subst e; exact h1
   ·have := asc l l.length hr.1 (m - 1) i (by omega) (by omega)
    omega
 ·rcases h2 with h2 | h2
  ·omega
  ·by_cases e : i = m
   ·subst e; omega
   ·have := asc l l.length hr.1 i m (by omega) hil
    omega
/-! ### a known search -/
def three : List Item := [⟨3, ⟨#[]⟩⟩, ⟨5, ⟨#[]⟩⟩, ⟨9, ⟨#[]⟩⟩]
theorem three_right : RightP three := by
 refine ⟨fun i hi => ?_, by decide⟩
 have hi : i < 3 := hi
 match i, hi with
 | 0, _ => exact ⟨by decide, fun h => absurd h (by decide)⟩
 | 1, _ => exact ⟨by decide, fun _ => by decide⟩
 | 2, _ => exact ⟨by decide, fun _ => by decide⟩
theorem three_keys : keysOk three := by
 intro y hy
 simp only [three, List.mem_cons, List.mem_nil_iff, or_false] at hy
 rcases hy with rfl | rfl | rfl <;> decide
theorem three_end (key : ByteArray) : (endS key three 6).1 = 2 := by
 obtain ⟨g1, g2, g3, _⟩ := end_spec key three 6
 obtain ⟨s1, s2⟩ := split_at three three_right 6 _ g1 g2 g3
 have hl : three.length = 3 := rfl
 rw [hl] at g1
 generalize (endS key three 6).1 = m at *
 have k0 : ky three 0 ≤ 6 := by decide
 have k1 : ky three 1 ≤ 6 := by decide
 have k2 : ¬ky three 2 ≤ 6 := by decide
 by_cases e0 : m ≤ 1
 ·exact absurd k1 (s2 1 e0 (by decide))
 ·by_cases e3 : 2 < m
  ·exact absurd (s1 2 e3) k2
  ·omega
theorem alive16 : Ev (fun k => saltuslaw16_alive.f k) true := by
 have h := find_ev ⟨#[107]⟩ (by decide) three three_right three_keys 6
 have he := three_end ⟨#[107]⟩
 obtain ⟨_, _, _, hg⟩ := end_spec ⟨#[107]⟩ three 6
 rw [he] at hg
 have hs := hg.some_ (by decide)
 have e1 : fin (goS three 6 (htsL ⟨#[107]⟩ three) (three.length + 9) 0 8 []) = (1, (endS ⟨#[107]⟩ three 6).2, 0) := by
  have : (goS three 6 (htsL ⟨#[107]⟩ three) (three.length + 9) 0 8 []).1 = 2 := he
  unfold fin
  rw [if_neg (by omega), this]
  rfl
 rw [e1] at h
 obtain ⟨K, h⟩ := h
 refine ⟨K, fun k hk => ?_⟩
 have h2 : skip_Find.f k ⟨#[107]⟩ three 6 = some (1, (endS ⟨#[107]⟩ three 6).2, 0) := h k hk
 show saltuslaw16_alive.f k = some true
 unfold saltuslaw16_alive.f
 rw [show ([(⟨3, (⟨#[]⟩ : ByteArray)⟩ : S46), (⟨5, (⟨#[]⟩ : ByteArray)⟩ : S46), (⟨9, (⟨#[]⟩ : ByteArray)⟩ : S46)] : List S46) = three from rfl, h2, Option.bind_some]
 dsimp only
 clear h2 h e1 hg he
 generalize (endS ⟨#[107]⟩ three 6).2 = hops at *
 rw [if_pos rfl, if_pos rfl, decide_eq_true (show (hops.length : Int) > 0 by omega)]
/-! ### the laws -/
theorem take_keys {l : List Item} (h : keysOk l) (n : Nat) : keysOk (l.take n) := fun y hy => h y (List.mem_of_mem_take hy)
end Go.Proofs.YtolbhliepkcihaaDoor.SkipPure
end
section
namespace Go.Proofs.YtolbhliepkcihaaDoor.QSQ
open Go.RowKit Go.Proofs.YtolbhliepkcihaaDoor.Kinds Go.Proofs.YtolbhliepkcihaaDoorW.PrintWords Go.Proofs.YtolbhliepkcihaaDoorW.PrintLast Go.Proofs.YtolbhliepkcihaaDoorW.PrintMore
attribute [local go_sem] max2_int min2_int max_two min_two max_three min_three max_four min_four   -- for this text's walks alone
set_option linter.unusedVariables false
set_option linter.unusedSimpArgs false
def errW : Option Int → Value
 | none => .nilIface
 | some c => .iface 0 (.int .i64 c)
theorem errW_none : errW none = .nilIface := rfl
theorem errW_some (c : Int) : errW (some c) = .iface 0 (.int .i64 c) := rfl
theorem info46 : (Tryd.prog.info? 46).map (fun i => (i.zero, i.size, i.bytes)) = some (some (.agg #[(.int .u64 0), (.string ⟨#[]⟩)]), 2, 24) := by kernel_rfl
end Go.Proofs.YtolbhliepkcihaaDoor.QSQ
end
section
namespace Go.Proofs.YtolbhliepkcihaaDoor.QSQ
open Go.RowKit Go.Proofs.YtolbhliepkcihaaDoor.Kinds Go.Proofs.YtolbhliepkcihaaDoorW.PrintWords Go.Proofs.YtolbhliepkcihaaDoorW.PrintLast Go.Proofs.YtolbhliepkcihaaDoorW.PrintMore
attribute [local go_sem] max2_int min2_int max_two min_two max_three min_three max_four min_four   -- for this text's walks alone
set_option linter.unusedVariables false
set_option linter.unusedSimpArgs false
/-! ### saltusref16_Put: function 51 -/
end Go.Proofs.YtolbhliepkcihaaDoor.QSQ
end
section
namespace Go.Proofs.YtolbhliepkcihaaDoor.QSQ
open Go.RowKit Go.Proofs.YtolbhliepkcihaaDoor.Kinds Go.Proofs.YtolbhliepkcihaaDoorW.PrintWords Go.Proofs.YtolbhliepkcihaaDoorW.PrintLast Go.Proofs.YtolbhliepkcihaaDoorW.PrintMore
attribute [local go_sem] max2_int min2_int max_two min_two max_three min_three max_four min_four   -- for this text's walks alone
set_option linter.unusedVariables false
set_option linter.unusedSimpArgs false
theorem eqA46 (d : Nat) (w : World) (x0 y0 : Int) (x1 y1 : ByteArray) :
  (Op.equalIn (d + 2) 46 (.agg #[.int .u64 x0, .string x1]) (.agg #[.int .u64 y0, .string y1])).run Tryd.prog w = .ok (x0 == y0 && (x1.toList == y1.toList)) w := by
 refine eqA_of Tryd.underlying46 (by kernel_rfl) ?_
 refine eqf_cons (by rfl) (by go_simp; rfl) (by go_simp; rfl) (by go_simp) ?_
 exact eqf_last (by rfl) (by go_simp; rfl) (by go_simp; rfl) (by go_simp)
end Go.Proofs.YtolbhliepkcihaaDoor.QSQ
end
section
namespace Go.Proofs.YtolbhliepkcihaaDoor.QSQ
open Go.RowKit Go.Proofs.YtolbhliepkcihaaDoor.Kinds Go.Proofs.YtolbhliepkcihaaDoorW.PrintWords Go.Proofs.YtolbhliepkcihaaDoorW.PrintLast Go.Proofs.YtolbhliepkcihaaDoorW.PrintMore
attribute [local go_sem] max2_int min2_int max_two min_two max_three min_three max_four min_four   -- for this text's walks alone
set_option linter.unusedVariables false
set_option linter.unusedSimpArgs false
attribute [local go_sem high] eqA46
/-! ### saltusref16_Same: function 39 -/
def saltusref16_Same.l0 : Nat → List (S46) → List (S46) → Int → Int → Option (Bool)
 | 0, _, _, _, _ => none
 | k + 1, x0, x1, x12, x13 => if x13 < x12 then (if 0 ≤ x13 then (if x13 < (x0.length : Int) then (if x13 < (x1.length : Int) then (if (!(((rd_T46 x0 x13).f0) == ((rd_T46 x1 x13).f0)) || (!((((rd_T46 x0 x13).f1).toList) == (((rd_T46 x1 x13).f1).toList)))) = true then (some false) else (saltusref16_Same.l0 k x0 x1 x12 (wrap64 (x13 + 1)))) else (none)) else (none)) else (none)) else (some true)
def saltusref16_Same.f (k : Nat) (l0 : List (S46)) (l1 : List (S46)) : Option (Bool) := if (l0.length : Int) = (l1.length : Int) then (saltusref16_Same.l0 k l0 l1 (l0.length : Int) 0) else (some false)
theorem saltusref16_Same.mono_l : ∀ k, (∀ y0 y1 y2 y3, LeO (saltusref16_Same.l0 k y0 y1 y2 y3) (saltusref16_Same.l0 (k + 1) y0 y1 y2 y3))
 | 0 => fun _ _ _ _ r h => by simp [saltusref16_Same.l0] at h
 | k + 1 => by
  have ih0 := saltusref16_Same.mono_l k
  ·intro y0 y1 y2 y3
   unfold saltusref16_Same.l0
   repeat' first
   | (with_reducible exact ih0 _ _ _ _)
   | (with_reducible exact LeO.refl _)
   | (with_reducible exact LeO.none _)
   | (with_reducible refine LeO.ite ?_ ?_)
   | (with_reducible refine LeO.bind ?_ (fun _ => ?_))
   | exact ih0 _ _ _ _
   | exact LeO.none _
   | refine LeO.ite ?_ ?_
   | refine LeO.bind ?_ (fun _ => ?_)
theorem saltusref16_Same.mono : ∀ a0 a1 k, LeO (saltusref16_Same.f k a0 a1) (saltusref16_Same.f (k + 1) a0 a1) := by
 intro a0 a1 k
 have ih0 := saltusref16_Same.mono_l k
 unfold saltusref16_Same.f
 repeat' first
   | (with_reducible exact ih0 _ _ _ _)
   | (with_reducible exact LeO.refl _)
   | (with_reducible exact LeO.none _)
   | (with_reducible refine LeO.ite ?_ ?_)
   | (with_reducible refine LeO.bind ?_ (fun _ => ?_))
   | exact ih0 _ _ _ _
   | exact LeO.none _
   | refine LeO.ite ?_ ?_
   | refine LeO.bind ?_ (fun _ => ?_)
set_option maxHeartbeats 8000000 in
set_option maxRecDepth 100000 in
theorem saltusref16_Same.calls (k : Nat) (A0 : Option Addr) (c0 : Nat) (l0 : List (S46)) (A1 : Option Addr) (c1 : Nat) (l1 : List (S46)) (r : Bool) (w : World) (hr0 : Kd.C k46 w A0 l0.length l0) (hc0 : l0.length ≤ c0) (hr1 : Kd.C k46 w A1 l1.length l1) (hc1 : l1.length ≤ c1) (h : saltusref16_Same.f k l0 l1 = some r) :
  Calls Tryd.prog 39 #[.slice A0 l0.length c0, .slice A1 l1.length c1] w fun e w' => e = .returned (.bool r) ∧ Drawn0 w w' := by
 have hu46 := Tryd.underlying46
 have HR0 := Aside0.mk hr0
 have HC0 := Aside0.mk hc0
 clear hr0 hc0
 have HR1 := Aside0.mk hr1
 have HC1 := Aside0.mk hc1
 clear hr1 hc1
 have H : (if (l0.length : Int) = (l1.length : Int) then (saltusref16_Same.l0 k l0 l1 (l0.length : Int) 0) else (some false)) = some r := h
 clear h
 by_cases c3 : (l0.length : Int) = (l1.length : Int)
 ·rw [if_pos c3] at H
  have c3b0 : ((l0.length : Int) == (l1.length : Int)) = true := beq_iff_eq.mpr c3
  have c3b1 : ((l0.length : Int) != (l1.length : Int)) = false := bne_eq_false_iff_eq.mpr c3
  have c3b2 : (l0.length == l1.length) = true := by first | simpa using c3 | (simp at c3 ⊢; omega)
  clear c3
  have H' := Aside0.mk H
  clear H
  go_enter Tryd.func39, Tryd.ntmps39
  go_wp2
  repeat (go_quiet (fail); try go_wp2)
  go_loopg [13] k (fun kq v13 w' => ∃ (x13_1 : Int), v13 = .int .i64 x13_1 ∧ Aside0 (saltusref16_Same.l0 kq l0 l1 (l0.length : Int) x13_1 = some r) ∧ Aside0 (kq ≤ k) ∧ Drawn0 w w')
  case atStart => exact ⟨(0), (by first | rfl | (simp; done) | (simp [*]; done)), H', ⟨Nat.le_refl _⟩, by repeat (first | exact Drawn0.refl _ | apply Drawn0.step)⟩
  case round =>
   clear H'
   try clear c1
   try clear p2
   try clear c3
   try clear c3b0
   try clear c3b1
   try clear c3b2
   obtain ⟨x13_1, rfl, HA, HK1, ⟨m1, rfl⟩⟩ := hrel
   cases gk with
   | zero => exact absurd HA.out (by simp [saltusref16_Same.l0])
   | succ k1 =>
    have H := HA.out
    clear HA
    simp only [saltusref16_Same.l0] at H
    by_cases c4 : x13_1 < (l0.length : Int)
    ·rw [if_pos c4] at H
     have c4b0 : decide (x13_1 < (l0.length : Int)) = true := decide_eq_true c4
     clear c4
     by_cases c5 : 0 ≤ x13_1
     ·rw [if_pos c5] at H
      have c5b0 : decide (0 ≤ x13_1) = true := decide_eq_true c5
      clear c5
      by_cases c6 : x13_1 < (l0.length : Int)
      ·rw [if_pos c6] at H
       have c6b0 : decide (x13_1 < (l0.length : Int)) = true := decide_eq_true c6
       clear c6
       by_cases c7 : x13_1 < (l1.length : Int)
       ·rw [if_pos c7] at H
        have c7b0 : decide (x13_1 < (l1.length : Int)) = true := decide_eq_true c7
        clear c7
        by_cases c8 : (!(((rd_T46 l0 x13_1).f0) == ((rd_T46 l1 x13_1).f0)) || (!((((rd_T46 l0 x13_1).f1).toList) == (((rd_T46 l1 x13_1).f1).toList)))) = true
        ·rw [if_pos c8] at H
         have c8b0 : (!(((rd_T46 l0 x13_1).f0) == ((rd_T46 l1 x13_1).f0)) || (!((((rd_T46 l0 x13_1).f1).toList) == (((rd_T46 l1 x13_1).f1).toList)))) = true := c8
         clear c8
         obtain rfl := Option.some.inj H
         have p101 : 0 ≤ (x13_1 : Int) := of_decide_eq_true (by first | (with_reducible assumption) | assumption)
         have q101 : x13_1 < (l0.length : Int) := of_decide_eq_true (by first | (with_reducible assumption) | assumption)
         obtain ⟨ad101, e101, hx101_0, hx101_1⟩ := at_T46 HR0.out x13_1 p101 q101
         cases e101
         replace p101 := eq_true p101
         replace q101 := eq_true q101
         have p102 : 0 ≤ (x13_1 : Int) := of_decide_eq_true (by first | (with_reducible assumption) | assumption)
         have q102 : x13_1 < (l1.length : Int) := of_decide_eq_true (by first | (with_reducible assumption) | assumption)
         obtain ⟨ad102, e102, hx102_0, hx102_1⟩ := at_T46 HR1.out x13_1 p102 q102
         cases e102
         replace p102 := eq_true p102
         replace q102 := eq_true q102
         go_wp2
         repeat (go_quiet (fail); try go_wp2)
         go_ret
         exact ⟨by first | rfl | (simp; done) | (simp [*]; done), by repeat (first | exact Drawn0.refl _ | apply Drawn0.step)⟩
        ·rw [if_neg c8] at H
         have c8b0 : (!(((rd_T46 l0 x13_1).f0) == ((rd_T46 l1 x13_1).f0)) || (!((((rd_T46 l0 x13_1).f1).toList) == (((rd_T46 l1 x13_1).f1).toList)))) = false := by simpa using c8
         clear c8
         have H' := Aside0.mk H
         clear H
         have p101 : 0 ≤ (x13_1 : Int) := of_decide_eq_true (by first | (with_reducible assumption) | assumption)
         have q101 : x13_1 < (l0.length : Int) := of_decide_eq_true (by first | (with_reducible assumption) | assumption)
         obtain ⟨ad101, e101, hx101_0, hx101_1⟩ := at_T46 HR0.out x13_1 p101 q101
         cases e101
         replace p101 := eq_true p101
         replace q101 := eq_true q101
         have p102 : 0 ≤ (x13_1 : Int) := of_decide_eq_true (by first | (with_reducible assumption) | assumption)
         have q102 : x13_1 < (l1.length : Int) := of_decide_eq_true (by first | (with_reducible assumption) | assumption)
         obtain ⟨ad102, e102, hx102_0, hx102_1⟩ := at_T46 HR1.out x13_1 p102 q102
         cases e102
         replace p102 := eq_true p102
         replace q102 := eq_true q102
         go_wp2
         repeat (go_quiet (fail); try go_wp2)
         go_roundg k1
         case measure => have := HK1.out; omega
         case rel => exact ⟨(wrap64 (x13_1 + 1)), (by first | rfl | (simp; done) | (simp [*]; done)), H', ⟨by have := HK1.out; omega⟩, by repeat (first | exact Drawn0.refl _ | apply Drawn0.step)⟩
       ·rw [if_neg c7] at H
        exact absurd H (by simp)
      ·rw [if_neg c6] at H
       exact absurd H (by simp)
     ·rw [if_neg c5] at H
      exact absurd H (by simp)
    ·rw [if_neg c4] at H
     have c4b0 : decide (x13_1 < (l0.length : Int)) = false := decide_eq_false c4
     clear c4
     obtain rfl := Option.some.inj H
     go_wp2
     repeat (go_quiet (fail); try go_wp2)
     go_ret
     exact ⟨by first | rfl | (simp; done) | (simp [*]; done), by repeat (first | exact Drawn0.refl _ | apply Drawn0.step)⟩
 ·rw [if_neg c3] at H
  have c3b0 : ((l0.length : Int) == (l1.length : Int)) = false := beq_eq_false_iff_ne.mpr c3
  have c3b1 : ((l0.length : Int) != (l1.length : Int)) = true := bne_iff_ne.mpr c3
  have c3b2 : (l0.length == l1.length) = false := by first | simpa using c3 | (simp at c3 ⊢; omega)
  obtain rfl := Option.some.inj H
  go_enter Tryd.func39, Tryd.ntmps39
  go_wp2
  repeat (go_quiet (fail); try go_wp2)
  go_ret
  exact ⟨by first | rfl | (simp; done) | (simp [*]; done), by repeat (first | exact Drawn0.refl _ | apply Drawn0.step)⟩
/-! ### api_Item: function 81 -/
def api_Item.l0 : Nat → List (S46) → List (S46) → Int → Int → Option (Bool)
 | 0, _, _, _, _ => none
 | k + 1, x0, x1, x12, x13 => if x13 < x12 then (if 0 ≤ x13 then (if x13 < (x0.length : Int) then (if x13 < (x1.length : Int) then (if (!(((rd_T46 x0 x13).f0) == ((rd_T46 x1 x13).f0)) || (!((((rd_T46 x0 x13).f1).toList) == (((rd_T46 x1 x13).f1).toList)))) = true then (some false) else (api_Item.l0 k x0 x1 x12 (wrap64 (x13 + 1)))) else (none)) else (none)) else (none)) else (some true)
def api_Item.f (k : Nat) (l0 : List (S46)) (l1 : List (S46)) : Option (Bool) := if (l0.length : Int) = (l1.length : Int) then (api_Item.l0 k l0 l1 (l0.length : Int) 0) else (some false)
theorem api_Item.mono_l : ∀ k, (∀ y0 y1 y2 y3, LeO (api_Item.l0 k y0 y1 y2 y3) (api_Item.l0 (k + 1) y0 y1 y2 y3))
 | 0 => fun _ _ _ _ r h => by simp [api_Item.l0] at h
 | k + 1 => by
  have ih0 := api_Item.mono_l k
  ·intro y0 y1 y2 y3
   unfold api_Item.l0
   repeat' first
   | (with_reducible exact ih0 _ _ _ _)
   | (with_reducible exact LeO.refl _)
   | (with_reducible exact LeO.none _)
   | (with_reducible refine LeO.ite ?_ ?_)
   | (with_reducible refine LeO.bind ?_ (fun _ => ?_))
   | exact ih0 _ _ _ _
   | exact LeO.none _
   | refine LeO.ite ?_ ?_
   | refine LeO.bind ?_ (fun _ => ?_)
theorem api_Item.mono : ∀ a0 a1 k, LeO (api_Item.f k a0 a1) (api_Item.f (k + 1) a0 a1) := by
 intro a0 a1 k
 have ih0 := api_Item.mono_l k
 unfold api_Item.f
 repeat' first
   | (with_reducible exact ih0 _ _ _ _)
   | (with_reducible exact LeO.refl _)
   | (with_reducible exact LeO.none _)
   | (with_reducible refine LeO.ite ?_ ?_)
   | (with_reducible refine LeO.bind ?_ (fun _ => ?_))
   | exact ih0 _ _ _ _
   | exact LeO.none _
   | refine LeO.ite ?_ ?_
   | refine LeO.bind ?_ (fun _ => ?_)
set_option maxHeartbeats 8000000 in
set_option maxRecDepth 100000 in
theorem api_Item.calls (k : Nat) (A0 : Option Addr) (c0 : Nat) (l0 : List (S46)) (A1 : Option Addr) (c1 : Nat) (l1 : List (S46)) (r : Bool) (w : World) (hr0 : Kd.C k46 w A0 l0.length l0) (hc0 : l0.length ≤ c0) (hr1 : Kd.C k46 w A1 l1.length l1) (hc1 : l1.length ≤ c1) (h : api_Item.f k l0 l1 = some r) :
  Calls Tryd.prog 81 #[.slice A0 l0.length c0, .slice A1 l1.length c1] w fun e w' => e = .returned (.bool r) ∧ Drawn0 w w' := by
 have hu46 := Tryd.underlying46
 have HR0 := Aside0.mk hr0
 have HC0 := Aside0.mk hc0
 clear hr0 hc0
 have HR1 := Aside0.mk hr1
 have HC1 := Aside0.mk hc1
 clear hr1 hc1
 have H : (if (l0.length : Int) = (l1.length : Int) then (api_Item.l0 k l0 l1 (l0.length : Int) 0) else (some false)) = some r := h
 clear h
 by_cases c3 : (l0.length : Int) = (l1.length : Int)
 ·rw [if_pos c3] at H
  have c3b0 : ((l0.length : Int) == (l1.length : Int)) = true := beq_iff_eq.mpr c3
  have c3b1 : ((l0.length : Int) != (l1.length : Int)) = false := bne_eq_false_iff_eq.mpr c3
  have c3b2 : (l0.length == l1.length) = true := by first | simpa using c3 | (simp at c3 ⊢; omega)
  clear c3
  have H' := Aside0.mk H
  clear H
  go_enter Tryd.func81, Tryd.ntmps81
  go_wp2
  repeat (go_quiet (fail); try go_wp2)
  go_loopg [13] k (fun kq v13 w' => ∃ (x13_1 : Int), v13 = .int .i64 x13_1 ∧ Aside0 (api_Item.l0 kq l0 l1 (l0.length : Int) x13_1 = some r) ∧ Aside0 (kq ≤ k) ∧ Drawn0 w w')
  case atStart => exact ⟨(0), (by first | rfl | (simp; done) | (simp [*]; done)), H', ⟨Nat.le_refl _⟩, by repeat (first | exact Drawn0.refl _ | apply Drawn0.step)⟩
  case round =>
   clear H'
   try clear c1
   try clear p2
   try clear c3
   try clear c3b0
   try clear c3b1
   try clear c3b2
   obtain ⟨x13_1, rfl, HA, HK1, ⟨m1, rfl⟩⟩ := hrel
   cases gk with
   | zero => exact absurd HA.out (by simp [api_Item.l0])
   | succ k1 =>
    have H := HA.out
    clear HA
    simp only [api_Item.l0] at H
    by_cases c4 : x13_1 < (l0.length : Int)
    ·rw [if_pos c4] at H
     have c4b0 : decide (x13_1 < (l0.length : Int)) = true := decide_eq_true c4
     clear c4
     by_cases c5 : 0 ≤ x13_1
     ·rw [if_pos c5] at H
      have c5b0 : decide (0 ≤ x13_1) = true := decide_eq_true c5
      clear c5
      by_cases c6 : x13_1 < (l0.length : Int)
      ·rw [if_pos c6] at H
       have c6b0 : decide (x13_1 < (l0.length : Int)) = true := decide_eq_true c6
       clear c6
       by_cases c7 : x13_1 < (l1.length : Int)
       ·rw [if_pos c7] at H
        have c7b0 : decide (x13_1 < (l1.length : Int)) = true := decide_eq_true c7
        clear c7
        by_cases c8 : (!(((rd_T46 l0 x13_1).f0) == ((rd_T46 l1 x13_1).f0)) || (!((((rd_T46 l0 x13_1).f1).toList) == (((rd_T46 l1 x13_1).f1).toList)))) = true
        ·rw [if_pos c8] at H
         have c8b0 : (!(((rd_T46 l0 x13_1).f0) == ((rd_T46 l1 x13_1).f0)) || (!((((rd_T46 l0 x13_1).f1).toList) == (((rd_T46 l1 x13_1).f1).toList)))) = true := c8
         clear c8
         obtain rfl := Option.some.inj H
         have p103 : 0 ≤ (x13_1 : Int) := of_decide_eq_true (by first | (with_reducible assumption) | assumption)
         have q103 : x13_1 < (l0.length : Int) := of_decide_eq_true (by first | (with_reducible assumption) | assumption)
         obtain ⟨ad103, e103, hx103_0, hx103_1⟩ := at_T46 HR0.out x13_1 p103 q103
         cases e103
         replace p103 := eq_true p103
         replace q103 := eq_true q103
         have p104 : 0 ≤ (x13_1 : Int) := of_decide_eq_true (by first | (with_reducible assumption) | assumption)
         have q104 : x13_1 < (l1.length : Int) := of_decide_eq_true (by first | (with_reducible assumption) | assumption)
         obtain ⟨ad104, e104, hx104_0, hx104_1⟩ := at_T46 HR1.out x13_1 p104 q104
         cases e104
         replace p104 := eq_true p104
         replace q104 := eq_true q104
         go_wp2
         repeat (go_quiet (fail); try go_wp2)
         go_ret
         exact ⟨by first | rfl | (simp; done) | (simp [*]; done), by repeat (first | exact Drawn0.refl _ | apply Drawn0.step)⟩
        ·rw [if_neg c8] at H
         have c8b0 : (!(((rd_T46 l0 x13_1).f0) == ((rd_T46 l1 x13_1).f0)) || (!((((rd_T46 l0 x13_1).f1).toList) == (((rd_T46 l1 x13_1).f1).toList)))) = false := by simpa using c8
         clear c8
         have H' := Aside0.mk H
         clear H
         have p103 : 0 ≤ (x13_1 : Int) := of_decide_eq_true (by first | (with_reducible assumption) | assumption)
         have q103 : x13_1 < (l0.length : Int) := of_decide_eq_true (by first | (with_reducible assumption) | assumption)
         obtain ⟨ad103, e103, hx103_0, hx103_1⟩ := at_T46 HR0.out x13_1 p103 q103
         cases e103
         replace p103 := eq_true p103
         replace q103 := eq_true q103
         have p104 : 0 ≤ (x13_1 : Int) := of_decide_eq_true (by first | (with_reducible assumption) | assumption)
         have q104 : x13_1 < (l1.length : Int) := of_decide_eq_true (by first | (with_reducible assumption) | assumption)
         obtain ⟨ad104, e104, hx104_0, hx104_1⟩ := at_T46 HR1.out x13_1 p104 q104
         cases e104
         replace p104 := eq_true p104
         replace q104 := eq_true q104
         go_wp2
         repeat (go_quiet (fail); try go_wp2)
         go_roundg k1
         case measure => have := HK1.out; omega
         case rel => exact ⟨(wrap64 (x13_1 + 1)), (by first | rfl | (simp; done) | (simp [*]; done)), H', ⟨by have := HK1.out; omega⟩, by repeat (first | exact Drawn0.refl _ | apply Drawn0.step)⟩
       ·rw [if_neg c7] at H
        exact absurd H (by simp)
      ·rw [if_neg c6] at H
       exact absurd H (by simp)
     ·rw [if_neg c5] at H
      exact absurd H (by simp)
    ·rw [if_neg c4] at H
     have c4b0 : decide (x13_1 < (l0.length : Int)) = false := decide_eq_false c4
     clear c4
     obtain rfl := Option.some.inj H
     go_wp2
     repeat (go_quiet (fail); try go_wp2)
     go_ret
     exact ⟨by first | rfl | (simp; done) | (simp [*]; done), by repeat (first | exact Drawn0.refl _ | apply Drawn0.step)⟩
 ·rw [if_neg c3] at H
  have c3b0 : ((l0.length : Int) == (l1.length : Int)) = false := beq_eq_false_iff_ne.mpr c3
  have c3b1 : ((l0.length : Int) != (l1.length : Int)) = true := bne_iff_ne.mpr c3
  have c3b2 : (l0.length == l1.length) = false := by first | simpa using c3 | (simp at c3 ⊢; omega)
  obtain rfl := Option.some.inj H
  go_enter Tryd.func81, Tryd.ntmps81
  go_wp2
  repeat (go_quiet (fail); try go_wp2)
  go_ret
  exact ⟨by first | rfl | (simp; done) | (simp [*]; done), by repeat (first | exact Drawn0.refl _ | apply Drawn0.step)⟩
/-! ### skip_Like: function 48 -/
def skip_Like.f (k : Nat) (l0 : List (S46)) (l1 : List (S46)) : Option (Bool) := (api_Item.f k l0 l1).bind fun t105 => (some t105)
theorem skip_Like.mono : ∀ a0 a1 k, LeO (skip_Like.f k a0 a1) (skip_Like.f (k + 1) a0 a1) := by
 intro a0 a1 k
 unfold skip_Like.f
 repeat' first
   | (with_reducible exact api_Item.mono _ _ _)
   | (with_reducible exact LeO.refl _)
   | (with_reducible exact LeO.none _)
   | (with_reducible refine LeO.ite ?_ ?_)
   | (with_reducible refine LeO.bind ?_ (fun _ => ?_))
   | exact api_Item.mono _ _ _
   | exact LeO.none _
   | refine LeO.ite ?_ ?_
   | refine LeO.bind ?_ (fun _ => ?_)
set_option maxHeartbeats 8000000 in
set_option maxRecDepth 100000 in
theorem skip_Like.calls (k : Nat) (A0 : Option Addr) (c0 : Nat) (l0 : List (S46)) (A1 : Option Addr) (c1 : Nat) (l1 : List (S46)) (r : Bool) (w : World) (hr0 : Kd.C k46 w A0 l0.length l0) (hc0 : l0.length ≤ c0) (hr1 : Kd.C k46 w A1 l1.length l1) (hc1 : l1.length ≤ c1) (h : skip_Like.f k l0 l1 = some r) :
  Calls Tryd.prog 48 #[.slice A0 l0.length c0, .slice A1 l1.length c1] w fun e w' => e = .returned (.bool r) ∧ Drawn0 w w' := by
 have HR0 := Aside0.mk hr0
 have HC0 := Aside0.mk hc0
 clear hr0 hc0
 have HR1 := Aside0.mk hr1
 have HC1 := Aside0.mk hc1
 clear hr1 hc1
 have H : ((api_Item.f k l0 l1).bind fun t105 => (some t105)) = some r := h
 clear h
 replace H := Option.bind_eq_some_iff.mp H
 obtain ⟨t105, A30, H⟩ := H
 (try dsimp only at H)
 have A3 := Aside0.mk A30
 clear A30
 obtain rfl := Option.some.inj H
 go_enter Tryd.func48, Tryd.ntmps48
 go_wp2_with (first | ((with_reducible refine gate_callee (f := 81) rfl ?_); refine goesL_ (some 7) rfl rfl Tryd.func81 (by kernel_rfl) rfl #[.slice A0 l0.length c0, .slice A1 l1.length c1] rfl (by (try simp only [List.map_toArray, List.map_cons, List.map_nil]); first | done | rfl | (simp only [List.length_drop, List.length_take]; rfl)) ?_; (with_reducible refine (api_Item.calls k _ _ l0 _ _ l1 t105 _ ?side1 ?side2 ?side3 ?side4 A3.out).mono ?_); (case side1 => repeat (first | exact HR0.out | (with_reducible refine Kd.C_alloc ?_ _) | (with_reducible refine Kd.C_drewN ?_ _) | (with_reducible refine Kd.C_drew ?_))); (case side2 => exact HC0.out); (case side3 => repeat (first | exact HR1.out | (with_reducible refine Kd.C_alloc ?_ _) | (with_reducible refine Kd.C_drewN ?_ _) | (with_reducible refine Kd.C_drew ?_))); (case side4 => exact HC1.out); rintro e w' ⟨rfl, ⟨nd, rfl⟩⟩; refine ⟨_, rfl, ?_⟩))
 go_ret
 exact ⟨by first | rfl | (simp; done) | (simp [*]; done), by repeat (first | exact Drawn0.refl _ | apply Drawn0.step)⟩
/-! ### saltusref16_At: function 49 -/
/-! ### saltusref16_Drop: function 50 -/
end Go.Proofs.YtolbhliepkcihaaDoor.QSQ
end
section
namespace Go.Proofs.YtolbhliepkcihaaDoor.SkipOps
open Go.RowKit Go.Proofs.YtolbhliepkcihaaDoor.Kinds Go.Proofs.YtolbhliepkcihaaDoor.QSF Go.Proofs.YtolbhliepkcihaaDoorW.PrintWords Go.Proofs.YtolbhliepkcihaaDoorW.PrintLast Go.Proofs.YtolbhliepkcihaaDoorW.PrintMore Go.Proofs.YtolbhliepkcihaaDoor.Sha Go.Proofs.YtolbhliepkcihaaDoor.Mac Go.Proofs.YtolbhliepkcihaaDoor.Codec Go.Proofs.YtolbhliepkcihaaDoor.Tower Go.Proofs.YtolbhliepkcihaaDoor.Skip Go.Proofs.YtolbhliepkcihaaDoor.SkipPure
abbrev It := S46
def Asc (l : List It) : Prop := l.Pairwise fun a b => a.f0 < b.f0
def has (l : List It) (q : Int) : Bool := l.any fun y => y.f0 == q
def insF (l : List It) (x : It) : List It := l.filter (fun y => decide (y.f0 < x.f0)) ++ [x] ++ l.filter (fun y => decide (x.f0 < y.f0))
def delF (l : List It) (q : Int) : List It := l.filter fun y => !(y.f0 == q)
theorem right_iff (l : List It) : RightP l ↔ Asc l ∧ (∀ y, y ∈ l → y.f1.size ≤ 64) ∧ l.length ≤ 64 := by
 constructor
 ·rintro ⟨h1, h2⟩
  refine ⟨?_, fun y hy => ?_, h2⟩
  ·refine List.pairwise_iff_getElem.2 fun i j hi hj hij => ?_
   have := asc l l.length h1 j i hij hj
   unfold ky at this
   rwa [it_mem l i hi, it_mem l j hj] at this
  ·obtain ⟨i, hi, rfl⟩ := List.mem_iff_getElem.1 hy
   have := (h1 i hi).1
   rwa [it_mem l i hi] at this
 ·rintro ⟨h1, h2, h3⟩
  refine ⟨fun i hi => ⟨?_, fun h0 => ?_⟩, h3⟩
  ·rw [it_mem l i hi]; exact h2 _ (List.getElem_mem _)
  ·unfold ky
   rw [it_mem l i hi, it_mem l (i - 1) (by omega)]
   exact List.pairwise_iff_getElem.1 h1 (i - 1) i (by omega) hi (by omega)
theorem has_iff (l : List It) (q : Int) : has l q = true ↔ ∃ y, y ∈ l ∧ y.f0 = q := by
 unfold has
 rw [List.any_eq_true]
 constructor
 ·rintro ⟨y, hy, e⟩; exact ⟨y, hy, by simpa using e⟩
 ·rintro ⟨y, hy, e⟩; exact ⟨y, hy, by simpa using e⟩
theorem not_has (l : List It) (q : Int) (h : has l q = false) (y : It) (hy : y ∈ l) : y.f0 ≠ q := by
 intro e
 have := (has_iff l q).2 ⟨y, hy, e⟩
 rw [h] at this
 cases this
/-! ### where the search by halves ends -/
theorem bs_spec (l : List It) (ha : Asc l) (q : Int) : ∀ (f i j : Nat), i ≤ j → j ≤ l.length → j - i ≤ f → (∀ a, a < i → ky l a < q) → (∀ a, j ≤ a → a < l.length → ¬ky l a < q) →
  (∀ a, a < bsI l q f i j → ky l a < q) ∧ (∀ a, bsI l q f i j ≤ a → a < l.length → ¬ky l a < q)
 | 0, i, j, hij, hj, hf, h1, h2 => by
  obtain rfl : i = j := by omega
  exact ⟨h1, h2⟩
 | f + 1, i, j, hij, hj, hf, h1, h2 => by
  have up : ∀ a b, a < b → b < l.length → ky l a < ky l b := fun a b hab hb => by
   unfold ky
   rw [it_mem l a (by omega), it_mem l b hb]
   exact List.pairwise_iff_getElem.1 ha a b (by omega) hb hab
  unfold bsI
  by_cases c : i < j
  ·rw [if_pos c]
   by_cases d : (rd_T46 l (((i + j) / 2 : Nat) : Int)).f0 < q
   ·rw [if_pos d]
    refine bs_spec l ha q f _ _ (by omega) hj (by omega) (fun a ha2 => ?_) h2
    by_cases e : a = (i + j) / 2
    ·subst e; exact d
    ·exact Int.lt_trans (up a ((i + j) / 2) (by omega) (by omega)) d
   ·rw [if_neg d]
    refine bs_spec l ha q f _ _ (by omega) (by omega) (by omega) h1 (fun a ha1 ha2 => ?_)
    by_cases e : a = (i + j) / 2
    ·subst e; exact d
    ·have := up ((i + j) / 2) a (by omega) ha2
     have d' : ¬ky l ((i + j) / 2) < q := d
     omega
  ·rw [if_neg c]
   obtain rfl : i = j := by omega
   exact ⟨h1, h2⟩
theorem place_spec (l : List It) (ha : Asc l) (q : Int) : (∀ a, a < placeN l q → ky l a < q) ∧ (∀ a, placeN l q ≤ a → a < l.length → ¬ky l a < q) :=
 bs_spec l ha q l.length 0 l.length (by omega) (Nat.le_refl _) (by omega) (fun a h => by omega) (fun a h1 h2 => by omega)
theorem take_lt (l : List It) (n : Nat) (q : Int) (h : ∀ a, a < n → ky l a < q) (y : It) (hy : y ∈ l.take n) : y.f0 < q := by
 obtain ⟨i, hi, rfl⟩ := List.mem_iff_getElem.1 hy
 rw [List.length_take] at hi
 have := h i (by omega)
 unfold ky at this
 rw [it_mem l i (by omega)] at this
 rwa [List.getElem_take]
theorem drop_ge (l : List It) (n : Nat) (q : Int) (h : ∀ a, n ≤ a → a < l.length → ¬ky l a < q) (y : It) (hy : y ∈ l.drop n) : ¬y.f0 < q := by
 obtain ⟨i, hi, rfl⟩ := List.mem_iff_getElem.1 hy
 rw [List.length_drop] at hi
 have := h (n + i) (by omega) (by omega)
 unfold ky at this
 rw [it_mem l (n + i) (by omega)] at this
 rwa [List.getElem_drop]
theorem place_take (l : List It) (ha : Asc l) (q : Int) : l.take (placeN l q) = l.filter fun y => decide (y.f0 < q) := by
 obtain ⟨h1, h2⟩ := place_spec l ha q
 conv => rhs; rw [← List.take_append_drop (placeN l q) l]
 rw [List.filter_append, List.filter_eq_self.2 (fun y hy => decide_eq_true (take_lt l _ q h1 y hy)), List.filter_eq_nil_iff.2 (fun y hy => by simpa using drop_ge l _ q h2 y hy), List.append_nil]
theorem place_is (l : List It) (ha : Asc l) (q : Int) : placeIs l q = has l q := by
 obtain ⟨h1, h2⟩ := place_spec l ha q
 rw [Bool.eq_iff_iff, has_iff]
 unfold placeIs
 rw [decide_eq_true_iff]
 constructor
 ·rintro ⟨h3, h4⟩
  exact ⟨it l (placeN l q), by rw [it_mem l _ h3]; exact List.getElem_mem _, h4⟩
 ·rintro ⟨y, hy, e⟩
  obtain ⟨i, hi, rfl⟩ := List.mem_iff_getElem.1 hy
  have hk : ky l i = q := by unfold ky; rw [it_mem l i hi]; exact e
  have hn : placeN l q ≤ i := by
   rcases Nat.lt_or_ge i (placeN l q) with h | h
   ·have := h1 i h; omega
   ·exact h
  refine ⟨by omega, ?_⟩
  show ky l (placeN l q) = q
  by_cases hin : placeN l q = i
  ·rw [hin]; exact hk
  ·have h5 := h2 (placeN l q) (Nat.le_refl _) (by omega)
   have h6 : ky l (placeN l q) < ky l i := by
    unfold ky
    rw [it_mem l i hi, it_mem l (placeN l q) (by omega)]
    exact List.pairwise_iff_getElem.1 ha _ i (by omega) hi (by omega)
   omega
theorem place_drop_no (l : List It) (ha : Asc l) (q : Int) (h : has l q = false) : l.drop (placeN l q) = l.filter fun y => decide (q < y.f0) := by
 obtain ⟨h1, h2⟩ := place_spec l ha q
 conv => rhs; rw [← List.take_append_drop (placeN l q) l]
 rw [List.filter_append, List.filter_eq_nil_iff.2 (fun y hy => by have := take_lt l _ q h1 y hy; simp; omega), List.nil_append, List.filter_eq_self.2]
 intro y hy
 have h3 := drop_ge l _ q h2 y hy
 have h4 := not_has l q h y (List.mem_of_mem_drop hy)
 exact decide_eq_true (by omega)
theorem place_drop_yes (l : List It) (ha : Asc l) (q : Int) (h : has l q = true) : placeN l q < l.length ∧ l.drop (placeN l q + 1) = l.filter fun y => decide (q < y.f0) := by
 have h0 := place_is l ha q
 rw [h] at h0
 unfold placeIs at h0
 rw [decide_eq_true_iff] at h0
 obtain ⟨h3, h4⟩ := h0
 obtain ⟨h1, h2⟩ := place_spec l ha q
 refine ⟨h3, ?_⟩
 have e : l.drop (placeN l q) = l[placeN l q] :: l.drop (placeN l q + 1) := List.drop_eq_getElem_cons h3
 have h5 : l[placeN l q].f0 = q := by rw [← it_mem l _ h3]; exact h4
 conv => rhs; rw [← List.take_append_drop (placeN l q) l, e]
 rw [List.filter_append, List.filter_eq_nil_iff.2 (fun y hy => by have := take_lt l _ q h1 y hy; simp; omega), List.nil_append, List.filter_cons_of_neg (by simp; omega), List.filter_eq_self.2]
 intro y hy
 have hp := List.pairwise_cons.1 (e ▸ (List.Pairwise.drop ha : (l.drop (placeN l q)).Pairwise _))
 have := hp.1 y hy
 exact decide_eq_true (by omega)
/-! ### put and drop -/
theorem put_yes (l : List It) (ha : Asc l) (x : It) (h : has l x.f0 = true) : l.take (placeN l x.f0) ++ [x] ++ l.drop (placeN l x.f0 + 1) = insF l x := by
 rw [place_take l ha, (place_drop_yes l ha _ h).2]; rfl
theorem put_no (l : List It) (ha : Asc l) (x : It) (h : has l x.f0 = false) : l.take (placeN l x.f0) ++ [x] ++ l.drop (placeN l x.f0) = insF l x := by
 rw [place_take l ha, place_drop_no l ha _ h]; rfl
theorem del_split (l : List It) (ha : Asc l) (q : Int) : delF l q = l.filter (fun y => decide (y.f0 < q)) ++ l.filter (fun y => decide (q < y.f0)) := by
 induction l with
 | nil => rfl
 | cons x l ih =>
  obtain ⟨hx, hl⟩ := List.pairwise_cons.1 ha
  have ih := ih hl
  unfold delF at ih ⊢
  by_cases h1 : x.f0 < q
  ·rw [List.filter_cons_of_pos (by simp; omega), List.filter_cons_of_pos (by simpa using h1), List.filter_cons_of_neg (by simp; omega), ih]; rfl
  ·have hz : l.filter (fun y => decide (y.f0 < q)) = [] := List.filter_eq_nil_iff.2 (fun y hy => by have := hx y hy; simp; omega)
   by_cases h2 : q < x.f0
   ·rw [List.filter_cons_of_pos (by simp; omega), List.filter_cons_of_neg (by simpa using h1), List.filter_cons_of_pos (by simpa using h2), ih, hz]; rfl
   ·rw [List.filter_cons_of_neg (by simp; omega), List.filter_cons_of_neg (by simpa using h1), List.filter_cons_of_neg (by simpa using h2), ih]
theorem drop_yes (l : List It) (ha : Asc l) (q : Int) (h : has l q = true) : l.take (placeN l q) ++ l.drop (placeN l q + 1) = delF l q := by
 rw [place_take l ha, (place_drop_yes l ha _ h).2, del_split l ha]
theorem ins_asc (l : List It) (ha : Asc l) (x : It) : Asc (insF l x) := by
 unfold insF Asc
 rw [List.append_assoc, List.pairwise_append]
 refine ⟨List.Pairwise.filter _ ha, ?_, ?_⟩
 ·rw [List.singleton_append, List.pairwise_cons]
  exact ⟨fun y hy => by simpa using (List.mem_filter.1 hy).2, List.Pairwise.filter _ ha⟩
 ·intro a h1 b h2
  have h1 := (List.mem_filter.1 h1).2
  simp only [decide_eq_true_eq] at h1
  rw [List.singleton_append, List.mem_cons] at h2
  rcases h2 with rfl | h2
  ·exact h1
  ·have h2 := (List.mem_filter.1 h2).2
   simp only [decide_eq_true_eq] at h2
   omega
theorem ins_mem (l : List It) (x y : It) (h : y ∈ insF l x) : y ∈ l ∨ y = x := by
 unfold insF at h
 rw [List.append_assoc, List.mem_append, List.singleton_append, List.mem_cons] at h
 rcases h with h | rfl | h
 ·exact .inl (List.mem_filter.1 h).1
 ·exact .inr rfl
 ·exact .inl (List.mem_filter.1 h).1
theorem del_asc (l : List It) (ha : Asc l) (q : Int) : Asc (delF l q) := List.Pairwise.filter _ ha
theorem ins_has (l : List It) (x : It) : has (insF l x) x.f0 = true := (has_iff _ _).2 ⟨x, by unfold insF; simp, rfl⟩
theorem del_has (l : List It) (q : Int) : has (delF l q) q = false := by
 cases h : has (delF l q) q with
 | false => rfl
 | true =>
  obtain ⟨y, hy, e⟩ := (has_iff _ _).1 h
  have := (List.mem_filter.1 hy).2
  simp [e] at this
theorem ins_len (l : List It) (ha : Asc l) (x : It) : (insF l x).length = if has l x.f0 = true then l.length else l.length + 1 := by
 cases h : has l x.f0 with
 | true =>
  rw [if_pos rfl, ← put_yes l ha x h]
  have := (place_drop_yes l ha _ h).1
  rw [List.length_append, List.length_append, List.length_take, List.length_drop, List.length_singleton]; omega
 | false =>
  rw [if_neg (by decide), ← put_no l ha x h]
  have := placeN_le l x.f0
  rw [List.length_append, List.length_append, List.length_take, List.length_drop, List.length_singleton]; omega
theorem ins_le (l : List It) (ha : Asc l) (x : It) : (insF l x).length ≤ l.length + 1 := by
 rw [ins_len l ha]; split <;> omega
theorem del_le (l : List It) (q : Int) : (delF l q).length ≤ l.length := List.length_filter_le _ _
theorem ins_right (l : List It) (hr : RightP l) (x : It) (hx : ¬64 < x.f1.size) (hl : (insF l x).length ≤ 64) : RightP (insF l x) := by
 obtain ⟨h1, h2, h3⟩ := (right_iff l).1 hr
 refine (right_iff _).2 ⟨ins_asc l h1 x, fun y hy => ?_, hl⟩
 rcases ins_mem l x y hy with h | rfl
 ·exact h2 y h
 ·omega
theorem del_right (l : List It) (hr : RightP l) (q : Int) : RightP (delF l q) := by
 obtain ⟨h1, h2, h3⟩ := (right_iff l).1 hr
 exact (right_iff _).2 ⟨del_asc l h1 q, fun y hy => h2 y (List.mem_filter.1 hy).1, Nat.le_trans (del_le l q) h3⟩
theorem ins_keys (l : List It) (hk : keysOk l) (x : It) (hx : 0 ≤ x.f0 ∧ x.f0 ≤ 18446744073709551615) : keysOk (insF l x) := fun y hy => by
 rcases ins_mem l x y hy with h | rfl
 ·exact hk y h
 ·exact hx
theorem filter_no (l : List It) : l.filter (fun _ => false) = [] := List.filter_eq_nil_iff.2 (by simp)
theorem del_ins (l : List It) (ha : Asc l) (x : It) (h : has l x.f0 = false) : delF (insF l x) x.f0 = l := by
 have e : l = delF l x.f0 := (List.filter_eq_self.2 (fun y hy => by have := not_has l _ h y hy; simpa using this)).symm
 rw [del_split _ (ins_asc l ha x)]
 unfold insF
 conv => rhs; rw [e, del_split l ha]
 simp only [List.filter_append, List.filter_filter]
 have e1 : (fun y : It => decide (y.f0 < x.f0) && decide (x.f0 < y.f0)) = fun _ => false := by funext y; simp; omega
 have e2 : (fun y : It => decide (x.f0 < y.f0) && decide (y.f0 < x.f0)) = fun _ => false := by funext y; simp; omega
 simp only [e1, e2, Bool.and_self, filter_no, List.filter_cons, List.filter_nil, Int.lt_irrefl, decide_false, Bool.false_eq_true, if_false, List.append_nil, List.nil_append]
theorem ins_comm_lt (l : List It) (x y : It) (h : x.f0 < y.f0) : insF (insF l x) y = insF (insF l y) x := by
 unfold insF
 simp only [List.filter_append, List.filter_filter]
 have a1 : (fun z : It => decide (z.f0 < y.f0) && decide (z.f0 < x.f0)) = fun z => decide (z.f0 < x.f0) := by funext z; rw [Bool.eq_iff_iff]; simp; omega
 have a2 : (fun z : It => decide (y.f0 < z.f0) && decide (z.f0 < x.f0)) = fun _ => false := by funext z; simp; omega
 have a3 : (fun z : It => decide (y.f0 < z.f0) && decide (x.f0 < z.f0)) = fun z => decide (y.f0 < z.f0) := by funext z; rw [Bool.eq_iff_iff]; simp; omega
 have a4 : (fun z : It => decide (z.f0 < x.f0) && decide (z.f0 < y.f0)) = fun z => decide (z.f0 < x.f0) := by funext z; rw [Bool.eq_iff_iff]; simp; omega
 have a5 : (fun z : It => decide (z.f0 < x.f0) && decide (y.f0 < z.f0)) = fun _ => false := by funext z; simp; omega
 have a6 : (fun z : It => decide (x.f0 < z.f0) && decide (y.f0 < z.f0)) = fun z => decide (y.f0 < z.f0) := by funext z; rw [Bool.eq_iff_iff]; simp; omega
 have a7 : (fun z : It => decide (z.f0 < y.f0) && decide (x.f0 < z.f0)) = (fun z : It => decide (x.f0 < z.f0) && decide (z.f0 < y.f0)) := by funext z; rw [Bool.and_comm]
 have b1 : decide (x.f0 < y.f0) = true := decide_eq_true h
 have b2 : decide (y.f0 < x.f0) = false := decide_eq_false (by omega)
 simp only [a1, a2, a3, a4, a5, a6, a7, b1, b2, filter_no, List.filter_cons, List.filter_nil, Bool.false_eq_true, if_false, if_true, List.append_nil, List.nil_append, List.append_assoc, List.cons_append]
theorem ins_comm (l : List It) (x y : It) (h : x.f0 ≠ y.f0) : insF (insF l x) y = insF (insF l y) x := by
 rcases Int.lt_or_lt_of_ne h with h | h
 ·exact ins_comm_lt l x y h
 ·exact (ins_comm_lt l y x h).symm
end Go.Proofs.YtolbhliepkcihaaDoor.SkipOps
end
section
namespace Go.Proofs.YtolbhliepkcihaaDoor.SkipOps
open Go.RowKit Go.Proofs.YtolbhliepkcihaaDoor.Kinds Go.Proofs.YtolbhliepkcihaaDoor.QSF Go.Proofs.YtolbhliepkcihaaDoor.QSQ Go.Proofs.YtolbhliepkcihaaDoorW.PrintWords Go.Proofs.YtolbhliepkcihaaDoorW.PrintLast Go.Proofs.YtolbhliepkcihaaDoorW.PrintMore Go.Proofs.YtolbhliepkcihaaDoor.Sha Go.Proofs.YtolbhliepkcihaaDoor.Mac Go.Proofs.YtolbhliepkcihaaDoor.Codec Go.Proofs.YtolbhliepkcihaaDoor.Tower Go.Proofs.YtolbhliepkcihaaDoor.Skip Go.Proofs.YtolbhliepkcihaaDoor.SkipPure
theorem same_l0 (a b : List It) (hn : a.length ≤ 100000) (hb : b.length = a.length) (d : Nat) : ∀ i, i + d = a.length →
  ∃ r, Ev (fun k => saltusref16_Same.l0 k a b (a.length : Int) (i : Int)) r ∧ Ev (fun k => api_Item.l0 k a b (a.length : Int) (i : Int)) r ∧ (a = b → r = true) := by
 induction d with
 | zero =>
  intro i hi
  refine ⟨true, Ev.step (fun k => ?_) (Ev.now _), Ev.step (fun k => ?_) (Ev.now _), fun _ => rfl⟩
  ·rw [saltusref16_Same.l0, if_neg (by omega)]
  ·rw [api_Item.l0, if_neg (by omega)]
 | succ d ih =>
  intro i hi
  by_cases c : (!(((rd_T46 a (i : Int)).f0) == ((rd_T46 b (i : Int)).f0)) || (!((((rd_T46 a (i : Int)).f1).toList) == (((rd_T46 b (i : Int)).f1).toList)))) = true
  ·refine ⟨false, Ev.step (fun k => ?_) (Ev.now _), Ev.step (fun k => ?_) (Ev.now _), fun e => ?_⟩
   ·rw [saltusref16_Same.l0, if_pos (by omega), if_pos (by omega), if_pos (by omega), if_pos (by omega), if_pos c]
   ·rw [api_Item.l0, if_pos (by omega), if_pos (by omega), if_pos (by omega), if_pos (by omega), if_pos c]
   ·subst e
    rw [beq_self_eq_true, beq_self_eq_true] at c
    cases c
  ·obtain ⟨r, h1, h2, h3⟩ := ih (i + 1) (by omega)
   refine ⟨r, Ev.step (fun k => ?_) h1, Ev.step (fun k => ?_) h2, h3⟩
   ·rw [saltusref16_Same.l0, if_pos (by omega), if_pos (by omega), if_pos (by omega), if_pos (by omega), if_neg c, w_succ i a.length (by omega) (by omega)]
   ·rw [api_Item.l0, if_pos (by omega), if_pos (by omega), if_pos (by omega), if_pos (by omega), if_neg c, w_succ i a.length (by omega) (by omega)]
theorem same_ev (a b : List It) (hn : a.length ≤ 100000) : ∃ r, Ev (fun k => saltusref16_Same.f k a b) r ∧ Ev (fun k => skip_Like.f k a b) r ∧ (a = b → r = true) := by
 by_cases hb : b.length = a.length
 ·obtain ⟨r, h1, h2, h3⟩ := same_l0 a b hn hb a.length 0 (by omega)
  refine ⟨r, Ev.congr (fun k => ?_) h1, Ev.bind (Ev.congr (fun k => ?_) h2) (Ev.now _), h3⟩
  ·unfold saltusref16_Same.f; rw [if_pos (by omega)]; rfl
  ·unfold api_Item.f; rw [if_pos (by omega)]; rfl
 ·refine ⟨false, Ev.congr (fun k => ?_) (Ev.now _), Ev.bind (Ev.congr (fun k => ?_) (Ev.now _)) (Ev.now _), fun e => absurd (by rw [e]) hb⟩
  ·unfold saltusref16_Same.f; rw [if_neg (by omega)]
  ·unfold api_Item.f; rw [if_neg (by omega)]
/-! ### the callees, at plain functions -/
theorem c_same (A B : Option Addr) (c d : Nat) (a b : List It) (hn : a.length ≤ 100000) : ∃ r, (a = b → r = true) ∧
  (∀ w, Kd.C k46 w A a.length a → a.length ≤ c → Kd.C k46 w B b.length b → b.length ≤ d → Calls Tryd.prog 39 #[.slice A a.length c, .slice B b.length d] w fun e w' => e = .returned (.bool r) ∧ Below w.heap.size w w') ∧
  (∀ w, Kd.C k46 w A a.length a → a.length ≤ c → Kd.C k46 w B b.length b → b.length ≤ d → Calls Tryd.prog 48 #[.slice A a.length c, .slice B b.length d] w fun e w' => e = .returned (.bool r) ∧ Below w.heap.size w w') := by
 obtain ⟨r, h1, h2, h3⟩ := same_ev a b hn
 obtain ⟨k1, e1⟩ := h1.rounds
 obtain ⟨k2, e2⟩ := h2.rounds
 exact ⟨r, h3, fun w q1 q2 q3 q4 => (saltusref16_Same.calls k1 A c a B d b r w q1 q2 q3 q4 e1).mono fun e w' h => ⟨h.1, h.2.below⟩, fun w q1 q2 q3 q4 => (skip_Like.calls k2 A c a B d b r w q1 q2 q3 q4 e2).mono fun e w' h => ⟨h.1, h.2.below⟩⟩
theorem c_right (A : Option Addr) (c : Nat) (l : List It) (hn : l.length ≤ 100000) : ∃ r, (r = true ↔ RightP l) ∧
  (∀ w, Kd.C k46 w A l.length l → l.length ≤ c → Calls Tryd.prog 38 #[.slice A l.length c] w fun e w' => e = .returned (.bool r) ∧ Below w.heap.size w w') ∧
  (∀ w, Kd.C k46 w A l.length l → l.length ≤ c → Calls Tryd.prog 25 #[.slice A l.length c] w fun e w' => e = .returned (.bool r) ∧ Below w.heap.size w w') := by
 rcases right_ev l hn with ⟨p1, h1⟩ | ⟨p1, h1⟩
 ·rcases refright_ev l hn with ⟨p2, h2⟩ | ⟨p2, h2⟩
  ·obtain ⟨k1, e1⟩ := h1.rounds
   obtain ⟨k2, e2⟩ := h2.rounds
   exact ⟨true, ⟨fun _ => p1, fun _ => rfl⟩, fun w q1 q2 => skip_Right.calls k1 A c l true w q1 q2 e1, fun w q1 q2 => saltusref16_Right.calls k2 A c l true w q1 q2 e2⟩
  ·exact absurd p1 p2
 ·rcases refright_ev l hn with ⟨p2, h2⟩ | ⟨p2, h2⟩
  ·exact absurd p2 p1
  ·obtain ⟨k1, e1⟩ := h1.rounds
   obtain ⟨k2, e2⟩ := h2.rounds
   exact ⟨false, ⟨(fun h => by cases h), fun h => absurd h p1⟩, fun w q1 q2 => skip_Right.calls k1 A c l false w q1 q2 e1, fun w q1 q2 => saltusref16_Right.calls k2 A c l false w q1 q2 e2⟩
def Lft (w w' : World) (v : Value) (l : List It) : Prop := ∃ A c, v = .slice A l.length c ∧ l.length ≤ c ∧ Kd.C k46 w' A l.length l ∧ Below w.heap.size w w'
theorem lft_of {w w' : World} {base : Nat} {v : Value} {l : List It} (h : Kd.R k46 46 w' base (fun _ => True) v l) (hb : Below w.heap.size w w') : Lft w w' v l := by
 obtain ⟨A, c, rfl⟩ := Kd.R_slice h
 have h2 := Kd.R_reads' h
 exact ⟨A, c, rfl, h2.2.1, h2.2.2, hb⟩
theorem lft_nil {w w' : World} (hb : Below w.heap.size w w') : Lft w w' (.slice none 0 0) [] := ⟨none, 0, rfl, Nat.le_refl _, Kd.C_nil _ _, hb⟩
theorem c_put (A : Option Addr) (c : Nat) (l : List It) (hn : l.length ≤ 100000) (x : It) (pl : List It) (er : Int)
  (hc : (¬RightP l ∧ pl = [] ∧ er = 1) ∨ (RightP l ∧ 64 < x.f1.size ∧ pl = [] ∧ er = 4) ∨ (RightP l ∧ ¬64 < x.f1.size ∧ (has l x.f0 = false ∧ l.length = 64) ∧ pl = [] ∧ er = 6) ∨ (RightP l ∧ ¬64 < x.f1.size ∧ ¬(has l x.f0 = false ∧ l.length = 64) ∧ pl = insF l x ∧ er = 0))
  (w : World) (q1 : Kd.C k46 w A l.length l) (q2 : l.length ≤ c) :
  Calls Tryd.prog 36 #[.slice A l.length c, .agg #[.int .u64 x.f0, .string x.f1]] w fun e w' => ∃ v, e = .returned (.tuple #[v, .int .i64 er]) ∧ Lft w w' v pl := by
 rcases right_ev l hn with ⟨p1, h1⟩ | ⟨p1, h1⟩
 ·obtain ⟨k1, e1⟩ := h1.rounds
  have ha := ((right_iff l).1 p1).1
  have hpi := place_is l ha x.f0
  rcases hc with ⟨p2, _⟩ | ⟨_, hz, rfl, rfl⟩ | ⟨_, hz, ⟨hh, h64⟩, rfl, rfl⟩ | ⟨_, hz, hh, rfl, rfl⟩
  ·exact absurd p1 p2
  ·exact (put_size A c l x k1 w q1 q2 hn e1 hz).mono fun e w' ⟨h1, h2⟩ => ⟨_, h1, lft_nil h2⟩
  ·exact (put_space A c l x k1 w q1 q2 hn e1 hz (hpi.trans hh) h64).mono fun e w' ⟨h1, h2⟩ => ⟨_, h1, lft_nil h2⟩
  ·cases hs : has l x.f0 with
   | true =>
    rw [hs] at hpi
    obtain ⟨g1, g2⟩ := place_drop_yes l ha _ hs
    obtain ⟨ad, rfl⟩ : ∃ ad, A = some ad := by
     obtain ⟨ad, e, _⟩ := q1.2.2 (by omega)
     exact ⟨ad, e⟩
    have e0 := put_yes l ha x hs
    by_cases hl : placeN l x.f0 + 1 = l.length
    ·rw [hl, List.drop_eq_nil_of_le (Nat.le_refl _), List.append_nil] at e0
     rw [← e0]
     exact (put_overend ad c l x k1 w q1 q2 hn e1 hz hpi hl).mono fun e w' ⟨v, h1, h2, h3⟩ => ⟨v, h1, lft_of h2 h3⟩
    ·rw [← e0]
     exact (put_over ad c l x k1 w q1 q2 hn e1 hz hpi (by omega)).mono fun e w' ⟨v, h1, h2, h3⟩ => ⟨v, h1, lft_of h2 h3⟩
   | false =>
    rw [hs] at hpi
    have h64 : ¬l.length = 64 := fun h => hh ⟨hs, h⟩
    have hle := placeN_le l x.f0
    have e0 := put_no l ha x hs
    by_cases hl : placeN l x.f0 = l.length
    ·rw [hl, List.drop_eq_nil_of_le (Nat.le_refl _), List.append_nil, ← hl] at e0
     rw [← e0]
     cases A with
     | none => exact (put_nil c l x k1 w q1 q2 hn e1 hz hpi h64 hl).mono fun e w' ⟨v, h1, h2, h3⟩ => ⟨v, h1, lft_of h2 h3⟩
     | some ad => exact (put_end ad c l x k1 w q1 q2 hn e1 hz hpi h64 hl).mono fun e w' ⟨v, h1, h2, h3⟩ => ⟨v, h1, lft_of h2 h3⟩
    ·obtain ⟨ad, rfl⟩ : ∃ ad, A = some ad := by
      obtain ⟨ad, e, _⟩ := q1.2.2 (by omega)
      exact ⟨ad, e⟩
     rw [← e0]
     exact (put_new ad c l x k1 w q1 q2 hn e1 hz hpi h64 (by omega)).mono fun e w' ⟨v, h1, h2, h3⟩ => ⟨v, h1, lft_of h2 h3⟩
 ·obtain ⟨k1, e1⟩ := h1.rounds
  rcases hc with ⟨_, rfl, rfl⟩ | ⟨p2, _⟩ | ⟨p2, _⟩ | ⟨p2, _⟩
  ·exact (put_bad A c l x k1 w q1 q2 hn e1).mono fun e w' ⟨h1, h2⟩ => ⟨_, h1, lft_nil h2⟩
  ·exact absurd p2 p1
  ·exact absurd p2 p1
  ·exact absurd p2 p1
theorem lft_take {w w' : World} {ad : Addr} {n : Nat} {l : List It} (hn : n ≤ l.length) (q1 : Kd.C k46 w (some ad) l.length l) (hb : Below w.heap.size w w') : Lft w w' (.slice (some ad) n n) (l.take n) := by
 have hz : (l.take n).length = n := by rw [List.length_take]; omega
 have h := Kd.C_below q1 hb
 refine ⟨some ad, n, by rw [hz], by omega, ?_, hb⟩
 refine ⟨rfl, by have := h.2.1; omega, fun h0 => ?_⟩
 obtain ⟨ad', e, hc⟩ := h.2.2 (by omega)
 refine ⟨ad', e, fun j p hp => hc j p ?_⟩
 rw [List.getElem?_take] at hp
 split at hp
 ·exact hp
 ·cases hp
theorem c_drop (A : Option Addr) (c : Nat) (l : List It) (hn : l.length ≤ 100000) (q : Int) (dl : List It) (er : Int)
  (hc : (¬RightP l ∧ dl = [] ∧ er = 1) ∨ (RightP l ∧ has l q = false ∧ dl = [] ∧ er = 3) ∨ (RightP l ∧ has l q = true ∧ dl = delF l q ∧ er = 0))
  (w : World) (q1 : Kd.C k46 w A l.length l) (q2 : l.length ≤ c) :
  Calls Tryd.prog 37 #[.slice A l.length c, .int .u64 q] w fun e w' => ∃ v, e = .returned (.tuple #[v, .int .i64 er]) ∧ Lft w w' v dl := by
 rcases right_ev l hn with ⟨p1, h1⟩ | ⟨p1, h1⟩
 ·obtain ⟨k1, e1⟩ := h1.rounds
  have ha := ((right_iff l).1 p1).1
  have hpi := place_is l ha q
  rcases hc with ⟨p2, _⟩ | ⟨_, hs, rfl, rfl⟩ | ⟨_, hs, rfl, rfl⟩
  ·exact absurd p1 p2
  ·exact (drop_none A c l q k1 w q1 q2 hn e1 (hpi.trans hs)).mono fun e w' ⟨h1, h2⟩ => ⟨_, h1, lft_nil h2⟩
  ·rw [hs] at hpi
   obtain ⟨g1, g2⟩ := place_drop_yes l ha _ hs
   obtain ⟨ad, rfl⟩ : ∃ ad, A = some ad := by
    obtain ⟨ad, e, _⟩ := q1.2.2 (by omega)
    exact ⟨ad, e⟩
   have e0 := drop_yes l ha q hs
   by_cases hl : placeN l q + 1 = l.length
   ·rw [hl, List.drop_eq_nil_of_le (Nat.le_refl _), List.append_nil] at e0
    rw [← e0]
    exact (drop_last ad c l q k1 w q1 q2 hn e1 hpi hl).mono fun e w' ⟨h1, h2⟩ => ⟨_, h1, lft_take (by omega) q1 h2⟩
   ·rw [← e0]
    exact (drop_grow ad c l q k1 w q1 q2 hn e1 hpi (by omega)).mono fun e w' ⟨v, h1, h2, h3⟩ => ⟨v, h1, lft_of h2 h3⟩
 ·obtain ⟨k1, e1⟩ := h1.rounds
  rcases hc with ⟨_, rfl, rfl⟩ | ⟨p2, _⟩ | ⟨p2, _⟩
  ·exact (drop_bad A c l q k1 w q1 q2 hn e1).mono fun e w' ⟨h1, h2⟩ => ⟨_, h1, lft_nil h2⟩
  ·exact absurd p2 p1
  ·exact absurd p2 p1
end Go.Proofs.YtolbhliepkcihaaDoor.SkipOps
end
section
namespace Go.Proofs.YtolbhliepkcihaaDoor.SkipOps
open Go.RowKit Go.Proofs.YtolbhliepkcihaaDoor.Kinds Go.Proofs.YtolbhliepkcihaaDoor.QSF Go.Proofs.YtolbhliepkcihaaDoor.QSQ Go.Proofs.YtolbhliepkcihaaDoorW.PrintWords Go.Proofs.YtolbhliepkcihaaDoorW.PrintLast Go.Proofs.YtolbhliepkcihaaDoorW.PrintMore Go.Proofs.YtolbhliepkcihaaDoor.Sha Go.Proofs.YtolbhliepkcihaaDoor.Mac Go.Proofs.YtolbhliepkcihaaDoor.Codec Go.Proofs.YtolbhliepkcihaaDoor.Tower Go.Proofs.YtolbhliepkcihaaDoor.Skip Go.Proofs.YtolbhliepkcihaaDoor.SkipPure
set_option linter.unusedVariables false
set_option linter.unusedSimpArgs false
theorem c_put_err (A : Option Addr) (c : Nat) (l : List It) (hn : l.length ≤ 100000) (x : It) (er : Int)
  (hc : (¬RightP l ∧ er = 1) ∨ (RightP l ∧ 64 < x.f1.size ∧ er = 4) ∨ (RightP l ∧ ¬64 < x.f1.size ∧ (has l x.f0 = false ∧ l.length = 64) ∧ er = 6))
  (w : World) (q1 : Kd.C k46 w A l.length l) (q2 : l.length ≤ c) :
  Calls Tryd.prog 36 #[.slice A l.length c, .agg #[.int .u64 x.f0, .string x.f1]] w fun e w' => ∃ A' c', e = .returned (.tuple #[.slice A' 0 c', .int .i64 er]) ∧ Below w.heap.size w w' := by
 refine (c_put A c l hn x [] er ?_ w q1 q2).mono fun e w' ⟨v, h1, A', c', h2, _, _, h3⟩ => ⟨A', c', by rw [h1, h2]; rfl, h3⟩
 rcases hc with ⟨h1, h2⟩ | ⟨h1, h2, h3⟩ | ⟨h1, h2, h3, h4⟩
 ·exact .inl ⟨h1, rfl, h2⟩
 ·exact .inr (.inl ⟨h1, h2, rfl, h3⟩)
 ·exact .inr (.inr (.inl ⟨h1, h2, h3, rfl, h4⟩))
theorem c_drop_err (A : Option Addr) (c : Nat) (l : List It) (hn : l.length ≤ 100000) (q : Int) (er : Int)
  (hc : (¬RightP l ∧ er = 1) ∨ (RightP l ∧ has l q = false ∧ er = 3))
  (w : World) (q1 : Kd.C k46 w A l.length l) (q2 : l.length ≤ c) :
  Calls Tryd.prog 37 #[.slice A l.length c, .int .u64 q] w fun e w' => ∃ A' c', e = .returned (.tuple #[.slice A' 0 c', .int .i64 er]) ∧ Below w.heap.size w w' := by
 refine (c_drop A c l hn q [] er ?_ w q1 q2).mono fun e w' ⟨v, h1, A', c', h2, _, _, h3⟩ => ⟨A', c', by rw [h1, h2]; rfl, h3⟩
 rcases hc with ⟨h1, h2⟩ | ⟨h1, h2, h3⟩
 ·exact .inl ⟨h1, rfl, h2⟩
 ·exact .inr (.inl ⟨h1, h2, rfl, h3⟩)
theorem c_same_true (A B : Option Addr) (c d : Nat) (a : List It) (hn : a.length ≤ 100000) (w : World) (q1 : Kd.C k46 w A a.length a) (q2 : a.length ≤ c) (q3 : Kd.C k46 w B a.length a) (q4 : a.length ≤ d) :
  Calls Tryd.prog 39 #[.slice A a.length c, .slice B a.length d] w fun e w' => e = .returned (.bool true) ∧ Below w.heap.size w w' := by
 obtain ⟨r, h1, h2, _⟩ := c_same A B c d a a hn
 have := h2 w q1 q2 q3 q4
 rwa [h1 rfl] at this
theorem c_alive (w : World) (hT : TabW w) : Calls Tryd.prog 26 #[] w fun e w' => e = .returned (.bool true) ∧ Below w.heap.size w w' := by
 obtain ⟨k, h⟩ := alive16.rounds
 exact QSF.saltuslaw16_alive.calls k true w h hT
theorem itbox (w : World) (x : It) : ∀ (j : Nat) (u : Value), [Value.int .u64 x.f0, Value.string x.f1][j]? = some u → (w.alloc (.cells #[.int .u64 x.f0, .string x.f1] 46)).cell? ((⟨w.heap.size, 0, none⟩ : Addr).add j) = some u := two_new w x.f0 x.f1
end Go.Proofs.YtolbhliepkcihaaDoor.SkipOps
end
