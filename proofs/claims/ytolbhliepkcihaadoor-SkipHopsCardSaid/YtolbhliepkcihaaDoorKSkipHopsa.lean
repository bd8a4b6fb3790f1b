/- Joined by a program of this session (wip/pack.py) for this claim: Laid, ItemRow, QSFx0, QSFx2, QSFx1, QSFx3, QSFx4, SkipPure. -/
import Derived.Test.YtolbhliepkcihaaDoorRows
import Derived.Test.YtolbhliepkcihaaDoorBaseH
import Derived.ProofKit
import Derived.LaidMore
import Derived.OpenShut
import Derived.Stop.Joined
import Derived.Deep.Slices
import Derived.ChangeSame
import Derived.Test.YtolbhliepkcihaaDoorProg
import Derived.Below
import Derived.Deep.Draws
import Derived.Deep.AppendLies
import Derived.Maps.AppendAt
import Derived.OwnWalk
import Derived.Laws.BytesArg
import Derived.Laws.MakeOwn
import Derived.Laws.OwnMore
import Derived.Deep.OwnRows
import Derived.Tactics
import Derived.Lib.ConvBytes
import Derived.Laws.Slices
import Derived.WalkKit
import Derived.KernelRfl
import Derived.RowKit3
import Derived.Deep.LoopGhost
import Derived.Deep.QuietTactic
import Derived.BigQuiet
import Derived.WideLaws
import Derived.Deep.DeepCutAuto
import Derived.Deep.CutBlock
import Derived.Deep.RegionHeld3
import Derived.Laws.Rows
import Derived.Lib.AppendStr
import Derived.ArgAppend
import Derived.Laws.IdiomCopy
import Derived.OrdersHeld
import Derived.Laws.BitsLemmas
import Derived.RowKit
import Derived.Test.YtolbhliepkcihaaDoorPWa
section
namespace Go.Proofs.YtolbhliepkcihaaDoor
open Go.ChangeShapes Go.WideShapes Go.ChangeAt Go.RowKit
def laidL : List (String × DataW Unit) := [("math/bits.deBruijn64tab", Rows.laid_math_bits_deBruijn64tab)]
theorem gTab : Tryd.prog.globalNamed "math/bits.deBruijn64tab" = some 0 := by kernel_rfl
theorem tTab : (Tryd.prog.globals[0]?).map (·.type) = some 125 := by kernel_rfl
theorem door_met (os : Os) (args : Array Value) : laidMetH Tryd.prog laidL ((World.doorLaid Tryd.prog 14 os).forCall (fun _ _ => 0) ⟨#[], args, []⟩).memory :=
 laidMetH_of_parts3 (fuel := 8) (laidMet_of_run' 8 (by kernel_rfl) (by kernel_rfl)) (by kernel_rfl) (by kernel_rfl)
theorem tab_datum : (Rows.laid_math_bits_deBruijn64tab : DataW Unit) = .agg (Lib.deBruijn64tab.map fun n : Nat => .lit (.int .u8 (n : Int))) := rfl
theorem of_laid {W : World} (h : laidMetH Tryd.prog laidL W) : Tower.TabW W := by
 rw [MakeChecks.laidMetH_plain _ _ _ (by kernel_rfl)] at h
 obtain ⟨ps, ⟨g0, t0, cs0, f0, p0, q0, hg0, ht0, hv0, hd0, _, _⟩, _, _⟩ := h
 obtain rfl := Option.some.inj (gTab.symm.trans hg0)
 obtain rfl := Option.some.inj (tTab.symm.trans ht0)
 obtain ⟨xs, m1, rfl, hx1, hlen, hn3, hel⟩ := DataW.trod_array Tryd.underlying125 hd0
 simp only [Prod.mk.injEq] at hx1
 have c5 : Tryd.prog.cellsOf 5 = 1 := by kernel_rfl
 have hl := hx1.1
 rw [tab_datum] at hl
 injection hl with hl
 intro j hj
 have hxj : xs[j]? = some (xs[j]'(by omega)) := List.getElem?_eq_getElem (by omega)
 have h1 := congrArg (·[j]?) hl
 simp only [List.getElem?_map, hxj, Option.map_some] at h1
 have ht : Lib.deBruijn64tab[j]? = some (Lib.deBruijn64tab.getD j 0) := by
  have hz : Lib.deBruijn64tab.length = 64 := rfl
  rw [List.getD_eq_getElem?_getD, List.getElem?_eq_getElem (by omega)]
  rfl
 rw [ht, Option.map_some] at h1
 generalize Lib.deBruijn64tab.getD j 0 = tv at *
 clear ht hl hlen
 have h2 := Option.some.inj h1
 obtain ⟨k, e1, e2, _⟩ := DataW.trod_int Tryd.underlying5 ((hel j hj).trans hxj)
 rw [e2] at h2
 have h2 : (tv : Int) = k := by
  clear hx1 hd0 hel h1 hxj e1
  simpa using h2
 subst h2
 rw [c5, Nat.mul_one] at e1
 have h3 := World.var?_cell hg0 hv0 j
 rw [h3]
 have h4 : (List.take 1 (List.drop j cs0.toList))[0]? = some (Value.int .u8 (tv : Int)) := by rw [e1]; rfl
 rw [List.getElem?_take, if_pos (by decide), List.getElem?_drop] at h4
 simpa using h4
end Go.Proofs.YtolbhliepkcihaaDoor
end
section
namespace Go.Proofs.YtolbhliepkcihaaDoor
open Go.ChangeShapes Go.WideShapes Go.Deep Go.RowKit Go.Proofs.YtolbhliepkcihaaDoor.Kinds Go.Proofs.YtolbhliepkcihaaDoorW.PrintWords
theorem u64_wf {n : Int} (h : (Lit.int .u64 n).wf = true) : 0 ≤ n ∧ n ≤ 18446744073709551615 := by simpa [Lit.wf, IntKind.min, IntKind.max, IntKind.signed, IntKind.bits] using h
theorem row_items {H : Type} {enc : TypeId × Value → H} {W : World} {base : Nat} {spare : Nat → Bool} {held : Bool} {fuel : Nat} {A : Option Addr} {len cap : Nat} {x : DataW H × List MemPlace}
  (h : DataW.trod enc Tryd.prog W base spare held fuel 36 (Value.cells (.slice A len cap)).toList = some x) :
  ∃ l : List S46, l.length = len ∧ len ≤ cap ∧ Kd.C k46 W A l.length l ∧ ∀ y, y ∈ l → 0 ≤ y.f0 ∧ y.f0 ≤ 18446744073709551615 ∧ y.f1.size ≤ 9223372036854775807 := by
 rcases open_slice Tryd.underlying36 h with ⟨hcs, _⟩ | ⟨a, len', cap', m, n, D, Pl, hcs, _, hl, hm, hmm, _, hi⟩
 ·simp [Value.cells] at hcs
  obtain ⟨rfl, rfl, rfl⟩ := hcs
  exact ⟨[], rfl, Nat.le_refl _, Kd.C_nil _ _, fun y hy => by cases hy⟩
 ·simp [Value.cells] at hcs
  obtain ⟨rfl, rfl, rfl⟩ := hcs
  have c2 : Tryd.prog.cellsOf 46 = 2 := by kernel_rfl
  have cu : Tryd.prog.cellsOf 22 = 1 := by kernel_rfl
  have cs1 : Tryd.prog.cellsOf 9 = 1 := by kernel_rfl
  have hlm : len ≤ m := by
   rw [hmm]
   split
   ·exact hl
   ·exact Nat.le_refl _
  have each : ∀ i, i < len → ∃ y : S46, (W.cell? (a.add (i * 2)) = some (.int .u64 y.f0) ∧ W.cell? (a.add (i * 2 + 1)) = some (.string y.f1)) ∧ (0 ≤ y.f0 ∧ y.f0 ≤ 18446744073709551615 ∧ y.f1.size ≤ 9223372036854775807) := by
   intro i hil
   obtain ⟨cs', hc, ht⟩ := hi i (by omega)
   rw [c2] at hc
   obtain ⟨_, hcl, hat⟩ := World.cells?_some hc
   obtain ⟨xs, n', _, _, _, hlen, hf⟩ := DataW.trod_struct Tryd.underlying46 ht
   have h0 := hf 0 _ rfl
   have h1 := hf 1 _ rfl
   have hx0 : xs[0]? = some (xs[0]'(by rw [hlen]; decide)) := List.getElem?_eq_getElem _
   have hx1 : xs[1]? = some (xs[1]'(by rw [hlen]; decide)) := List.getElem?_eq_getElem _
   obtain ⟨k, e0, _, wk⟩ := DataW.trod_int Tryd.underlying22 (h0.trans hx0)
   obtain ⟨s, e1, _, ws⟩ := DataW.trod_string Tryd.underlying9 (h1.trans hx1)
   have a0 := hat 0 (by decide)
   have a1 := hat 1 (by decide)
   replace e0 : List.take (Tryd.prog.cellsOf 22) (List.drop 0 cs') = [Value.int .u64 k] := e0
   replace e1 : List.take (Tryd.prog.cellsOf 9) (List.drop 1 cs') = [Value.string s] := e1
   rw [cu] at e0
   rw [cs1] at e1
   have g0 : cs'[0]? = some (Value.int .u64 k) := by
    have h := congrArg (·[0]?) e0
    simpa using h
   have g1 : cs'[1]? = some (Value.string s) := by
    have h := congrArg (·[0]?) e1
    simpa [List.getElem?_take, List.getElem?_drop] using h
   unfold maxLen at ws
   have ad : ∀ j, (a.add (i * 2)).add j = a.add (i * 2 + j) := fun j => Deep.add_add a (i * 2) j
   rw [g0, ad] at a0
   rw [g1, ad] at a1
   exact ⟨⟨k, s⟩, ⟨a0, a1⟩, (u64_wf wk).1, (u64_wf wk).2, ws⟩
  haveI : Inhabited S46 := ⟨z46⟩
  obtain ⟨X, hX⟩ := choose_lt (α := S46) (p := fun i y => (W.cell? (a.add (i * 2)) = some (.int .u64 y.f0) ∧ W.cell? (a.add (i * 2 + 1)) = some (.string y.f1)) ∧ (0 ≤ y.f0 ∧ y.f0 ≤ 18446744073709551615 ∧ y.f1.size ≤ 9223372036854775807)) each
  have hz : ((List.range len).map X).length = len := by simp
  unfold maxLen at hm
  refine ⟨(List.range len).map X, hz, hl, ?_, fun y hy => ?_⟩
  ·rw [hz]
   refine ⟨hz, by omega, fun _ => ⟨a, rfl, fun j p hj => ?_⟩⟩
   have hjl : j < len := by
    have := (List.getElem?_eq_some_iff.1 hj).1
    omega
   have hp : X j = p := by
    rw [List.getElem?_map, List.getElem?_range hjl] at hj
    simpa using hj
   subst hp
   refine ⟨[.int .u64 (X j).f0, .string (X j).f1], rfl, k46_mk W (X j), fun i u hu => ?_⟩
   match i, hu with
   | 0, hu =>
    have hu : Value.int .u64 (X j).f0 = u := by simpa using hu
    subst hu
    exact (hX j hjl).1.1
   | 1, hu =>
    have hu : Value.string (X j).f1 = u := by simpa using hu
    subst hu
    exact (hX j hjl).1.2
  ·obtain ⟨i, hi2, rfl⟩ := List.mem_map.1 hy
   exact (hX i (List.mem_range.1 hi2)).2
end Go.Proofs.YtolbhliepkcihaaDoor
end
section
namespace Go.Proofs.YtolbhliepkcihaaDoor.QSF
open Go.RowKit Go.Proofs.YtolbhliepkcihaaDoor.Kinds Go.Proofs.YtolbhliepkcihaaDoorW.PrintWords Go.Proofs.YtolbhliepkcihaaDoorW.PrintLast Go.Proofs.YtolbhliepkcihaaDoorW.PrintMore
attribute [local go_sem] max2_int min2_int max_two min_two max_three min_three max_four min_four   -- for this text's walks alone
set_option linter.unusedVariables false
set_option linter.unusedSimpArgs false
def errW : Option Int → Value
 | none => .nilIface
 | some c => .iface 0 (.int .i64 c)
theorem errW_none : errW none = .nilIface := rfl
theorem errW_some (c : Int) : errW (some c) = .iface 0 (.int .i64 c) := rfl
theorem info3 : (Tryd.prog.info? 3).map (fun i => (i.zero, i.size, i.bytes)) = some (some (.int .i64 0), 1, 8) := by kernel_rfl
theorem info22 : (Tryd.prog.info? 22).map (fun i => (i.zero, i.size, i.bytes)) = some (some (.int .u64 0), 1, 8) := by kernel_rfl
theorem info46 : (Tryd.prog.info? 46).map (fun i => (i.zero, i.size, i.bytes)) = some (some (.agg #[(.int .u64 0), (.string ⟨#[]⟩)]), 2, 24) := by kernel_rfl
theorem info48 : (Tryd.prog.info? 48).map (fun i => (i.zero, i.size, i.bytes)) = some (some (.agg #[(.int .i64 0), (.int .i64 0)]), 2, 16) := by kernel_rfl
end Go.Proofs.YtolbhliepkcihaaDoor.QSF
end
section
namespace Go.Proofs.YtolbhliepkcihaaDoor.QSF
open Go.RowKit Go.Proofs.YtolbhliepkcihaaDoor.Kinds Go.Proofs.YtolbhliepkcihaaDoorW.PrintWords Go.Proofs.YtolbhliepkcihaaDoorW.PrintLast Go.Proofs.YtolbhliepkcihaaDoorW.PrintMore
attribute [local go_sem] max2_int min2_int max_two min_two max_three min_three max_four min_four   -- for this text's walks alone
set_option linter.unusedVariables false
set_option linter.unusedSimpArgs false
/-! ### skip_Right: function 38 -/
def skip_Right.l0 : Nat → List (S46) → List (S46) → Int → Int → Option (Bool)
 | 0, _, _, _, _ => none
 | k + 1, x0, x5, x6, x7 => if x7 < x6 then (if 0 ≤ x7 then (if x7 < (x5.length : Int) then (if (((rd_T46 x5 x7).f1).size : Int) > 64 then (some false) else (if x7 > 0 then (if 0 ≤ (wrap64 (x7 - 1)) then (if (wrap64 (x7 - 1)) < (x0.length : Int) then (if ((rd_T46 x0 (wrap64 (x7 - 1))).f0) ≥ ((rd_T46 x5 x7).f0) then (some false) else (skip_Right.l0 k x0 x5 x6 (wrap64 (x7 + 1)))) else (none)) else (none)) else (skip_Right.l0 k x0 x5 x6 (wrap64 (x7 + 1))))) else (none)) else (none)) else (some (decide ((x0.length : Int) ≤ 64)))
def skip_Right.f (k : Nat) (l0 : List (S46)) : Option (Bool) := skip_Right.l0 k l0 l0 (l0.length : Int) 0
theorem skip_Right.mono_l : ∀ k, (∀ y0 y1 y2 y3, LeO (skip_Right.l0 k y0 y1 y2 y3) (skip_Right.l0 (k + 1) y0 y1 y2 y3))
 | 0 => fun _ _ _ _ r h => by simp [skip_Right.l0] at h
 | k + 1 => by
  have ih0 := skip_Right.mono_l k
  ·intro y0 y1 y2 y3
   unfold skip_Right.l0
   repeat' first
   | (with_reducible exact ih0 _ _ _ _)
   | (with_reducible exact LeO.refl _)
   | (with_reducible exact LeO.none _)
   | (with_reducible refine LeO.ite ?_ ?_)
   | (with_reducible refine LeO.bind ?_ (fun _ => ?_))
   | exact ih0 _ _ _ _
   | exact LeO.none _
   | refine LeO.ite ?_ ?_
   | refine LeO.bind ?_ (fun _ => ?_)
theorem skip_Right.mono : ∀ a0 k, LeO (skip_Right.f k a0) (skip_Right.f (k + 1) a0) := by
 intro a0 k
 have ih0 := skip_Right.mono_l k
 unfold skip_Right.f
 repeat' first
   | (with_reducible exact ih0 _ _ _ _)
   | (with_reducible exact LeO.refl _)
   | (with_reducible exact LeO.none _)
   | (with_reducible refine LeO.ite ?_ ?_)
   | (with_reducible refine LeO.bind ?_ (fun _ => ?_))
   | exact ih0 _ _ _ _
   | exact LeO.none _
   | refine LeO.ite ?_ ?_
   | refine LeO.bind ?_ (fun _ => ?_)
set_option maxHeartbeats 8000000 in
set_option maxRecDepth 100000 in
theorem skip_Right.calls (k : Nat) (A0 : Option Addr) (c0 : Nat) (l0 : List (S46)) (r : Bool) (w : World) (hr0 : Kd.C k46 w A0 l0.length l0) (hc0 : l0.length ≤ c0) (h : skip_Right.f k l0 = some r) :
  Calls Tryd.prog 38 #[.slice A0 l0.length c0] w fun e w' => e = .returned (.bool r) ∧ Below w.heap.size w w' := by
 have hu46 := Tryd.underlying46
 have HR0 := Aside0.mk hr0
 have HC0 := Aside0.mk hc0
 clear hr0 hc0
 have HB := Aside0.mk (Below.refl w.heap.size w)
 have H : (skip_Right.l0 k l0 l0 (l0.length : Int) 0) = some r := h
 clear h
 have H' := Aside0.mk H
 clear H
 go_enter Tryd.func38, Tryd.ntmps38
 go_wp2
 repeat (go_quiet (fail); try go_wp2)
 go_loopg [7] k (fun kq v7 w' => ∃ (x7_1 : Int), v7 = .int .i64 x7_1 ∧ Aside0 (skip_Right.l0 kq l0 l0 (l0.length : Int) x7_1 = some r) ∧ Aside0 (kq ≤ k) ∧ Aside0 (Below w.heap.size w w'))
 case atStart => exact ⟨(0), (by first | rfl | (simp; done) | (simp [*]; done)), H', ⟨Nat.le_refl _⟩, ⟨by repeat (first | (with_reducible first | exact HB.out | apply below_alloc | apply pw_below_drewN | apply below_drew1) | exact HB.out)⟩⟩
 case round =>
  clear H'
  obtain ⟨x7_1, rfl, HA, HK1, HB⟩ := hrel
  cases gk with
  | zero => exact absurd HA.out (by simp [skip_Right.l0])
  | succ k1 =>
   have H := HA.out
   clear HA
   simp only [skip_Right.l0] at H
   by_cases c2 : x7_1 < (l0.length : Int)
   ·rw [if_pos c2] at H
    have c2b0 : decide (x7_1 < (l0.length : Int)) = true := decide_eq_true c2
    clear c2
    by_cases c3 : 0 ≤ x7_1
    ·rw [if_pos c3] at H
     have c3b0 : decide (0 ≤ x7_1) = true := decide_eq_true c3
     clear c3
     by_cases c4 : x7_1 < (l0.length : Int)
     ·rw [if_pos c4] at H
      have c4b0 : decide (x7_1 < (l0.length : Int)) = true := decide_eq_true c4
      clear c4
      by_cases c5 : (((rd_T46 l0 x7_1).f1).size : Int) > 64
      ·rw [if_pos c5] at H
       have c5b0 : decide (64 < (((rd_T46 l0 x7_1).f1).size : Int)) = true := decide_eq_true c5
       have c5b1 : decide (64 < ((rd_T46 l0 x7_1).f1).size) = true := decide_eq_true (by omega)
       clear c5
       obtain rfl := Option.some.inj H
       have p101 : 0 ≤ (x7_1 : Int) := of_decide_eq_true (by first | (with_reducible assumption) | assumption)
       have q101 : x7_1 < (l0.length : Int) := of_decide_eq_true (by first | (with_reducible assumption) | assumption)
       obtain ⟨ad101, e101, hx101_0, hx101_1⟩ := at_T46 HR0.out x7_1 p101 q101
       cases e101
       replace hx101_0 := (HB.out.cell (World.block_lt_of_cell? w _ hx101_0)).trans hx101_0
       replace hx101_1 := (HB.out.cell (World.block_lt_of_cell? w _ hx101_1)).trans hx101_1
       replace p101 := eq_true p101
       replace q101 := eq_true q101
       go_wp2_with (first | ((with_reducible refine gate_dst (N := 4) rfl ?_); refine box_event ?hg (N := 4) ?hd (cs := #[.int .u64 0, .string (⟨#[]⟩ : ByteArray)]) (t := 46) ?hr ?_; (case hd => rfl); (case hg => rfl); (case hr => first | (go_simp; done) | (go_simp; rfl)); intro gb102 hg w6 hbox hb; have n0_ := Aside0.mk (below_step (by repeat (first | (with_reducible first | exact HB.out | apply below_alloc | apply pw_below_drewN | apply below_drew1) | exact HB.out)) hb); have n1_ := Aside0.mk (hbox); have n2_ := Aside0.mk ((by rw [hg]; exact (below_size (by repeat (first | (with_reducible first | exact HB.out | apply below_alloc | apply pw_below_drewN | apply below_drew1) | exact HB.out))) : w.heap.size ≤ gb102)); have n3_ := Aside0.mk ((by rw [hg]; exact (below_size (by repeat (first | (with_reducible first | exact HB.out | apply below_alloc | apply pw_below_drewN | apply below_drew1) | exact HB.out))) : w.heap.size ≤ gb102)); clear HB; have HB := n0_; have BK102 := n1_; have GW102 := n2_; have GE102 := n3_; clear n0_ n1_ n2_ n3_; clear hb hbox hg; have hcz7_0 : w6.cell? ⟨gb102, 0, none⟩ = some (.int .u64 0) := (blk_cell BK102.out 0).trans rfl; have hcz7_1 : w6.cell? ⟨gb102, 1, none⟩ = some (.string (⟨#[]⟩ : ByteArray)) := (blk_cell BK102.out 1).trans rfl; have hfz7_0 := blk_frozen BK102.out 0; have hfz7_1 := blk_frozen BK102.out 1))
       repeat (go_quiet (first | ((with_reducible refine gate_dst (N := 4) rfl ?_); refine box_event ?hg (N := 4) ?hd (cs := #[.int .u64 0, .string (⟨#[]⟩ : ByteArray)]) (t := 46) ?hr ?_; (case hd => rfl); (case hg => rfl); (case hr => first | (go_simp; done) | (go_simp; rfl)); intro gb102 hg w6 hbox hb; have n0_ := Aside0.mk (below_step (by repeat (first | (with_reducible first | exact HB.out | apply below_alloc | apply pw_below_drewN | apply below_drew1) | exact HB.out)) hb); have n1_ := Aside0.mk (hbox); have n2_ := Aside0.mk ((by rw [hg]; exact (below_size (by repeat (first | (with_reducible first | exact HB.out | apply below_alloc | apply pw_below_drewN | apply below_drew1) | exact HB.out))) : w.heap.size ≤ gb102)); have n3_ := Aside0.mk ((by rw [hg]; exact (below_size (by repeat (first | (with_reducible first | exact HB.out | apply below_alloc | apply pw_below_drewN | apply below_drew1) | exact HB.out))) : w.heap.size ≤ gb102)); clear HB; have HB := n0_; have BK102 := n1_; have GW102 := n2_; have GE102 := n3_; clear n0_ n1_ n2_ n3_; clear hb hbox hg; have hcz7_0 : w6.cell? ⟨gb102, 0, none⟩ = some (.int .u64 0) := (blk_cell BK102.out 0).trans rfl; have hcz7_1 : w6.cell? ⟨gb102, 1, none⟩ = some (.string (⟨#[]⟩ : ByteArray)) := (blk_cell BK102.out 1).trans rfl; have hfz7_0 := blk_frozen BK102.out 0; have hfz7_1 := blk_frozen BK102.out 1)); try go_wp2_with (first | ((with_reducible refine gate_dst (N := 4) rfl ?_); refine box_event ?hg (N := 4) ?hd (cs := #[.int .u64 0, .string (⟨#[]⟩ : ByteArray)]) (t := 46) ?hr ?_; (case hd => rfl); (case hg => rfl); (case hr => first | (go_simp; done) | (go_simp; rfl)); intro gb102 hg w6 hbox hb; have n0_ := Aside0.mk (below_step (by repeat (first | (with_reducible first | exact HB.out | apply below_alloc | apply pw_below_drewN | apply below_drew1) | exact HB.out)) hb); have n1_ := Aside0.mk (hbox); have n2_ := Aside0.mk ((by rw [hg]; exact (below_size (by repeat (first | (with_reducible first | exact HB.out | apply below_alloc | apply pw_below_drewN | apply below_drew1) | exact HB.out))) : w.heap.size ≤ gb102)); have n3_ := Aside0.mk ((by rw [hg]; exact (below_size (by repeat (first | (with_reducible first | exact HB.out | apply below_alloc | apply pw_below_drewN | apply below_drew1) | exact HB.out))) : w.heap.size ≤ gb102)); clear HB; have HB := n0_; have BK102 := n1_; have GW102 := n2_; have GE102 := n3_; clear n0_ n1_ n2_ n3_; clear hb hbox hg; have hcz7_0 : w6.cell? ⟨gb102, 0, none⟩ = some (.int .u64 0) := (blk_cell BK102.out 0).trans rfl; have hcz7_1 : w6.cell? ⟨gb102, 1, none⟩ = some (.string (⟨#[]⟩ : ByteArray)) := (blk_cell BK102.out 1).trans rfl; have hfz7_0 := blk_frozen BK102.out 0; have hfz7_1 := blk_frozen BK102.out 1)))
       go_ret
       exact ⟨by first | rfl | (simp [errW_none, errW_some] <;> rfl) | (simp [*, errW_none, errW_some] <;> rfl), by repeat (first | (with_reducible first | exact HB.out | apply below_alloc | apply pw_below_drewN | apply below_drew1 | refine below_set ?_ GE102.out) | exact HB.out)⟩
      ·rw [if_neg c5] at H
       have c5b0 : decide (64 < (((rd_T46 l0 x7_1).f1).size : Int)) = false := decide_eq_false c5
       have c5b1 : decide (64 < ((rd_T46 l0 x7_1).f1).size) = false := decide_eq_false (by omega)
       clear c5
       by_cases c8 : x7_1 > 0
       ·rw [if_pos c8] at H
        have c8b0 : decide (0 < x7_1) = true := decide_eq_true c8
        clear c8
        obtain ⟨ji9, hji9⟩ : ∃ j_ : Int, (wrap64 (x7_1 - 1)) = j_ := ⟨_, rfl⟩
        replace H : (if 0 ≤ (ji9) then (if (ji9) < (l0.length : Int) then (if ((rd_T46 l0 (ji9)).f0) ≥ ((rd_T46 l0 x7_1).f0) then (some false) else (skip_Right.l0 k1 l0 l0 (l0.length : Int) (wrap64 (x7_1 + 1)))) else (none)) else (none)) = some r := by first | (rw [hji9] at H; exact H) | (simp only [hji9] at H ⊢; exact H)
        have hji9w : (IntKind.i64.wrap (x7_1 - 1)) = ji9 := (i64_w _).trans hji9
        by_cases c10 : 0 ≤ (ji9)
        ·rw [if_pos c10] at H
         have c10b0 : decide (0 ≤ (ji9)) = true := decide_eq_true c10
         clear c10
         by_cases c11 : (ji9) < (l0.length : Int)
         ·rw [if_pos c11] at H
          have c11b0 : decide ((ji9) < (l0.length : Int)) = true := decide_eq_true c11
          clear c11
          by_cases c12 : ((rd_T46 l0 (ji9)).f0) ≥ ((rd_T46 l0 x7_1).f0)
          ·rw [if_pos c12] at H
           have c12b0 : decide (((rd_T46 l0 x7_1).f0) ≤ ((rd_T46 l0 (ji9)).f0)) = true := decide_eq_true c12
           clear c12
           obtain rfl := Option.some.inj H
           have p101 : 0 ≤ (x7_1 : Int) := of_decide_eq_true (by first | (with_reducible assumption) | assumption)
           have q101 : x7_1 < (l0.length : Int) := of_decide_eq_true (by first | (with_reducible assumption) | assumption)
           obtain ⟨ad101, e101, hx101_0, hx101_1⟩ := at_T46 HR0.out x7_1 p101 q101
           cases e101
           replace hx101_0 := (HB.out.cell (World.block_lt_of_cell? w _ hx101_0)).trans hx101_0
           replace hx101_1 := (HB.out.cell (World.block_lt_of_cell? w _ hx101_1)).trans hx101_1
           replace p101 := eq_true p101
           replace q101 := eq_true q101
           go_wp2_with (first | ((with_reducible refine gate_dst (N := 4) rfl ?_); refine box_event ?hg (N := 4) ?hd (cs := #[.int .u64 0, .string (⟨#[]⟩ : ByteArray)]) (t := 46) ?hr ?_; (case hd => rfl); (case hg => rfl); (case hr => first | (go_simp; done) | (go_simp; rfl)); intro gb102 hg w13 hbox hb; have n0_ := Aside0.mk (below_step (by repeat (first | (with_reducible first | exact HB.out | apply below_alloc | apply pw_below_drewN | apply below_drew1) | exact HB.out)) hb); have n1_ := Aside0.mk (hbox); have n2_ := Aside0.mk ((by rw [hg]; exact (below_size (by repeat (first | (with_reducible first | exact HB.out | apply below_alloc | apply pw_below_drewN | apply below_drew1) | exact HB.out))) : w.heap.size ≤ gb102)); have n3_ := Aside0.mk ((by rw [hg]; exact (below_size (by repeat (first | (with_reducible first | exact HB.out | apply below_alloc | apply pw_below_drewN | apply below_drew1) | exact HB.out))) : w.heap.size ≤ gb102)); clear HB; have HB := n0_; have BK102 := n1_; have GW102 := n2_; have GE102 := n3_; clear n0_ n1_ n2_ n3_; clear hb hbox hg; have hcz14_0 : w13.cell? ⟨gb102, 0, none⟩ = some (.int .u64 0) := (blk_cell BK102.out 0).trans rfl; have hcz14_1 : w13.cell? ⟨gb102, 1, none⟩ = some (.string (⟨#[]⟩ : ByteArray)) := (blk_cell BK102.out 1).trans rfl; have hfz14_0 := blk_frozen BK102.out 0; have hfz14_1 := blk_frozen BK102.out 1; have p103 : 0 ≤ ((ji9) : Int) := of_decide_eq_true (by first | (with_reducible assumption) | assumption); have q103 : (ji9) < (l0.length : Int) := of_decide_eq_true (by first | (with_reducible assumption) | assumption); obtain ⟨ad103, e103, hx103_0, hx103_1⟩ := at_T46 HR0.out (ji9) p103 q103; obtain rfl : ad101 = ad103 := (by injection e103); have hn103_0 : ad101.block ≠ gb102 := Nat.ne_of_lt (Nat.lt_of_lt_of_le (by have := World.block_lt_of_cell? _ _ hx103_0; first | rwa [add_block] at this | exact this) GW102.out); have hn103_1 : ad101.block ≠ gb102 := Nat.ne_of_lt (Nat.lt_of_lt_of_le (by have := World.block_lt_of_cell? _ _ hx103_0; first | rwa [add_block] at this | exact this) GW102.out); replace hx103_0 := (HB.out.cell (World.block_lt_of_cell? w _ hx103_0)).trans hx103_0; replace hx103_1 := (HB.out.cell (World.block_lt_of_cell? w _ hx103_1)).trans hx103_1; replace hx103_0 := (cell_far (p := ⟨gb102, 0, none⟩) (by first | (rw [add_block]; exact hn103_0) | (show (Addr.add _ _).block ≠ _; rw [add_block]; exact hn103_0) | exact hn103_0) (.int .u64 ((rd_T46 l0 x7_1).f0))).trans hx103_0; replace hx103_1 := (cell_far (p := ⟨gb102, 0, none⟩) (by first | (rw [add_block]; exact hn103_0) | (show (Addr.add _ _).block ≠ _; rw [add_block]; exact hn103_0) | exact hn103_0) (.int .u64 ((rd_T46 l0 x7_1).f0))).trans hx103_1; replace hx103_0 := (cell_far (p := ⟨gb102, 1, none⟩) (by first | (rw [add_block]; exact hn103_1) | (show (Addr.add _ _).block ≠ _; rw [add_block]; exact hn103_1) | exact hn103_1) (.string ((rd_T46 l0 x7_1).f1))).trans hx103_0; replace hx103_1 := (cell_far (p := ⟨gb102, 1, none⟩) (by first | (rw [add_block]; exact hn103_1) | (show (Addr.add _ _).block ≠ _; rw [add_block]; exact hn103_1) | exact hn103_1) (.string ((rd_T46 l0 x7_1).f1))).trans hx103_1; (try have hy103_0 := fun (n_ : Nat) => (show ((((w13.drewN n_).setCell ⟨gb102, 0, none⟩ (.int .u64 ((rd_T46 l0 x7_1).f0))).setCell ⟨gb102, 1, none⟩ (.string ((rd_T46 l0 x7_1).f1)))).cell? _ = some _ from hx103_0)); (try have hy103_1 := fun (n_ : Nat) => (show ((((w13.drewN n_).setCell ⟨gb102, 0, none⟩ (.int .u64 ((rd_T46 l0 x7_1).f0))).setCell ⟨gb102, 1, none⟩ (.string ((rd_T46 l0 x7_1).f1)))).cell? _ = some _ from hx103_1)); clear hn103_0; clear hn103_1; replace p103 := eq_true p103; replace q103 := eq_true q103))
           repeat (go_quiet (first | ((with_reducible refine gate_dst (N := 4) rfl ?_); refine box_event ?hg (N := 4) ?hd (cs := #[.int .u64 0, .string (⟨#[]⟩ : ByteArray)]) (t := 46) ?hr ?_; (case hd => rfl); (case hg => rfl); (case hr => first | (go_simp; done) | (go_simp; rfl)); intro gb102 hg w13 hbox hb; have n0_ := Aside0.mk (below_step (by repeat (first | (with_reducible first | exact HB.out | apply below_alloc | apply pw_below_drewN | apply below_drew1) | exact HB.out)) hb); have n1_ := Aside0.mk (hbox); have n2_ := Aside0.mk ((by rw [hg]; exact (below_size (by repeat (first | (with_reducible first | exact HB.out | apply below_alloc | apply pw_below_drewN | apply below_drew1) | exact HB.out))) : w.heap.size ≤ gb102)); have n3_ := Aside0.mk ((by rw [hg]; exact (below_size (by repeat (first | (with_reducible first | exact HB.out | apply below_alloc | apply pw_below_drewN | apply below_drew1) | exact HB.out))) : w.heap.size ≤ gb102)); clear HB; have HB := n0_; have BK102 := n1_; have GW102 := n2_; have GE102 := n3_; clear n0_ n1_ n2_ n3_; clear hb hbox hg; have hcz14_0 : w13.cell? ⟨gb102, 0, none⟩ = some (.int .u64 0) := (blk_cell BK102.out 0).trans rfl; have hcz14_1 : w13.cell? ⟨gb102, 1, none⟩ = some (.string (⟨#[]⟩ : ByteArray)) := (blk_cell BK102.out 1).trans rfl; have hfz14_0 := blk_frozen BK102.out 0; have hfz14_1 := blk_frozen BK102.out 1; have p103 : 0 ≤ ((ji9) : Int) := of_decide_eq_true (by first | (with_reducible assumption) | assumption); have q103 : (ji9) < (l0.length : Int) := of_decide_eq_true (by first | (with_reducible assumption) | assumption); obtain ⟨ad103, e103, hx103_0, hx103_1⟩ := at_T46 HR0.out (ji9) p103 q103; obtain rfl : ad101 = ad103 := (by injection e103); have hn103_0 : ad101.block ≠ gb102 := Nat.ne_of_lt (Nat.lt_of_lt_of_le (by have := World.block_lt_of_cell? _ _ hx103_0; first | rwa [add_block] at this | exact this) GW102.out); have hn103_1 : ad101.block ≠ gb102 := Nat.ne_of_lt (Nat.lt_of_lt_of_le (by have := World.block_lt_of_cell? _ _ hx103_0; first | rwa [add_block] at this | exact this) GW102.out); replace hx103_0 := (HB.out.cell (World.block_lt_of_cell? w _ hx103_0)).trans hx103_0; replace hx103_1 := (HB.out.cell (World.block_lt_of_cell? w _ hx103_1)).trans hx103_1; replace hx103_0 := (cell_far (p := ⟨gb102, 0, none⟩) (by first | (rw [add_block]; exact hn103_0) | (show (Addr.add _ _).block ≠ _; rw [add_block]; exact hn103_0) | exact hn103_0) (.int .u64 ((rd_T46 l0 x7_1).f0))).trans hx103_0; replace hx103_1 := (cell_far (p := ⟨gb102, 0, none⟩) (by first | (rw [add_block]; exact hn103_0) | (show (Addr.add _ _).block ≠ _; rw [add_block]; exact hn103_0) | exact hn103_0) (.int .u64 ((rd_T46 l0 x7_1).f0))).trans hx103_1; replace hx103_0 := (cell_far (p := ⟨gb102, 1, none⟩) (by first | (rw [add_block]; exact hn103_1) | (show (Addr.add _ _).block ≠ _; rw [add_block]; exact hn103_1) | exact hn103_1) (.string ((rd_T46 l0 x7_1).f1))).trans hx103_0; replace hx103_1 := (cell_far (p := ⟨gb102, 1, none⟩) (by first | (rw [add_block]; exact hn103_1) | (show (Addr.add _ _).block ≠ _; rw [add_block]; exact hn103_1) | exact hn103_1) (.string ((rd_T46 l0 x7_1).f1))).trans hx103_1; (try have hy103_0 := fun (n_ : Nat) => (show ((((w13.drewN n_).setCell ⟨gb102, 0, none⟩ (.int .u64 ((rd_T46 l0 x7_1).f0))).setCell ⟨gb102, 1, none⟩ (.string ((rd_T46 l0 x7_1).f1)))).cell? _ = some _ from hx103_0)); (try have hy103_1 := fun (n_ : Nat) => (show ((((w13.drewN n_).setCell ⟨gb102, 0, none⟩ (.int .u64 ((rd_T46 l0 x7_1).f0))).setCell ⟨gb102, 1, none⟩ (.string ((rd_T46 l0 x7_1).f1)))).cell? _ = some _ from hx103_1)); clear hn103_0; clear hn103_1; replace p103 := eq_true p103; replace q103 := eq_true q103)); try go_wp2_with (first | ((with_reducible refine gate_dst (N := 4) rfl ?_); refine box_event ?hg (N := 4) ?hd (cs := #[.int .u64 0, .string (⟨#[]⟩ : ByteArray)]) (t := 46) ?hr ?_; (case hd => rfl); (case hg => rfl); (case hr => first | (go_simp; done) | (go_simp; rfl)); intro gb102 hg w13 hbox hb; have n0_ := Aside0.mk (below_step (by repeat (first | (with_reducible first | exact HB.out | apply below_alloc | apply pw_below_drewN | apply below_drew1) | exact HB.out)) hb); have n1_ := Aside0.mk (hbox); have n2_ := Aside0.mk ((by rw [hg]; exact (below_size (by repeat (first | (with_reducible first | exact HB.out | apply below_alloc | apply pw_below_drewN | apply below_drew1) | exact HB.out))) : w.heap.size ≤ gb102)); have n3_ := Aside0.mk ((by rw [hg]; exact (below_size (by repeat (first | (with_reducible first | exact HB.out | apply below_alloc | apply pw_below_drewN | apply below_drew1) | exact HB.out))) : w.heap.size ≤ gb102)); clear HB; have HB := n0_; have BK102 := n1_; have GW102 := n2_; have GE102 := n3_; clear n0_ n1_ n2_ n3_; clear hb hbox hg; have hcz14_0 : w13.cell? ⟨gb102, 0, none⟩ = some (.int .u64 0) := (blk_cell BK102.out 0).trans rfl; have hcz14_1 : w13.cell? ⟨gb102, 1, none⟩ = some (.string (⟨#[]⟩ : ByteArray)) := (blk_cell BK102.out 1).trans rfl; have hfz14_0 := blk_frozen BK102.out 0; have hfz14_1 := blk_frozen BK102.out 1; have p103 : 0 ≤ ((ji9) : Int) := of_decide_eq_true (by first | (with_reducible assumption) | assumption); have q103 : (ji9) < (l0.length : Int) := of_decide_eq_true (by first | (with_reducible assumption) | assumption); obtain ⟨ad103, e103, hx103_0, hx103_1⟩ := at_T46 HR0.out (ji9) p103 q103; obtain rfl : ad101 = ad103 := (by injection e103); have hn103_0 : ad101.block ≠ gb102 := Nat.ne_of_lt (Nat.lt_of_lt_of_le (by have := World.block_lt_of_cell? _ _ hx103_0; first | rwa [add_block] at this | exact this) GW102.out); have hn103_1 : ad101.block ≠ gb102 := Nat.ne_of_lt (Nat.lt_of_lt_of_le (by have := World.block_lt_of_cell? _ _ hx103_0; first | rwa [add_block] at this | exact this) GW102.out); replace hx103_0 := (HB.out.cell (World.block_lt_of_cell? w _ hx103_0)).trans hx103_0; replace hx103_1 := (HB.out.cell (World.block_lt_of_cell? w _ hx103_1)).trans hx103_1; replace hx103_0 := (cell_far (p := ⟨gb102, 0, none⟩) (by first | (rw [add_block]; exact hn103_0) | (show (Addr.add _ _).block ≠ _; rw [add_block]; exact hn103_0) | exact hn103_0) (.int .u64 ((rd_T46 l0 x7_1).f0))).trans hx103_0; replace hx103_1 := (cell_far (p := ⟨gb102, 0, none⟩) (by first | (rw [add_block]; exact hn103_0) | (show (Addr.add _ _).block ≠ _; rw [add_block]; exact hn103_0) | exact hn103_0) (.int .u64 ((rd_T46 l0 x7_1).f0))).trans hx103_1; replace hx103_0 := (cell_far (p := ⟨gb102, 1, none⟩) (by first | (rw [add_block]; exact hn103_1) | (show (Addr.add _ _).block ≠ _; rw [add_block]; exact hn103_1) | exact hn103_1) (.string ((rd_T46 l0 x7_1).f1))).trans hx103_0; replace hx103_1 := (cell_far (p := ⟨gb102, 1, none⟩) (by first | (rw [add_block]; exact hn103_1) | (show (Addr.add _ _).block ≠ _; rw [add_block]; exact hn103_1) | exact hn103_1) (.string ((rd_T46 l0 x7_1).f1))).trans hx103_1; (try have hy103_0 := fun (n_ : Nat) => (show ((((w13.drewN n_).setCell ⟨gb102, 0, none⟩ (.int .u64 ((rd_T46 l0 x7_1).f0))).setCell ⟨gb102, 1, none⟩ (.string ((rd_T46 l0 x7_1).f1)))).cell? _ = some _ from hx103_0)); (try have hy103_1 := fun (n_ : Nat) => (show ((((w13.drewN n_).setCell ⟨gb102, 0, none⟩ (.int .u64 ((rd_T46 l0 x7_1).f0))).setCell ⟨gb102, 1, none⟩ (.string ((rd_T46 l0 x7_1).f1)))).cell? _ = some _ from hx103_1)); clear hn103_0; clear hn103_1; replace p103 := eq_true p103; replace q103 := eq_true q103)))
           go_ret
           exact ⟨by first | rfl | (simp [errW_none, errW_some] <;> rfl) | (simp only [← hji9]; first | rfl | (simp [errW_none, errW_some] <;> rfl)) | (simp [*, errW_none, errW_some] <;> rfl), by repeat (first | (with_reducible first | exact HB.out | apply below_alloc | apply pw_below_drewN | apply below_drew1 | refine below_set ?_ GE102.out) | exact HB.out)⟩
          ·rw [if_neg c12] at H
           have c12b0 : decide (((rd_T46 l0 x7_1).f0) ≤ ((rd_T46 l0 (ji9)).f0)) = false := decide_eq_false c12
           clear c12
           have H' := Aside0.mk H
           clear H
           have p101 : 0 ≤ (x7_1 : Int) := of_decide_eq_true (by first | (with_reducible assumption) | assumption)
           have q101 : x7_1 < (l0.length : Int) := of_decide_eq_true (by first | (with_reducible assumption) | assumption)
           obtain ⟨ad101, e101, hx101_0, hx101_1⟩ := at_T46 HR0.out x7_1 p101 q101
           cases e101
           replace hx101_0 := (HB.out.cell (World.block_lt_of_cell? w _ hx101_0)).trans hx101_0
           replace hx101_1 := (HB.out.cell (World.block_lt_of_cell? w _ hx101_1)).trans hx101_1
           replace p101 := eq_true p101
           replace q101 := eq_true q101
           go_wp2_with (first | ((with_reducible refine gate_dst (N := 4) rfl ?_); refine box_event ?hg (N := 4) ?hd (cs := #[.int .u64 0, .string (⟨#[]⟩ : ByteArray)]) (t := 46) ?hr ?_; (case hd => rfl); (case hg => rfl); (case hr => first | (go_simp; done) | (go_simp; rfl)); intro gb102 hg w15 hbox hb; have n0_ := Aside0.mk (below_step (by repeat (first | (with_reducible first | exact HB.out | apply below_alloc | apply pw_below_drewN | apply below_drew1) | exact HB.out)) hb); have n1_ := Aside0.mk (hbox); have n2_ := Aside0.mk ((by rw [hg]; exact (below_size (by repeat (first | (with_reducible first | exact HB.out | apply below_alloc | apply pw_below_drewN | apply below_drew1) | exact HB.out))) : w.heap.size ≤ gb102)); have n3_ := Aside0.mk ((by rw [hg]; exact (below_size (by repeat (first | (with_reducible first | exact HB.out | apply below_alloc | apply pw_below_drewN | apply below_drew1) | exact HB.out))) : w.heap.size ≤ gb102)); clear HB; have HB := n0_; have BK102 := n1_; have GW102 := n2_; have GE102 := n3_; clear n0_ n1_ n2_ n3_; clear hb hbox hg; have hcz16_0 : w15.cell? ⟨gb102, 0, none⟩ = some (.int .u64 0) := (blk_cell BK102.out 0).trans rfl; have hcz16_1 : w15.cell? ⟨gb102, 1, none⟩ = some (.string (⟨#[]⟩ : ByteArray)) := (blk_cell BK102.out 1).trans rfl; have hfz16_0 := blk_frozen BK102.out 0; have hfz16_1 := blk_frozen BK102.out 1; have p103 : 0 ≤ ((ji9) : Int) := of_decide_eq_true (by first | (with_reducible assumption) | assumption); have q103 : (ji9) < (l0.length : Int) := of_decide_eq_true (by first | (with_reducible assumption) | assumption); obtain ⟨ad103, e103, hx103_0, hx103_1⟩ := at_T46 HR0.out (ji9) p103 q103; obtain rfl : ad101 = ad103 := (by injection e103); have hn103_0 : ad101.block ≠ gb102 := Nat.ne_of_lt (Nat.lt_of_lt_of_le (by have := World.block_lt_of_cell? _ _ hx103_0; first | rwa [add_block] at this | exact this) GW102.out); have hn103_1 : ad101.block ≠ gb102 := Nat.ne_of_lt (Nat.lt_of_lt_of_le (by have := World.block_lt_of_cell? _ _ hx103_0; first | rwa [add_block] at this | exact this) GW102.out); replace hx103_0 := (HB.out.cell (World.block_lt_of_cell? w _ hx103_0)).trans hx103_0; replace hx103_1 := (HB.out.cell (World.block_lt_of_cell? w _ hx103_1)).trans hx103_1; replace hx103_0 := (cell_far (p := ⟨gb102, 0, none⟩) (by first | (rw [add_block]; exact hn103_0) | (show (Addr.add _ _).block ≠ _; rw [add_block]; exact hn103_0) | exact hn103_0) (.int .u64 ((rd_T46 l0 x7_1).f0))).trans hx103_0; replace hx103_1 := (cell_far (p := ⟨gb102, 0, none⟩) (by first | (rw [add_block]; exact hn103_0) | (show (Addr.add _ _).block ≠ _; rw [add_block]; exact hn103_0) | exact hn103_0) (.int .u64 ((rd_T46 l0 x7_1).f0))).trans hx103_1; replace hx103_0 := (cell_far (p := ⟨gb102, 1, none⟩) (by first | (rw [add_block]; exact hn103_1) | (show (Addr.add _ _).block ≠ _; rw [add_block]; exact hn103_1) | exact hn103_1) (.string ((rd_T46 l0 x7_1).f1))).trans hx103_0; replace hx103_1 := (cell_far (p := ⟨gb102, 1, none⟩) (by first | (rw [add_block]; exact hn103_1) | (show (Addr.add _ _).block ≠ _; rw [add_block]; exact hn103_1) | exact hn103_1) (.string ((rd_T46 l0 x7_1).f1))).trans hx103_1; (try have hy103_0 := fun (n_ : Nat) => (show ((((w15.drewN n_).setCell ⟨gb102, 0, none⟩ (.int .u64 ((rd_T46 l0 x7_1).f0))).setCell ⟨gb102, 1, none⟩ (.string ((rd_T46 l0 x7_1).f1)))).cell? _ = some _ from hx103_0)); (try have hy103_1 := fun (n_ : Nat) => (show ((((w15.drewN n_).setCell ⟨gb102, 0, none⟩ (.int .u64 ((rd_T46 l0 x7_1).f0))).setCell ⟨gb102, 1, none⟩ (.string ((rd_T46 l0 x7_1).f1)))).cell? _ = some _ from hx103_1)); clear hn103_0; clear hn103_1; replace p103 := eq_true p103; replace q103 := eq_true q103))
           repeat (go_quiet (first | ((with_reducible refine gate_dst (N := 4) rfl ?_); refine box_event ?hg (N := 4) ?hd (cs := #[.int .u64 0, .string (⟨#[]⟩ : ByteArray)]) (t := 46) ?hr ?_; (case hd => rfl); (case hg => rfl); (case hr => first | (go_simp; done) | (go_simp; rfl)); intro gb102 hg w15 hbox hb; have n0_ := Aside0.mk (below_step (by repeat (first | (with_reducible first | exact HB.out | apply below_alloc | apply pw_below_drewN | apply below_drew1) | exact HB.out)) hb); have n1_ := Aside0.mk (hbox); have n2_ := Aside0.mk ((by rw [hg]; exact (below_size (by repeat (first | (with_reducible first | exact HB.out | apply below_alloc | apply pw_below_drewN | apply below_drew1) | exact HB.out))) : w.heap.size ≤ gb102)); have n3_ := Aside0.mk ((by rw [hg]; exact (below_size (by repeat (first | (with_reducible first | exact HB.out | apply below_alloc | apply pw_below_drewN | apply below_drew1) | exact HB.out))) : w.heap.size ≤ gb102)); clear HB; have HB := n0_; have BK102 := n1_; have GW102 := n2_; have GE102 := n3_; clear n0_ n1_ n2_ n3_; clear hb hbox hg; have hcz16_0 : w15.cell? ⟨gb102, 0, none⟩ = some (.int .u64 0) := (blk_cell BK102.out 0).trans rfl; have hcz16_1 : w15.cell? ⟨gb102, 1, none⟩ = some (.string (⟨#[]⟩ : ByteArray)) := (blk_cell BK102.out 1).trans rfl; have hfz16_0 := blk_frozen BK102.out 0; have hfz16_1 := blk_frozen BK102.out 1; have p103 : 0 ≤ ((ji9) : Int) := of_decide_eq_true (by first | (with_reducible assumption) | assumption); have q103 : (ji9) < (l0.length : Int) := of_decide_eq_true (by first | (with_reducible assumption) | assumption); obtain ⟨ad103, e103, hx103_0, hx103_1⟩ := at_T46 HR0.out (ji9) p103 q103; obtain rfl : ad101 = ad103 := (by injection e103); have hn103_0 : ad101.block ≠ gb102 := Nat.ne_of_lt (Nat.lt_of_lt_of_le (by have := World.block_lt_of_cell? _ _ hx103_0; first | rwa [add_block] at this | exact this) GW102.out); have hn103_1 : ad101.block ≠ gb102 := Nat.ne_of_lt (Nat.lt_of_lt_of_le (by have := World.block_lt_of_cell? _ _ hx103_0; first | rwa [add_block] at this | exact this) GW102.out); replace hx103_0 := (HB.out.cell (World.block_lt_of_cell? w _ hx103_0)).trans hx103_0; replace hx103_1 := (HB.out.cell (World.block_lt_of_cell? w _ hx103_1)).trans hx103_1; replace hx103_0 := (cell_far (p := ⟨gb102, 0, none⟩) (by first | (rw [add_block]; exact hn103_0) | (show (Addr.add _ _).block ≠ _; rw [add_block]; exact hn103_0) | exact hn103_0) (.int .u64 ((rd_T46 l0 x7_1).f0))).trans hx103_0; replace hx103_1 := (cell_far (p := ⟨gb102, 0, none⟩) (by first | (rw [add_block]; exact hn103_0) | (show (Addr.add _ _).block ≠ _; rw [add_block]; exact hn103_0) | exact hn103_0) (.int .u64 ((rd_T46 l0 x7_1).f0))).trans hx103_1; replace hx103_0 := (cell_far (p := ⟨gb102, 1, none⟩) (by first | (rw [add_block]; exact hn103_1) | (show (Addr.add _ _).block ≠ _; rw [add_block]; exact hn103_1) | exact hn103_1) (.string ((rd_T46 l0 x7_1).f1))).trans hx103_0; replace hx103_1 := (cell_far (p := ⟨gb102, 1, none⟩) (by first | (rw [add_block]; exact hn103_1) | (show (Addr.add _ _).block ≠ _; rw [add_block]; exact hn103_1) | exact hn103_1) (.string ((rd_T46 l0 x7_1).f1))).trans hx103_1; (try have hy103_0 := fun (n_ : Nat) => (show ((((w15.drewN n_).setCell ⟨gb102, 0, none⟩ (.int .u64 ((rd_T46 l0 x7_1).f0))).setCell ⟨gb102, 1, none⟩ (.string ((rd_T46 l0 x7_1).f1)))).cell? _ = some _ from hx103_0)); (try have hy103_1 := fun (n_ : Nat) => (show ((((w15.drewN n_).setCell ⟨gb102, 0, none⟩ (.int .u64 ((rd_T46 l0 x7_1).f0))).setCell ⟨gb102, 1, none⟩ (.string ((rd_T46 l0 x7_1).f1)))).cell? _ = some _ from hx103_1)); clear hn103_0; clear hn103_1; replace p103 := eq_true p103; replace q103 := eq_true q103)); try go_wp2_with (first | ((with_reducible refine gate_dst (N := 4) rfl ?_); refine box_event ?hg (N := 4) ?hd (cs := #[.int .u64 0, .string (⟨#[]⟩ : ByteArray)]) (t := 46) ?hr ?_; (case hd => rfl); (case hg => rfl); (case hr => first | (go_simp; done) | (go_simp; rfl)); intro gb102 hg w15 hbox hb; have n0_ := Aside0.mk (below_step (by repeat (first | (with_reducible first | exact HB.out | apply below_alloc | apply pw_below_drewN | apply below_drew1) | exact HB.out)) hb); have n1_ := Aside0.mk (hbox); have n2_ := Aside0.mk ((by rw [hg]; exact (below_size (by repeat (first | (with_reducible first | exact HB.out | apply below_alloc | apply pw_below_drewN | apply below_drew1) | exact HB.out))) : w.heap.size ≤ gb102)); have n3_ := Aside0.mk ((by rw [hg]; exact (below_size (by repeat (first | (with_reducible first | exact HB.out | apply below_alloc | apply pw_below_drewN | apply below_drew1) | exact HB.out))) : w.heap.size ≤ gb102)); clear HB; have HB := n0_; have BK102 := n1_; have GW102 := n2_; have GE102 := n3_; clear n0_ n1_ n2_ n3_; clear hb hbox hg; have hcz16_0 : w15.cell? ⟨gb102, 0, none⟩ = some (.int .u64 0) := (blk_cell BK102.out 0).trans rfl; have hcz16_1 : w15.cell? ⟨gb102, 1, none⟩ = some (.string (⟨#[]⟩ : ByteArray)) := (blk_cell BK102.out 1).trans rfl; have hfz16_0 := blk_frozen BK102.out 0; have hfz16_1 := blk_frozen BK102.out 1; have p103 : 0 ≤ ((ji9) : Int) := of_decide_eq_true (by first | (with_reducible assumption) | assumption); have q103 : (ji9) < (l0.length : Int) := of_decide_eq_true (by first | (with_reducible assumption) | assumption); obtain ⟨ad103, e103, hx103_0, hx103_1⟩ := at_T46 HR0.out (ji9) p103 q103; obtain rfl : ad101 = ad103 := (by injection e103); have hn103_0 : ad101.block ≠ gb102 := Nat.ne_of_lt (Nat.lt_of_lt_of_le (by have := World.block_lt_of_cell? _ _ hx103_0; first | rwa [add_block] at this | exact this) GW102.out); have hn103_1 : ad101.block ≠ gb102 := Nat.ne_of_lt (Nat.lt_of_lt_of_le (by have := World.block_lt_of_cell? _ _ hx103_0; first | rwa [add_block] at this | exact this) GW102.out); replace hx103_0 := (HB.out.cell (World.block_lt_of_cell? w _ hx103_0)).trans hx103_0; replace hx103_1 := (HB.out.cell (World.block_lt_of_cell? w _ hx103_1)).trans hx103_1; replace hx103_0 := (cell_far (p := ⟨gb102, 0, none⟩) (by first | (rw [add_block]; exact hn103_0) | (show (Addr.add _ _).block ≠ _; rw [add_block]; exact hn103_0) | exact hn103_0) (.int .u64 ((rd_T46 l0 x7_1).f0))).trans hx103_0; replace hx103_1 := (cell_far (p := ⟨gb102, 0, none⟩) (by first | (rw [add_block]; exact hn103_0) | (show (Addr.add _ _).block ≠ _; rw [add_block]; exact hn103_0) | exact hn103_0) (.int .u64 ((rd_T46 l0 x7_1).f0))).trans hx103_1; replace hx103_0 := (cell_far (p := ⟨gb102, 1, none⟩) (by first | (rw [add_block]; exact hn103_1) | (show (Addr.add _ _).block ≠ _; rw [add_block]; exact hn103_1) | exact hn103_1) (.string ((rd_T46 l0 x7_1).f1))).trans hx103_0; replace hx103_1 := (cell_far (p := ⟨gb102, 1, none⟩) (by first | (rw [add_block]; exact hn103_1) | (show (Addr.add _ _).block ≠ _; rw [add_block]; exact hn103_1) | exact hn103_1) (.string ((rd_T46 l0 x7_1).f1))).trans hx103_1; (try have hy103_0 := fun (n_ : Nat) => (show ((((w15.drewN n_).setCell ⟨gb102, 0, none⟩ (.int .u64 ((rd_T46 l0 x7_1).f0))).setCell ⟨gb102, 1, none⟩ (.string ((rd_T46 l0 x7_1).f1)))).cell? _ = some _ from hx103_0)); (try have hy103_1 := fun (n_ : Nat) => (show ((((w15.drewN n_).setCell ⟨gb102, 0, none⟩ (.int .u64 ((rd_T46 l0 x7_1).f0))).setCell ⟨gb102, 1, none⟩ (.string ((rd_T46 l0 x7_1).f1)))).cell? _ = some _ from hx103_1)); clear hn103_0; clear hn103_1; replace p103 := eq_true p103; replace q103 := eq_true q103)))
           go_roundg k1
           case measure => have := HK1.out; omega
           case rel => exact ⟨(wrap64 (x7_1 + 1)), (by first | rfl | (simp; done) | (simp [*]; done)), H', ⟨by have := HK1.out; omega⟩, ⟨by repeat (first | (with_reducible first | exact HB.out | apply below_alloc | apply pw_below_drewN | apply below_drew1 | refine below_set ?_ GE102.out) | exact HB.out)⟩⟩
         ·rw [if_neg c11] at H
          exact absurd H (by simp)
        ·rw [if_neg c10] at H
         exact absurd H (by simp)
       ·rw [if_neg c8] at H
        have c8b0 : decide (0 < x7_1) = false := decide_eq_false c8
        clear c8
        have H' := Aside0.mk H
        clear H
        have p101 : 0 ≤ (x7_1 : Int) := of_decide_eq_true (by first | (with_reducible assumption) | assumption)
        have q101 : x7_1 < (l0.length : Int) := of_decide_eq_true (by first | (with_reducible assumption) | assumption)
        obtain ⟨ad101, e101, hx101_0, hx101_1⟩ := at_T46 HR0.out x7_1 p101 q101
        cases e101
        replace hx101_0 := (HB.out.cell (World.block_lt_of_cell? w _ hx101_0)).trans hx101_0
        replace hx101_1 := (HB.out.cell (World.block_lt_of_cell? w _ hx101_1)).trans hx101_1
        replace p101 := eq_true p101
        replace q101 := eq_true q101
        go_wp2_with (first | ((with_reducible refine gate_dst (N := 4) rfl ?_); refine box_event ?hg (N := 4) ?hd (cs := #[.int .u64 0, .string (⟨#[]⟩ : ByteArray)]) (t := 46) ?hr ?_; (case hd => rfl); (case hg => rfl); (case hr => first | (go_simp; done) | (go_simp; rfl)); intro gb102 hg w17 hbox hb; have n0_ := Aside0.mk (below_step (by repeat (first | (with_reducible first | exact HB.out | apply below_alloc | apply pw_below_drewN | apply below_drew1) | exact HB.out)) hb); have n1_ := Aside0.mk (hbox); have n2_ := Aside0.mk ((by rw [hg]; exact (below_size (by repeat (first | (with_reducible first | exact HB.out | apply below_alloc | apply pw_below_drewN | apply below_drew1) | exact HB.out))) : w.heap.size ≤ gb102)); have n3_ := Aside0.mk ((by rw [hg]; exact (below_size (by repeat (first | (with_reducible first | exact HB.out | apply below_alloc | apply pw_below_drewN | apply below_drew1) | exact HB.out))) : w.heap.size ≤ gb102)); clear HB; have HB := n0_; have BK102 := n1_; have GW102 := n2_; have GE102 := n3_; clear n0_ n1_ n2_ n3_; clear hb hbox hg; have hcz18_0 : w17.cell? ⟨gb102, 0, none⟩ = some (.int .u64 0) := (blk_cell BK102.out 0).trans rfl; have hcz18_1 : w17.cell? ⟨gb102, 1, none⟩ = some (.string (⟨#[]⟩ : ByteArray)) := (blk_cell BK102.out 1).trans rfl; have hfz18_0 := blk_frozen BK102.out 0; have hfz18_1 := blk_frozen BK102.out 1))
        repeat (go_quiet (first | ((with_reducible refine gate_dst (N := 4) rfl ?_); refine box_event ?hg (N := 4) ?hd (cs := #[.int .u64 0, .string (⟨#[]⟩ : ByteArray)]) (t := 46) ?hr ?_; (case hd => rfl); (case hg => rfl); (case hr => first | (go_simp; done) | (go_simp; rfl)); intro gb102 hg w17 hbox hb; have n0_ := Aside0.mk (below_step (by repeat (first | (with_reducible first | exact HB.out | apply below_alloc | apply pw_below_drewN | apply below_drew1) | exact HB.out)) hb); have n1_ := Aside0.mk (hbox); have n2_ := Aside0.mk ((by rw [hg]; exact (below_size (by repeat (first | (with_reducible first | exact HB.out | apply below_alloc | apply pw_below_drewN | apply below_drew1) | exact HB.out))) : w.heap.size ≤ gb102)); have n3_ := Aside0.mk ((by rw [hg]; exact (below_size (by repeat (first | (with_reducible first | exact HB.out | apply below_alloc | apply pw_below_drewN | apply below_drew1) | exact HB.out))) : w.heap.size ≤ gb102)); clear HB; have HB := n0_; have BK102 := n1_; have GW102 := n2_; have GE102 := n3_; clear n0_ n1_ n2_ n3_; clear hb hbox hg; have hcz18_0 : w17.cell? ⟨gb102, 0, none⟩ = some (.int .u64 0) := (blk_cell BK102.out 0).trans rfl; have hcz18_1 : w17.cell? ⟨gb102, 1, none⟩ = some (.string (⟨#[]⟩ : ByteArray)) := (blk_cell BK102.out 1).trans rfl; have hfz18_0 := blk_frozen BK102.out 0; have hfz18_1 := blk_frozen BK102.out 1)); try go_wp2_with (first | ((with_reducible refine gate_dst (N := 4) rfl ?_); refine box_event ?hg (N := 4) ?hd (cs := #[.int .u64 0, .string (⟨#[]⟩ : ByteArray)]) (t := 46) ?hr ?_; (case hd => rfl); (case hg => rfl); (case hr => first | (go_simp; done) | (go_simp; rfl)); intro gb102 hg w17 hbox hb; have n0_ := Aside0.mk (below_step (by repeat (first | (with_reducible first | exact HB.out | apply below_alloc | apply pw_below_drewN | apply below_drew1) | exact HB.out)) hb); have n1_ := Aside0.mk (hbox); have n2_ := Aside0.mk ((by rw [hg]; exact (below_size (by repeat (first | (with_reducible first | exact HB.out | apply below_alloc | apply pw_below_drewN | apply below_drew1) | exact HB.out))) : w.heap.size ≤ gb102)); have n3_ := Aside0.mk ((by rw [hg]; exact (below_size (by repeat (first | (with_reducible first | exact HB.out | apply below_alloc | apply pw_below_drewN | apply below_drew1) | exact HB.out))) : w.heap.size ≤ gb102)); clear HB; have HB := n0_; have BK102 := n1_; have GW102 := n2_; have GE102 := n3_; clear n0_ n1_ n2_ n3_; clear hb hbox hg; have hcz18_0 : w17.cell? ⟨gb102, 0, none⟩ = some (.int .u64 0) := (blk_cell BK102.out 0).trans rfl; have hcz18_1 : w17.cell? ⟨gb102, 1, none⟩ = some (.string (⟨#[]⟩ : ByteArray)) := (blk_cell BK102.out 1).trans rfl; have hfz18_0 := blk_frozen BK102.out 0; have hfz18_1 := blk_frozen BK102.out 1)))
        go_roundg k1
        case measure => have := HK1.out; omega
        case rel => exact ⟨(wrap64 (x7_1 + 1)), (by first | rfl | (simp; done) | (simp [*]; done)), H', ⟨by have := HK1.out; omega⟩, ⟨by repeat (first | (with_reducible first | exact HB.out | apply below_alloc | apply pw_below_drewN | apply below_drew1 | refine below_set ?_ GE102.out) | exact HB.out)⟩⟩
     ·rw [if_neg c4] at H
      exact absurd H (by simp)
    ·rw [if_neg c3] at H
     exact absurd H (by simp)
   ·rw [if_neg c2] at H
    have c2b0 : decide (x7_1 < (l0.length : Int)) = false := decide_eq_false c2
    clear c2
    obtain rfl := Option.some.inj H
    go_wp2
    repeat (go_quiet (fail); try go_wp2)
    go_ret
    exact ⟨by first | rfl | (simp [errW_none, errW_some] <;> rfl) | (simp [*, errW_none, errW_some] <;> rfl), by repeat (first | (with_reducible first | exact HB.out | apply below_alloc | apply pw_below_drewN | apply below_drew1) | exact HB.out)⟩
/-! ### skip_Find: function 24 -/
mutual
def skip_Find.l0 : Nat → ByteArray → List (S46) → Int → List Int → List (S46) → Int → Int → Option (Int × (List (S48)) × Int)
 | 0, _, _, _, _, _, _, _ => none
 | k + 1, x0, x1, x2, x9, x22, x23, x24 => if x24 < x23 then (if 0 ≤ x24 then (if x24 < (x22.length : Int) then ((tower_Height.f x0 ((rd_T46 x22 x24).f0)).bind fun t110 => (if x24 < (x9.length : Int) then (skip_Find.l0 k x0 x1 x2 (x9.set (x24 : Int).toNat t110) x22 x23 (wrap64 (x24 + 1))) else (none))) else (none)) else (none)) else (skip_Find.l1 k x1 x2 x9 (-1) ([] : List (S48)) 7)
def skip_Find.l1 : Nat → List (S46) → Int → List Int → Int → List (S48) → Int → Option (Int × (List (S48)) × Int)
 | 0, _, _, _, _, _, _ => none
 | k + 1, x1, x2, x9, x12, x13, x14 => if x14 ≥ 0 then (skip_Find.l2 k x1 x2 x9 x12 x13 x14 (wrap64 (x12 + 1))) else (if x12 < 0 then (some (0, ([] : List (S48)), 3)) else (some (x12, x13, 0)))
def skip_Find.l2 : Nat → List (S46) → Int → List Int → Int → List (S48) → Int → Int → Option (Int × (List (S48)) × Int)
 | 0, _, _, _, _, _, _, _ => none
 | k + 1, x1, x2, x9, x12, x13, x14, x15 => if x15 < (x1.length : Int) then (if 0 ≤ x15 then (if x15 < (x9.length : Int) then (if (rd x9 x15) ≤ x14 then (skip_Find.l2 k x1 x2 x9 x12 x13 x14 (wrap64 (x15 + 1))) else (if x15 = (x1.length : Int) then (skip_Find.l1 k x1 x2 x9 x12 x13 (wrap64 (x14 - 1))) else (if ((rd_T46 x1 x15).f0) > x2 then (skip_Find.l1 k x1 x2 x9 x12 x13 (wrap64 (x14 - 1))) else (if x13.length < 8796093022208 then (skip_Find.l1 k x1 x2 x9 x15 (x13 ++ [(⟨x14, x15⟩ : S48)]) x14) else (none))))) else (none)) else (none)) else (if x15 = (x1.length : Int) then (skip_Find.l1 k x1 x2 x9 x12 x13 (wrap64 (x14 - 1))) else (if 0 ≤ x15 then (none) else (none)))
end
def skip_Find.f (k : Nat) (a0 : ByteArray) (l1 : List (S46)) (a2 : Int) : Option (Int × (List (S48)) × Int) := (skip_Right.f k l1).bind fun t104 => (if t104 = true then (if 0 ≤ (l1.length : Int) then (if ((l1.length : Int) : Int).toNat ≤ 35184372088832 then (skip_Find.l0 k a0 l1 a2 (List.replicate ((l1.length : Int) : Int).toNat 0) l1 (l1.length : Int) 0) else (none)) else (none)) else (some (0, ([] : List (S48)), 1)))
theorem skip_Find.mono_l : ∀ k, (∀ y0 y1 y2 y3 y4 y5 y6, LeO (skip_Find.l0 k y0 y1 y2 y3 y4 y5 y6) (skip_Find.l0 (k + 1) y0 y1 y2 y3 y4 y5 y6)) ∧ (∀ y0 y1 y2 y3 y4 y5, LeO (skip_Find.l1 k y0 y1 y2 y3 y4 y5) (skip_Find.l1 (k + 1) y0 y1 y2 y3 y4 y5)) ∧ (∀ y0 y1 y2 y3 y4 y5 y6, LeO (skip_Find.l2 k y0 y1 y2 y3 y4 y5 y6) (skip_Find.l2 (k + 1) y0 y1 y2 y3 y4 y5 y6))
 | 0 => ⟨fun _ _ _ _ _ _ _ r h => by simp [skip_Find.l0] at h, fun _ _ _ _ _ _ r h => by simp [skip_Find.l1] at h, fun _ _ _ _ _ _ _ r h => by simp [skip_Find.l2] at h⟩
 | k + 1 => by
  obtain ⟨ih0, ih1, ih2⟩ := skip_Find.mono_l k
  refine ⟨?_, ?_, ?_⟩
  ·intro y0 y1 y2 y3 y4 y5 y6
   unfold skip_Find.l0
   repeat' first
   | (with_reducible exact ih0 _ _ _ _ _ _ _)
   | (with_reducible exact ih1 _ _ _ _ _ _)
   | (with_reducible exact ih2 _ _ _ _ _ _ _)
   | (with_reducible exact skip_Right.mono _ _)
   | (with_reducible exact LeO.refl _)
   | (with_reducible exact LeO.none _)
   | (with_reducible refine LeO.ite ?_ ?_)
   | (with_reducible refine LeO.bind ?_ (fun _ => ?_))
   | exact ih0 _ _ _ _ _ _ _
   | exact ih1 _ _ _ _ _ _
   | exact ih2 _ _ _ _ _ _ _
   | exact skip_Right.mono _ _
   | exact LeO.none _
   | refine LeO.ite ?_ ?_
   | refine LeO.bind ?_ (fun _ => ?_)
  ·intro y0 y1 y2 y3 y4 y5
   unfold skip_Find.l1
   repeat' first
   | (with_reducible exact ih0 _ _ _ _ _ _ _)
   | (with_reducible exact ih1 _ _ _ _ _ _)
   | (with_reducible exact ih2 _ _ _ _ _ _ _)
   | (with_reducible exact skip_Right.mono _ _)
   | (with_reducible exact LeO.refl _)
   | (with_reducible exact LeO.none _)
   | (with_reducible refine LeO.ite ?_ ?_)
   | (with_reducible refine LeO.bind ?_ (fun _ => ?_))
   | exact ih0 _ _ _ _ _ _ _
   | exact ih1 _ _ _ _ _ _
   | exact ih2 _ _ _ _ _ _ _
   | exact skip_Right.mono _ _
   | exact LeO.none _
   | refine LeO.ite ?_ ?_
   | refine LeO.bind ?_ (fun _ => ?_)
  ·intro y0 y1 y2 y3 y4 y5 y6
   unfold skip_Find.l2
   repeat' first
   | (with_reducible exact ih0 _ _ _ _ _ _ _)
   | (with_reducible exact ih1 _ _ _ _ _ _)
   | (with_reducible exact ih2 _ _ _ _ _ _ _)
   | (with_reducible exact skip_Right.mono _ _)
   | (with_reducible exact LeO.refl _)
   | (with_reducible exact LeO.none _)
   | (with_reducible refine LeO.ite ?_ ?_)
   | (with_reducible refine LeO.bind ?_ (fun _ => ?_))
   | exact ih0 _ _ _ _ _ _ _
   | exact ih1 _ _ _ _ _ _
   | exact ih2 _ _ _ _ _ _ _
   | exact skip_Right.mono _ _
   | exact LeO.none _
   | refine LeO.ite ?_ ?_
   | refine LeO.bind ?_ (fun _ => ?_)
theorem skip_Find.mono : ∀ a0 a1 a2 k, LeO (skip_Find.f k a0 a1 a2) (skip_Find.f (k + 1) a0 a1 a2) := by
 intro a0 a1 a2 k
 obtain ⟨ih0, ih1, ih2⟩ := skip_Find.mono_l k
 unfold skip_Find.f
 repeat' first
   | (with_reducible exact ih0 _ _ _ _ _ _ _)
   | (with_reducible exact ih1 _ _ _ _ _ _)
   | (with_reducible exact ih2 _ _ _ _ _ _ _)
   | (with_reducible exact skip_Right.mono _ _)
   | (with_reducible exact LeO.refl _)
   | (with_reducible exact LeO.none _)
   | (with_reducible refine LeO.ite ?_ ?_)
   | (with_reducible refine LeO.bind ?_ (fun _ => ?_))
   | exact ih0 _ _ _ _ _ _ _
   | exact ih1 _ _ _ _ _ _
   | exact ih2 _ _ _ _ _ _ _
   | exact skip_Right.mono _ _
   | exact LeO.none _
   | refine LeO.ite ?_ ?_
   | refine LeO.bind ?_ (fun _ => ?_)
set_option maxHeartbeats 8000000 in
set_option maxRecDepth 100000 in
theorem skip_Find.calls (k : Nat) (a0 : ByteArray) (A1 : Option Addr) (c1 : Nat) (l1 : List (S46)) (a2 : Int) (r1 : Int) (r2 : List (S48)) (r3 : Int) (w : World) (hr1 : Kd.C k46 w A1 l1.length l1) (hc1 : l1.length ≤ c1) (h : skip_Find.f k a0 l1 a2 = some (r1, r2, r3)) (hT0 : Tower.TabW w) :
  Calls Tryd.prog 24 #[.string a0, .slice A1 l1.length c1, .int .u64 a2] w fun e w' => ∃ v1_ : Value, e = .returned (.tuple #[.int .i64 r1, v1_, .int .i64 r3]) ∧ Kd.R k48 48 w' w.heap.size (fun _ => True) v1_ r2 ∧ Below w.heap.size w w' := by
 have HT := Aside0.mk hT0
 clear hT0
 have hu46 := Tryd.underlying46
 have hu48 := Tryd.underlying48
 have HR1 := Aside0.mk hr1
 have HC1 := Aside0.mk hc1
 clear hr1 hc1
 have HB := Aside0.mk (Below.refl w.heap.size w)
 have H : ((skip_Right.f k l1).bind fun t104 => (if t104 = true then (if 0 ≤ (l1.length : Int) then (if ((l1.length : Int) : Int).toNat ≤ 35184372088832 then (skip_Find.l0 k a0 l1 a2 (List.replicate ((l1.length : Int) : Int).toNat 0) l1 (l1.length : Int) 0) else (none)) else (none)) else (some (0, ([] : List (S48)), 1)))) = some (r1, r2, r3) := h
 clear h
 replace H := Option.bind_eq_some_iff.mp H
 obtain ⟨t104, A40, H⟩ := H
 (try dsimp only at H)
 have A4 := Aside0.mk A40
 clear A40
 by_cases c5 : t104 = true
 ·subst c5
  have H1 : (if 0 ≤ (l1.length : Int) then (if ((l1.length : Int) : Int).toNat ≤ 35184372088832 then (skip_Find.l0 k a0 l1 a2 (List.replicate ((l1.length : Int) : Int).toNat 0) l1 (l1.length : Int) 0) else (none)) else (none)) = some (r1, r2, r3) := by rw [if_pos rfl] at H; exact H
  clear H
  have H := H1
  clear H1
  by_cases c6 : 0 ≤ (l1.length : Int)
  ·rw [if_pos c6] at H
   have c6b0 := eq_true c6
   have c6b1 : decide (0 ≤ (l1.length : Int)) = true := decide_eq_true c6
   clear c6
   by_cases c7 : ((l1.length : Int) : Int).toNat ≤ 35184372088832
   ·rw [if_pos c7] at H
    have c7b0 := eq_true c7
    have c7b1 : decide (((l1.length : Int) : Int).toNat ≤ 35184372088832) = true := decide_eq_true c7
    clear c7
    obtain ⟨y105, hy105⟩ : ∃ y_ : List Int, y_ = (List.replicate ((l1.length : Int) : Int).toNat 0) := ⟨_, rfl⟩
    replace H : (skip_Find.l0 k a0 l1 a2 y105 l1 (l1.length : Int) 0) = some (r1, r2, r3) := by first | (rw [hy105]; with_reducible exact H) | (have H2_ := (Option.bind_some _ _).symm.trans H; rw [hy105]; with_reducible exact H2_) | (have H2_ := (Option.bind_some _ _).symm.trans H; with_reducible exact H2_) | with_reducible exact H | (rw [hy105]; exact H) | exact H
    have Ny105 := Aside0.mk hy105
    clear hy105
    have H' := Aside0.mk H
    clear H
    go_enter Tryd.func24, Tryd.ntmps24
    go_wp2_with (first | ((with_reducible refine gate_callee (f := 38) rfl ?_); refine goesL_ (some 17) rfl rfl Tryd.func38 (by kernel_rfl) rfl #[.slice A1 l1.length c1] rfl (by (try simp only [List.map_toArray, List.map_cons, List.map_nil]); first | done | rfl | (simp only [List.length_drop, List.length_take]; rfl)) ?_; (with_reducible refine (skip_Right.calls k _ _ l1 true _ ?side1 ?side2 A4.out).mono ?_); (case side1 => repeat (first | exact HR1.out | (with_reducible refine Kd.C_alloc ?_ _) | (with_reducible refine Kd.C_drewN ?_ _) | (with_reducible refine Kd.C_drew ?_))); (case side2 => exact HC1.out); rintro e w8 ⟨rfl, hb⟩; refine ⟨_, rfl, ?_⟩; have n0_ := Aside0.mk (below_step (by repeat (first | (with_reducible first | exact HB.out | apply below_alloc | apply pw_below_drewN | apply below_drew1) | exact HB.out)) hb); clear HB; have HB := n0_; clear n0_; (try clear hb); (try clear hb2); (try clear hk); (try clear hi)) | ((with_reducible refine gate_dst (N := 21) rfl ?_); refine Kd.R_make (Kd.int .i64) _ 3 rfl (N := 21) rfl 27 _ _ rfl (l1.length : Int) rfl rfl Tryd.underlying27 (.int .i64 0) 8 info3 rfl (by decide) (by omega) 0 (ok := fun _ => True) (okp := fun _ => True) rfl (fun _ hk => hk) trivial (of_decide_eq_true (by first | (with_reducible assumption) | assumption)) (Nat.le_trans (Nat.mul_le_mul_right _ (of_decide_eq_true (by first | (with_reducible assumption) | assumption) : (l1.length : Int).toNat ≤ 35184372088832)) (by omega)) (Below.refl _ _) (Nat.le_refl _) ?_; intro v106 w9 ho10 hb hg_ hnew_; clear hg_ hnew_; (first | rw [← Ny105.out] at ho10 | (simp only [Int.reduceToNat] at ho10; rw [← Ny105.out] at ho10)); have n0_ := Aside0.mk (Kd.R_lower ho10 (below_size (by repeat (first | (with_reducible first | exact HB.out | apply below_alloc | apply pw_below_drewN | apply below_drew1) | exact HB.out)))); have n1_ := Aside0.mk (below_step (by repeat (first | (with_reducible first | exact HB.out | apply below_alloc | apply pw_below_drewN | apply below_drew1) | exact HB.out)) hb); clear HB; have HO107 := n0_; have HB := n1_; clear n0_ n1_; clear hb ho10))
    go_loopg [24] k (fun kq v24 w' => ∃ (x9_1 : List Int) (x24_1 : Int), v24 = .int .i64 x24_1 ∧ Aside0 (skip_Find.l0 kq a0 l1 a2 x9_1 l1 (l1.length : Int) x24_1 = some (r1, r2, r3)) ∧ Aside0 (kq ≤ k) ∧ Aside0 (Kd.R (Kd.int .i64) 3 w' w.heap.size (fun _ => True) v106 x9_1) ∧ Aside0 (Below w.heap.size w w'))
    case atStart => exact ⟨(y105), (0), (by first | rfl | (simp; done) | (simp [*]; done)), H', ⟨Nat.le_refl _⟩, ⟨by (with_reducible repeat (first | apply Kd.R_alloc | apply Kd.R_drewN | apply Kd.R_drew)); exact HO107.out⟩, ⟨by repeat (first | (with_reducible first | exact HB.out | apply below_alloc | apply pw_below_drewN | apply below_drew1) | exact HB.out)⟩⟩
    case round =>
     clear H'
     try clear c1
     try clear c2
     try clear p2
     try clear c3
     try clear c5
     try clear c6
     try clear c6b0
     try clear c6b1
     try clear c7
     try clear c7b0
     try clear c7b1
     obtain ⟨x9_1, x24_1, rfl, HA, HK1, HO_9, HB⟩ := hrel
     cases gk with
     | zero => exact absurd HA.out (by simp [skip_Find.l0])
     | succ k1 =>
      have H := HA.out
      clear HA
      simp only [skip_Find.l0] at H
      by_cases c11 : x24_1 < (l1.length : Int)
      ·rw [if_pos c11] at H
       have c11b0 : decide (x24_1 < (l1.length : Int)) = true := decide_eq_true c11
       clear c11
       by_cases c12 : 0 ≤ x24_1
       ·rw [if_pos c12] at H
        have c12b0 : decide (0 ≤ x24_1) = true := decide_eq_true c12
        clear c12
        by_cases c13 : x24_1 < (l1.length : Int)
        ·rw [if_pos c13] at H
         have c13b0 : decide (x24_1 < (l1.length : Int)) = true := decide_eq_true c13
         clear c13
         replace H := Option.bind_eq_some_iff.mp H
         obtain ⟨t110, A140, H⟩ := H
         (try dsimp only at H)
         have A14 := Aside0.mk A140
         clear A140
         by_cases c15 : x24_1 < (x9_1.length : Int)
         ·rw [if_pos c15] at H
          have c15b0 : decide (x24_1 < (x9_1.length : Int)) = true := decide_eq_true c15
          clear c15
          obtain ⟨y111, hy111⟩ : ∃ y_ : List Int, y_ = (x9_1.set (x24_1 : Int).toNat t110) := ⟨_, rfl⟩
          replace H : (skip_Find.l0 k1 a0 l1 a2 y111 l1 (l1.length : Int) (wrap64 (x24_1 + 1))) = some (r1, r2, r3) := by first | (rw [hy111]; with_reducible exact H) | (have H2_ := (Option.bind_some _ _).symm.trans H; rw [hy111]; with_reducible exact H2_) | (have H2_ := (Option.bind_some _ _).symm.trans H; with_reducible exact H2_) | with_reducible exact H | (rw [hy111]; exact H) | exact H
          have Ny111 := Aside0.mk hy111
          clear hy111
          have H' := Aside0.mk H
          clear H
          have p108 : 0 ≤ (x24_1 : Int) := of_decide_eq_true (by first | (with_reducible assumption) | assumption)
          have q108 : x24_1 < (l1.length : Int) := of_decide_eq_true (by first | (with_reducible assumption) | assumption)
          obtain ⟨ad108, e108, hx108_0, hx108_1⟩ := at_T46 HR1.out x24_1 p108 q108
          cases e108
          replace hx108_0 := (HB.out.cell (World.block_lt_of_cell? w _ hx108_0)).trans hx108_0
          replace hx108_1 := (HB.out.cell (World.block_lt_of_cell? w _ hx108_1)).trans hx108_1
          replace p108 := eq_true p108
          replace q108 := eq_true q108
          go_wp2_with (first | ((with_reducible refine gate_dst (N := 11) rfl ?_); refine box_event ?hg (N := 11) ?hd (cs := #[.int .u64 0, .string (⟨#[]⟩ : ByteArray)]) (t := 46) ?hr ?_; (case hd => rfl); (case hg => rfl); (case hr => first | (go_simp; done) | (go_simp; rfl)); intro gb109 hg w17 hbox hb; have n0_ := Aside0.mk (Kd.R_below (by (with_reducible repeat (first | apply Kd.R_alloc | apply Kd.R_drewN | apply Kd.R_drew)); exact HO_9.out) hb); have n1_ := Aside0.mk (below_step (by repeat (first | (with_reducible first | exact HB.out | apply below_alloc | apply pw_below_drewN | apply below_drew1) | exact HB.out)) hb); have n2_ := Aside0.mk (hbox); have n3_ := Aside0.mk ((by rw [hg]; exact (below_size (by repeat (first | (with_reducible first | exact HB.out | apply below_alloc | apply pw_below_drewN | apply below_drew1) | exact HB.out))) : w.heap.size ≤ gb109)); have n4_ := Aside0.mk ((by rw [hg]; exact (below_size (by repeat (first | (with_reducible first | exact HB.out | apply below_alloc | apply pw_below_drewN | apply below_drew1) | exact HB.out))) : w.heap.size ≤ gb109)); clear HO_9; clear HB; have HO_9 := n0_; have HB := n1_; have BK109 := n2_; have GW109 := n3_; have GE109 := n4_; clear n0_ n1_ n2_ n3_ n4_; clear hb hbox hg; have hcz18_0 : w17.cell? ⟨gb109, 0, none⟩ = some (.int .u64 0) := (blk_cell BK109.out 0).trans rfl; have hcz18_1 : w17.cell? ⟨gb109, 1, none⟩ = some (.string (⟨#[]⟩ : ByteArray)) := (blk_cell BK109.out 1).trans rfl; have hfz18_0 := blk_frozen BK109.out 0; have hfz18_1 := blk_frozen BK109.out 1) | ((with_reducible refine gate_callee (f := 17) rfl ?_); refine goesL_ (some 34) rfl rfl Tryd.func17 (by kernel_rfl) rfl #[.string a0, .int .u64 ((rd_T46 l1 x24_1).f0)] rfl (by (try simp only [List.map_toArray, List.map_cons, List.map_nil]); first | done | rfl | (simp only [List.length_drop, List.length_take]; rfl)) ?_; (with_reducible refine (tower_Height.calls a0 ((rd_T46 l1 x24_1).f0) t110 _ A14.out (Tower.tab_below HT.out (by repeat (first | (with_reducible first | exact HB.out | apply below_alloc | apply pw_below_drewN | apply below_drew1 | refine below_set ?_ GE109.out) | exact HB.out)) (Nat.le_refl _))).mono ?_); rintro e w19 ⟨rfl, hb⟩; refine ⟨_, rfl, ?_⟩; have n0_ := Aside0.mk (Kd.R_below (by (with_reducible repeat (first | apply Kd.R_alloc | apply Kd.R_drewN | apply Kd.R_drew)); exact (Kd.R_mono (Kd.R_far (p := ⟨gb109, 1, none⟩) (Kd.R_far (p := ⟨gb109, 0, none⟩) (Kd.R_types HO_9.out BK109.out (by decide)) (fun _ hk => hk.2) (.int .u64 ((rd_T46 l1 x24_1).f0))) (fun _ hk => hk.2) (.string ((rd_T46 l1 x24_1).f1))) (fun _ h_ => h_.1))) hb); have n1_ := Aside0.mk (blk_below (g := gb109) (o := .cells #[.int .u64 ((rd_T46 l1 x24_1).f0), .string ((rd_T46 l1 x24_1).f1)] 46 (0, 0)) (by (with_reducible repeat (first | refine blk_drewN ?_ _ | refine blk_drew ?_ | refine blk_alloc ?_ _)); refine blk_put (cs := #[.int .u64 ((rd_T46 l1 x24_1).f0), .string (⟨#[]⟩ : ByteArray)]) ?_ 1 _ rfl; (with_reducible repeat (first | refine blk_drewN ?_ _ | refine blk_drew ?_ | refine blk_alloc ?_ _)); refine blk_put (cs := #[.int .u64 0, .string (⟨#[]⟩ : ByteArray)]) ?_ 0 _ rfl; (with_reducible repeat (first | refine blk_drewN ?_ _ | refine blk_drew ?_ | refine blk_alloc ?_ _)); exact BK109.out) hb); have n2_ := Aside0.mk (below_step (by repeat (first | (with_reducible first | exact HB.out | apply below_alloc | apply pw_below_drewN | apply below_drew1 | refine below_set ?_ GE109.out) | exact HB.out)) hb); clear HO_9; clear BK109; clear HB; have HO_9 := n0_; have BK109 := n1_; have HB := n2_; clear n0_ n1_ n2_; (try clear hb); (try clear hb2); (try clear hk); (try clear hi); have p16 : 0 ≤ (x24_1 : Int) := of_decide_eq_true (by first | (with_reducible assumption) | assumption); have q16 : (x24_1 : Int) < ((x9_1.length : Int) : Int) := of_decide_eq_true (by first | (with_reducible assumption) | assumption); obtain ⟨go16, co16, eo16, gb16, gl16, cl16, HG16⟩ := Kd.R_form HO_9.out (by omega); (first | cases eo16 | (injection eo16 with ea_ en_ ec_; (first | subst ea_ | (injection ea_ with ea_; subst ea_)); subst ec_; clear en_)); have GB16 := Aside0.mk gb16; have GG16 := Aside0.mk HG16; clear gb16 gl16 HG16; obtain ⟨hx16_0, hf16_0⟩ := Kd.R_celln 0 HO_9.out (x24_1 : Int) p16 q16; replace p16 := eq_true p16; replace q16 := eq_true q16; obtain ⟨hy20_, hz20_⟩ := Kd.R_celln 0 HO_9.out (x24_1 : Int) (of_decide_eq_true (by first | (with_reducible assumption) | assumption)) (of_decide_eq_true (by first | (with_reducible assumption) | assumption)); have HP20 := Kd.R_putg HO_9.out (x24_1 : Int) t110) | ((with_reducible refine gate_store (t := 3) (p := 35) rfl ?_); refine store_event (t := 3) (p := 35) (v := ?vo_w21) (w1 := (w19.setCell ⟨go16, (x24_1 : Int).toNat, none⟩ (.int .i64 t110))) ?hg ?ho ?hn ?hr ?_; (case ho => rfl); (case hg => rfl); (case hn => rfl); (case hr => first | (go_simp; done) | (go_simp; rfl)); intro w21 hw; have hg : w19.grownBy w21 (some go16) := (by rw [hw]; exact HP20.2); have hp_ : Kd.R (Kd.int .i64) 3 w21 w.heap.size (fun _ => True) (.slice (some ⟨go16, 0, none⟩) x9_1.length co16) y111 := (by rw [hw, Ny111.out]; exact HP20.1); clear HP20; have n0_ := Aside0.mk (hp_); have n1_ := Aside0.mk (blk_grown (g := gb109) (o := .cells #[.int .u64 ((rd_T46 l1 x24_1).f0), .string ((rd_T46 l1 x24_1).f1)] 46 (0, 0)) (by (with_reducible repeat (first | refine blk_drewN ?_ _ | refine blk_drew ?_ | refine blk_alloc ?_ _)); exact BK109.out) hg (Kd.R_ne HO_9.out BK109.out (by decide))); have n2_ := Aside0.mk ((by rw [hw]; exact below_set (HB.out) GB16.out : Below w.heap.size w w21)); clear HO_9; clear BK109; clear HB; have HO_9 := n0_; have BK109 := n1_; have HB := n2_; clear n0_ n1_ n2_; clear hg hw hp_))
          go_roundg k1
          case measure => have := HK1.out; omega
          case rel => exact ⟨(y111), (wrap64 (x24_1 + 1)), (by first | rfl | (simp; done) | (simp [*]; done)), H', ⟨by have := HK1.out; omega⟩, ⟨by (with_reducible repeat (first | apply Kd.R_alloc | apply Kd.R_drewN | apply Kd.R_drew)); exact HO_9.out⟩, ⟨by repeat (first | (with_reducible first | exact HB.out | apply below_alloc | apply pw_below_drewN | apply below_drew1 | refine below_set ?_ GE109.out) | exact HB.out)⟩⟩
         ·rw [if_neg c15] at H
          exact absurd H (by simp)
        ·rw [if_neg c13] at H
         exact absurd H (by simp)
       ·rw [if_neg c12] at H
        exact absurd H (by simp)
      ·rw [if_neg c11] at H
       have c11b0 : decide (x24_1 < (l1.length : Int)) = false := decide_eq_false c11
       clear c11
       have H' := Aside0.mk H
       clear H
       go_wp2
       go_loopg [12, 13, 14] k1 (fun kq v12 v13 v14 w' => ∃ (x12_2 : Int) (x13_2 : List (S48)) (x14_2 : Int), v12 = .int .i64 x12_2 ∧ v14 = .int .i64 x14_2 ∧ Aside0 (skip_Find.l1 kq l1 a2 x9_1 x12_2 x13_2 x14_2 = some (r1, r2, r3)) ∧ Aside0 (kq ≤ k1) ∧ Aside0 (Kd.R (Kd.int .i64) 3 w' w.heap.size (fun _ => True) v106 x9_1) ∧ Aside0 (Kd.R k48 48 w' w.heap.size (fun _ => True) v13 x13_2) ∧ Aside0 (Below w.heap.size w w'))
       case atStart => exact ⟨((-1)), (([] : List (S48))), (7), (by first | rfl | (simp; done) | (simp [*]; done)), (by first | rfl | (simp; done) | (simp [*]; done)), H', ⟨Nat.le_refl _⟩, ⟨by (with_reducible repeat (first | apply Kd.R_alloc | apply Kd.R_drewN | apply Kd.R_drew)); exact HO_9.out⟩, ⟨by first | exact Kd.R_nil _ _ _ _ _ | exact Kd.N_nil _ _ _ _ _ | exact Kd.V_nil _ _ _ _ _ | exact Kd.Q_nil _ _ _ _ _ | exact Kd.S_nil _ _ _ _ _⟩, ⟨by repeat (first | (with_reducible first | exact HB.out | apply below_alloc | apply pw_below_drewN | apply below_drew1) | exact HB.out)⟩⟩
       case round =>
        clear H'
        try clear c1
        try clear p1
        try clear q1
        try clear hx1
        try clear c2
        try clear p2
        try clear c3
        try clear c5
        try clear c6
        try clear c6b0
        try clear c6b1
        try clear p6
        try clear c7
        try clear c7b0
        try clear c7b1
        try clear p10
        try clear q10
        try clear hx10
        try clear c11
        try clear c11b0
        try clear c12
        try clear c12b0
        try clear c13
        try clear c13b0
        try clear c15
        try clear c15b0
        try clear p16
        try clear q16
        try clear hx16
        try clear hf16
        try clear c17
        try clear hcz18_0
        try clear hcz18_1
        try clear hfz18_0
        try clear hfz18_1
        try clear hx108_0
        try clear hx108_1
        try clear hx16_0
        try clear p108
        try clear p16
        try clear p2
        try clear q108
        try clear q16
        obtain ⟨x12_2, x13_2, x14_2, rfl, rfl, HA, HK2, HO_9, HO_13, HB⟩ := hrel
        cases gk with
        | zero => exact absurd HA.out (by simp [skip_Find.l1])
        | succ k2 =>
         have H := HA.out
         clear HA
         simp only [skip_Find.l1] at H
         by_cases c22 : x14_2 ≥ 0
         ·rw [if_pos c22] at H
          have c22b0 : decide (0 ≤ x14_2) = true := decide_eq_true c22
          clear c22
          have H' := Aside0.mk H
          clear H
          go_wp2
          go_loopg [15] k2 (fun kq v15 w' => ∃ (x15_3 : Int), v15 = .int .i64 x15_3 ∧ Aside0 (skip_Find.l2 kq l1 a2 x9_1 x12_2 x13_2 x14_2 x15_3 = some (r1, r2, r3)) ∧ Aside0 (kq ≤ k2) ∧ Aside0 (Kd.R (Kd.int .i64) 3 w' w.heap.size (fun _ => True) v106 x9_1) ∧ Aside0 (Kd.R k48 48 w' w.heap.size (fun _ => True) u13 x13_2) ∧ Aside0 (Below w.heap.size w w'))
          case atStart => exact ⟨(wrap64 (x12_2 + 1)), (by first | rfl | (simp; done) | (simp [*]; done)), H', ⟨Nat.le_refl _⟩, ⟨by (with_reducible repeat (first | apply Kd.R_alloc | apply Kd.R_drewN | apply Kd.R_drew)); exact HO_9.out⟩, ⟨by (with_reducible repeat (first | apply Kd.R_alloc | apply Kd.R_drewN | apply Kd.R_drew)); exact HO_13.out⟩, ⟨by repeat (first | (with_reducible first | exact HB.out | apply below_alloc | apply pw_below_drewN | apply below_drew1) | exact HB.out)⟩⟩
          case round =>
           clear H'
           try clear c1
           try clear p1
           try clear q1
           try clear hx1
           try clear c2
           try clear p2
           try clear c3
           try clear c5
           try clear c6
           try clear c6b0
           try clear c6b1
           try clear p6
           try clear c7
           try clear c7b0
           try clear c7b1
           try clear p10
           try clear q10
           try clear hx10
           try clear c11
           try clear c11b0
           try clear c12
           try clear c12b0
           try clear c13
           try clear c13b0
           try clear c15
           try clear c15b0
           try clear p16
           try clear q16
           try clear hx16
           try clear hf16
           try clear c17
           try clear c22
           try clear c22b0
           try clear hcz18_0
           try clear hcz18_1
           try clear hfz18_0
           try clear hfz18_1
           try clear hx108_0
           try clear hx108_1
           try clear hx16_0
           try clear p1
           try clear p10
           try clear p108
           try clear p16
           try clear p2
           try clear p6
           try clear q1
           try clear q10
           try clear q108
           try clear q16
           obtain ⟨x15_3, rfl, HA, HK3, HO_9, HO_13, HB⟩ := hrel
           cases gk with
           | zero => exact absurd HA.out (by simp [skip_Find.l2])
           | succ k3 =>
            have H := HA.out
            clear HA
            simp only [skip_Find.l2] at H
            by_cases c23 : x15_3 < (l1.length : Int)
            ·rw [if_pos c23] at H
             have c23b0 : decide (x15_3 < (l1.length : Int)) = true := decide_eq_true c23
             clear c23
             by_cases c24 : 0 ≤ x15_3
             ·rw [if_pos c24] at H
              have c24b0 : decide (0 ≤ x15_3) = true := decide_eq_true c24
              clear c24
              by_cases c25 : x15_3 < (x9_1.length : Int)
              ·rw [if_pos c25] at H
               have c25b0 : decide (x15_3 < (x9_1.length : Int)) = true := decide_eq_true c25
               clear c25
               by_cases c26 : (rd x9_1 x15_3) ≤ x14_2
               ·rw [if_pos c26] at H
                have c26b0 : decide ((rd x9_1 x15_3) ≤ x14_2) = true := decide_eq_true c26
                clear c26
                have H' := Aside0.mk H
                clear H
                obtain ⟨Ao27, co27, eo27⟩ := Kd.R_slice HO_9.out
                subst eo27
                have p112 : 0 ≤ (x15_3 : Int) := of_decide_eq_true (by first | (with_reducible assumption) | assumption)
                have q112 : x15_3 < (x9_1.length : Int) := of_decide_eq_true (by first | (with_reducible assumption) | assumption)
                obtain ⟨ad112, e112, hx112_0⟩ := Kd.at_int (Kd.R_reads' HO_9.out).2.2 x15_3 p112 q112
                cases e112
                replace p112 := eq_true p112
                replace q112 := eq_true q112
                go_wp2
                go_roundg k3
                case measure => have := HK1.out; have := HK2.out; have := HK3.out; omega
                case rel => exact ⟨(wrap64 (x15_3 + 1)), (by first | rfl | (simp; done) | (simp [*]; done)), H', ⟨by have := HK1.out; have := HK2.out; have := HK3.out; omega⟩, ⟨by (with_reducible repeat (first | apply Kd.R_alloc | apply Kd.R_drewN | apply Kd.R_drew)); exact HO_9.out⟩, ⟨by (with_reducible repeat (first | apply Kd.R_alloc | apply Kd.R_drewN | apply Kd.R_drew)); exact HO_13.out⟩, ⟨by repeat (first | (with_reducible first | exact HB.out | apply below_alloc | apply pw_below_drewN | apply below_drew1) | exact HB.out)⟩⟩
               ·rw [if_neg c26] at H
                have c26b0 : decide ((rd x9_1 x15_3) ≤ x14_2) = false := decide_eq_false c26
                clear c26
                by_cases c28 : x15_3 = (l1.length : Int)
                ·rw [if_pos c28] at H
                 have c28b0 : (x15_3 == (l1.length : Int)) = true := beq_iff_eq.mpr c28
                 have c28b1 : (x15_3 != (l1.length : Int)) = false := bne_eq_false_iff_eq.mpr c28
                 clear c28
                 have H' := Aside0.mk H
                 clear H
                 obtain ⟨Ao29, co29, eo29⟩ := Kd.R_slice HO_9.out
                 subst eo29
                 have p112 : 0 ≤ (x15_3 : Int) := of_decide_eq_true (by first | (with_reducible assumption) | assumption)
                 have q112 : x15_3 < (x9_1.length : Int) := of_decide_eq_true (by first | (with_reducible assumption) | assumption)
                 obtain ⟨ad112, e112, hx112_0⟩ := Kd.at_int (Kd.R_reads' HO_9.out).2.2 x15_3 p112 q112
                 cases e112
                 replace p112 := eq_true p112
                 replace q112 := eq_true q112
                 go_wp2
                 go_roundg k3
                 case measure => have := HK1.out; have := HK2.out; have := HK3.out; omega
                 case rel => exact ⟨(x12_2), (x13_2), (wrap64 (x14_2 - 1)), (by first | rfl | (simp; done) | (simp [*]; done)), (by first | rfl | (simp; done) | (simp [*]; done)), H', ⟨by have := HK1.out; have := HK2.out; have := HK3.out; omega⟩, ⟨by (with_reducible repeat (first | apply Kd.R_alloc | apply Kd.R_drewN | apply Kd.R_drew)); exact HO_9.out⟩, ⟨by (with_reducible repeat (first | apply Kd.R_alloc | apply Kd.R_drewN | apply Kd.R_drew)); exact HO_13.out⟩, ⟨by repeat (first | (with_reducible first | exact HB.out | apply below_alloc | apply pw_below_drewN | apply below_drew1) | exact HB.out)⟩⟩
                ·rw [if_neg c28] at H
                 have c28b0 : (x15_3 == (l1.length : Int)) = false := beq_eq_false_iff_ne.mpr c28
                 have c28b1 : (x15_3 != (l1.length : Int)) = true := bne_iff_ne.mpr c28
                 by_cases c30 : ((rd_T46 l1 x15_3).f0) > a2
                 ·rw [if_pos c30] at H
                  have c30b0 : decide (a2 < ((rd_T46 l1 x15_3).f0)) = true := decide_eq_true c30
                  clear c30
                  have H' := Aside0.mk H
                  clear H
                  obtain ⟨Ao31, co31, eo31⟩ := Kd.R_slice HO_9.out
                  subst eo31
                  have p112 : 0 ≤ (x15_3 : Int) := of_decide_eq_true (by first | (with_reducible assumption) | assumption)
                  have q112 : x15_3 < (x9_1.length : Int) := of_decide_eq_true (by first | (with_reducible assumption) | assumption)
                  obtain ⟨ad112, e112, hx112_0⟩ := Kd.at_int (Kd.R_reads' HO_9.out).2.2 x15_3 p112 q112
                  cases e112
                  replace p112 := eq_true p112
                  replace q112 := eq_true q112
                  have p113 : 0 ≤ (x15_3 : Int) := of_decide_eq_true (by first | (with_reducible assumption) | assumption)
                  have q113 : x15_3 < (l1.length : Int) := of_decide_eq_true (by first | (with_reducible assumption) | assumption)
                  obtain ⟨ad113, e113, hx113_0, hx113_1⟩ := at_T46 HR1.out x15_3 p113 q113
                  cases e113
                  replace hx113_0 := (HB.out.cell (World.block_lt_of_cell? w _ hx113_0)).trans hx113_0
                  replace hx113_1 := (HB.out.cell (World.block_lt_of_cell? w _ hx113_1)).trans hx113_1
                  replace p113 := eq_true p113
                  replace q113 := eq_true q113
                  go_wp2
                  go_roundg k3
                  case measure => have := HK1.out; have := HK2.out; have := HK3.out; omega
                  case rel => exact ⟨(x12_2), (x13_2), (wrap64 (x14_2 - 1)), (by first | rfl | (simp; done) | (simp [*]; done)), (by first | rfl | (simp; done) | (simp [*]; done)), H', ⟨by have := HK1.out; have := HK2.out; have := HK3.out; omega⟩, ⟨by (with_reducible repeat (first | apply Kd.R_alloc | apply Kd.R_drewN | apply Kd.R_drew)); exact HO_9.out⟩, ⟨by (with_reducible repeat (first | apply Kd.R_alloc | apply Kd.R_drewN | apply Kd.R_drew)); exact HO_13.out⟩, ⟨by repeat (first | (with_reducible first | exact HB.out | apply below_alloc | apply pw_below_drewN | apply below_drew1) | exact HB.out)⟩⟩
                 ·rw [if_neg c30] at H
                  have c30b0 : decide (a2 < ((rd_T46 l1 x15_3).f0)) = false := decide_eq_false c30
                  clear c30
                  by_cases c32 : x13_2.length < 8796093022208
                  ·rw [if_pos c32] at H
                   have LMc32 := Aside0.mk c32
                   clear c32
                   obtain ⟨y114, hy114⟩ : ∃ y_ : List (S48), y_ = (x13_2 ++ [(⟨x14_2, x15_3⟩ : S48)]) := ⟨_, rfl⟩
                   replace H : (skip_Find.l1 k3 l1 a2 x9_1 x15_3 y114 x14_2) = some (r1, r2, r3) := by first | (rw [hy114]; with_reducible exact H) | (have H2_ := (Option.bind_some _ _).symm.trans H; rw [hy114]; with_reducible exact H2_) | (have H2_ := (Option.bind_some _ _).symm.trans H; with_reducible exact H2_) | with_reducible exact H | (rw [hy114]; exact H) | exact H
                   have Ny114 := Aside0.mk hy114
                   clear hy114
                   have H' := Aside0.mk H
                   clear H
                   obtain ⟨Ao33, co33, eo33⟩ := Kd.R_slice HO_9.out
                   subst eo33
                   have p112 : 0 ≤ (x15_3 : Int) := of_decide_eq_true (by first | (with_reducible assumption) | assumption)
                   have q112 : x15_3 < (x9_1.length : Int) := of_decide_eq_true (by first | (with_reducible assumption) | assumption)
                   obtain ⟨ad112, e112, hx112_0⟩ := Kd.at_int (Kd.R_reads' HO_9.out).2.2 x15_3 p112 q112
                   cases e112
                   replace p112 := eq_true p112
                   replace q112 := eq_true q112
                   have p113 : 0 ≤ (x15_3 : Int) := of_decide_eq_true (by first | (with_reducible assumption) | assumption)
                   have q113 : x15_3 < (l1.length : Int) := of_decide_eq_true (by first | (with_reducible assumption) | assumption)
                   obtain ⟨ad113, e113, hx113_0, hx113_1⟩ := at_T46 HR1.out x15_3 p113 q113
                   cases e113
                   replace hx113_0 := (HB.out.cell (World.block_lt_of_cell? w _ hx113_0)).trans hx113_0
                   replace hx113_1 := (HB.out.cell (World.block_lt_of_cell? w _ hx113_1)).trans hx113_1
                   replace p113 := eq_true p113
                   replace q113 := eq_true q113
                   go_wp2_with (first | ((with_reducible refine gate_builtin (b := .append) (xs := #[.tmp 71, .tmp 75]) rfl ?_); at_builtin; refine Kd.R_append k48 (w0 := w) w.heap.size rfl (.tmp 71) (.tmp 75) 37 48 (.agg #[(.int .i64 0), (.int .i64 0)]) 16 rfl Tryd.underlying37 info48 rfl (by decide) (by omega) u13 x13_2 (⟨x14_2, x15_3⟩ : S48) [.int .i64 x14_2, .int .i64 x15_3] (fun _ => True) (fun _ => False) rfl rfl ?aP (fun _ hk => hk.elim) ?aF ?aO ?aB ?aS ?aL ?_; (case aP => exact k48_mkM _ _ _ (⟨x14_2, x15_3⟩ : S48)); (case aB => exact (by repeat (first | (with_reducible first | exact HB.out | apply below_alloc | apply pw_below_drewN | apply below_drew1) | exact HB.out))); (case aF => exact (fun _ _ => trivial)); (case aO => exact (by (with_reducible repeat (first | apply Kd.R_alloc | apply Kd.R_drewN | apply Kd.R_drew)); exact HO_13.out)); (case aS => exact (below_size (by repeat (first | (with_reducible first | exact HB.out | apply below_alloc | apply pw_below_drewN | apply below_drew1) | exact HB.out)))); (case aL => have := LMc32.out; omega); intro v115 w34 ho hb hg hat; rw [← Ny114.out] at ho; have n0_ := Aside0.mk (Kd.R_over' (by (with_reducible repeat (first | apply Kd.R_alloc | apply Kd.R_drewN | apply Kd.R_drew)); exact HO_9.out) (Kd.R_typed (by (with_reducible repeat (first | apply Kd.R_alloc | apply Kd.R_drewN | apply Kd.R_drew)); exact HO_13.out)) (by decide) hg); have n1_ := Aside0.mk (hb); have n2_ := Aside0.mk (ho); clear HO_9; clear HB; clear HO_13; have HO_9 := n0_; have HB := n1_; have HO116 := n2_; clear n0_ n1_ n2_; clear ho hb hg hat))
                   go_roundg k3
                   case measure => have := HK1.out; have := HK2.out; have := HK3.out; omega
                   case rel => exact ⟨(x15_3), (y114), (x14_2), (by first | rfl | (simp; done) | (simp [*]; done)), (by first | rfl | (simp; done) | (simp [*]; done)), H', ⟨by have := HK1.out; have := HK2.out; have := HK3.out; omega⟩, ⟨by (with_reducible repeat (first | apply Kd.R_alloc | apply Kd.R_drewN | apply Kd.R_drew)); exact HO_9.out⟩, ⟨by (with_reducible repeat (first | apply Kd.R_alloc | apply Kd.R_drewN | apply Kd.R_drew)); exact HO116.out⟩, ⟨by repeat (first | (with_reducible first | exact HB.out | apply below_alloc | apply pw_below_drewN | apply below_drew1) | exact HB.out)⟩⟩
                  ·rw [if_neg c32] at H
                   exact absurd H (by simp)
              ·rw [if_neg c25] at H
               exact absurd H (by simp)
             ·rw [if_neg c24] at H
              exact absurd H (by simp)
            ·rw [if_neg c23] at H
             have c23b0 : decide (x15_3 < (l1.length : Int)) = false := decide_eq_false c23
             clear c23
             by_cases c35 : x15_3 = (l1.length : Int)
             ·rw [if_pos c35] at H
              have c35b0 : (x15_3 == (l1.length : Int)) = true := beq_iff_eq.mpr c35
              have c35b1 : (x15_3 != (l1.length : Int)) = false := bne_eq_false_iff_eq.mpr c35
              clear c35
              have H' := Aside0.mk H
              clear H
              go_wp2
              go_roundg k3
              case measure => have := HK1.out; have := HK2.out; have := HK3.out; omega
              case rel => exact ⟨(x12_2), (x13_2), (wrap64 (x14_2 - 1)), (by first | rfl | (simp; done) | (simp [*]; done)), (by first | rfl | (simp; done) | (simp [*]; done)), H', ⟨by have := HK1.out; have := HK2.out; have := HK3.out; omega⟩, ⟨by (with_reducible repeat (first | apply Kd.R_alloc | apply Kd.R_drewN | apply Kd.R_drew)); exact HO_9.out⟩, ⟨by (with_reducible repeat (first | apply Kd.R_alloc | apply Kd.R_drewN | apply Kd.R_drew)); exact HO_13.out⟩, ⟨by repeat (first | (with_reducible first | exact HB.out | apply below_alloc | apply pw_below_drewN | apply below_drew1) | exact HB.out)⟩⟩
             ·rw [if_neg c35] at H
              have c35b0 : (x15_3 == (l1.length : Int)) = false := beq_eq_false_iff_ne.mpr c35
              have c35b1 : (x15_3 != (l1.length : Int)) = true := bne_iff_ne.mpr c35
              by_cases c36 : 0 ≤ x15_3
              ·rw [if_pos c36] at H
               exact absurd H (by simp)
              ·rw [if_neg c36] at H
               exact absurd H (by simp)
         ·rw [if_neg c22] at H
          have c22b0 : decide (0 ≤ x14_2) = false := decide_eq_false c22
          clear c22
          by_cases c37 : x12_2 < 0
          ·rw [if_pos c37] at H
           have c37b0 : decide (x12_2 < 0) = true := decide_eq_true c37
           clear c37
           simp only [Option.some.injEq, Prod.mk.injEq] at H
           obtain ⟨rfl, rfl, rfl⟩ := H
           go_wp2
           go_ret3
           exact ⟨_, by first | rfl | (simp [errW_none, errW_some] <;> rfl) | (simp [*, errW_none, errW_some] <;> rfl), by first | exact Kd.R_nil _ _ _ _ _ | exact Kd.N_nil _ _ _ _ _ | exact Kd.V_nil _ _ _ _ _ | exact Kd.Q_nil _ _ _ _ _ | exact Kd.S_nil _ _ _ _ _, by repeat (first | (with_reducible first | exact HB.out | apply below_alloc | apply pw_below_drewN | apply below_drew1) | exact HB.out)⟩
          ·rw [if_neg c37] at H
           have c37b0 : decide (x12_2 < 0) = false := decide_eq_false c37
           clear c37
           simp only [Option.some.injEq, Prod.mk.injEq] at H
           obtain ⟨rfl, rfl, rfl⟩ := H
           go_wp2
           go_ret3
           exact ⟨_, by first | rfl | (simp [errW_none, errW_some] <;> rfl) | (simp [*, errW_none, errW_some] <;> rfl), by (with_reducible repeat (first | apply Kd.R_alloc | apply Kd.R_drewN | apply Kd.R_drew)); exact HO_13.out, by repeat (first | (with_reducible first | exact HB.out | apply below_alloc | apply pw_below_drewN | apply below_drew1) | exact HB.out)⟩
   ·rw [if_neg c7] at H
    exact absurd H (by simp)
  ·rw [if_neg c6] at H
   exact absurd H (by simp)
 ·replace c5 := Bool.eq_false_iff.mpr c5
  subst c5
  have H1 : (some (0, ([] : List (S48)), 1)) = some (r1, r2, r3) := by rw [if_neg (show ¬ (false = true) by decide)] at H; exact H
  clear H
  have H := H1
  clear H1
  simp only [Option.some.injEq, Prod.mk.injEq] at H
  obtain ⟨rfl, rfl, rfl⟩ := H
  go_enter Tryd.func24, Tryd.ntmps24
  go_wp2_with (first | ((with_reducible refine gate_callee (f := 38) rfl ?_); refine goesL_ (some 17) rfl rfl Tryd.func38 (by kernel_rfl) rfl #[.slice A1 l1.length c1] rfl (by (try simp only [List.map_toArray, List.map_cons, List.map_nil]); first | done | rfl | (simp only [List.length_drop, List.length_take]; rfl)) ?_; (with_reducible refine (skip_Right.calls k _ _ l1 false _ ?side1 ?side2 A4.out).mono ?_); (case side1 => repeat (first | exact HR1.out | (with_reducible refine Kd.C_alloc ?_ _) | (with_reducible refine Kd.C_drewN ?_ _) | (with_reducible refine Kd.C_drew ?_))); (case side2 => exact HC1.out); rintro e w38 ⟨rfl, hb⟩; refine ⟨_, rfl, ?_⟩; have n0_ := Aside0.mk (below_step (by repeat (first | (with_reducible first | exact HB.out | apply below_alloc | apply pw_below_drewN | apply below_drew1) | exact HB.out)) hb); clear HB; have HB := n0_; clear n0_; (try clear hb); (try clear hb2); (try clear hk); (try clear hi)))
  go_ret3
  exact ⟨_, by first | rfl | (simp [errW_none, errW_some] <;> rfl) | (simp [*, errW_none, errW_some] <;> rfl), by first | exact Kd.R_nil _ _ _ _ _ | exact Kd.N_nil _ _ _ _ _ | exact Kd.V_nil _ _ _ _ _ | exact Kd.Q_nil _ _ _ _ _ | exact Kd.S_nil _ _ _ _ _, by repeat (first | (with_reducible first | exact HB.out | apply below_alloc | apply pw_below_drewN | apply below_drew1) | exact HB.out)⟩
end Go.Proofs.YtolbhliepkcihaaDoor.QSF
end
section
namespace Go.Proofs.YtolbhliepkcihaaDoor.QSF
open Go.RowKit Go.Proofs.YtolbhliepkcihaaDoor.Kinds Go.Proofs.YtolbhliepkcihaaDoorW.PrintWords Go.Proofs.YtolbhliepkcihaaDoorW.PrintLast Go.Proofs.YtolbhliepkcihaaDoorW.PrintMore
attribute [local go_sem] max2_int min2_int max_two min_two max_three min_three max_four min_four   -- for this text's walks alone
set_option linter.unusedVariables false
set_option linter.unusedSimpArgs false
theorem eqA48 (d : Nat) (w : World) (x0 y0 : Int) (x1 y1 : Int) :
  (Op.equalIn (d + 2) 48 (.agg #[.int .i64 x0, .int .i64 x1]) (.agg #[.int .i64 y0, .int .i64 y1])).run Tryd.prog w = .ok (x0 == y0 && (x1 == y1)) w := by
 refine eqA_of Tryd.underlying48 (by kernel_rfl) ?_
 refine eqf_cons (by rfl) (by go_simp; rfl) (by go_simp; rfl) (by go_simp) ?_
 exact eqf_last (by rfl) (by go_simp; rfl) (by go_simp; rfl) (by go_simp)
end Go.Proofs.YtolbhliepkcihaaDoor.QSF
end
section
namespace Go.Proofs.YtolbhliepkcihaaDoor.QSF
open Go.RowKit Go.Proofs.YtolbhliepkcihaaDoor.Kinds Go.Proofs.YtolbhliepkcihaaDoorW.PrintWords Go.Proofs.YtolbhliepkcihaaDoorW.PrintLast Go.Proofs.YtolbhliepkcihaaDoorW.PrintMore
attribute [local go_sem] max2_int min2_int max_two min_two max_three min_three max_four min_four   -- for this text's walks alone
set_option linter.unusedVariables false
set_option linter.unusedSimpArgs false
attribute [local go_sem high] eqA48
/-! ### saltusref16_Right: function 25 -/
mutual
def saltusref16_Right.l0 : Nat → List (S46) → List (S46) → Int → Int → Option (Bool)
 | 0, _, _, _, _ => none
 | k + 1, x0, x7, x8, x9 => if x9 < x8 then (if 0 ≤ x9 then (if x9 < (x7.length : Int) then (if (((rd_T46 x7 x9).f1).size : Int) > 64 then (some false) else (if x9 ≤ (x0.length : Int) then ((some (x0.take (x9 : Int).toNat : List (S46))).bind fun y119 => (saltusref16_Right.l1 k x0 x7 x8 x9 y119 (y119.length : Int) 0 ((rd_T46 x7 x9).f0) ((rd_T46 x7 x9).f1))) else (none))) else (none)) else (none)) else (some (decide ((x0.length : Int) ≤ 64)))
def saltusref16_Right.l1 : Nat → List (S46) → List (S46) → Int → Int → List (S46) → Int → Int → Int → ByteArray → Option (Bool)
 | 0, _, _, _, _, _, _, _, _, _ => none
 | k + 1, x0, x7, x8, x9, x20, x21, x22, x119000, x119001 => if x22 < x21 then (if 0 ≤ x22 then (if x22 < (x20.length : Int) then (if ((rd_T46 x20 x22).f0) ≥ x119000 then (some false) else (saltusref16_Right.l1 k x0 x7 x8 x9 x20 x21 (wrap64 (x22 + 1)) x119000 x119001)) else (none)) else (none)) else (saltusref16_Right.l0 k x0 x7 x8 (wrap64 (x9 + 1)))
end
def saltusref16_Right.f (k : Nat) (l0 : List (S46)) : Option (Bool) := saltusref16_Right.l0 k l0 l0 (l0.length : Int) 0
theorem saltusref16_Right.mono_l : ∀ k, (∀ y0 y1 y2 y3, LeO (saltusref16_Right.l0 k y0 y1 y2 y3) (saltusref16_Right.l0 (k + 1) y0 y1 y2 y3)) ∧ (∀ y0 y1 y2 y3 y4 y5 y6 y7 y8, LeO (saltusref16_Right.l1 k y0 y1 y2 y3 y4 y5 y6 y7 y8) (saltusref16_Right.l1 (k + 1) y0 y1 y2 y3 y4 y5 y6 y7 y8))
 | 0 => ⟨fun _ _ _ _ r h => by simp [saltusref16_Right.l0] at h, fun _ _ _ _ _ _ _ _ _ r h => by simp [saltusref16_Right.l1] at h⟩
 | k + 1 => by
  obtain ⟨ih0, ih1⟩ := saltusref16_Right.mono_l k
  refine ⟨?_, ?_⟩
  ·intro y0 y1 y2 y3
   unfold saltusref16_Right.l0
   repeat' first
   | (with_reducible exact ih0 _ _ _ _)
   | (with_reducible exact ih1 _ _ _ _ _ _ _ _ _)
   | (with_reducible exact LeO.refl _)
   | (with_reducible exact LeO.none _)
   | (with_reducible refine LeO.ite ?_ ?_)
   | (with_reducible refine LeO.bind ?_ (fun _ => ?_))
   | exact ih0 _ _ _ _
   | exact ih1 _ _ _ _ _ _ _ _ _
   | exact LeO.none _
   | refine LeO.ite ?_ ?_
   | refine LeO.bind ?_ (fun _ => ?_)
  ·intro y0 y1 y2 y3 y4 y5 y6 y7 y8
   unfold saltusref16_Right.l1
   repeat' first
   | (with_reducible exact ih0 _ _ _ _)
   | (with_reducible exact ih1 _ _ _ _ _ _ _ _ _)
   | (with_reducible exact LeO.refl _)
   | (with_reducible exact LeO.none _)
   | (with_reducible refine LeO.ite ?_ ?_)
   | (with_reducible refine LeO.bind ?_ (fun _ => ?_))
   | exact ih0 _ _ _ _
   | exact ih1 _ _ _ _ _ _ _ _ _
   | exact LeO.none _
   | refine LeO.ite ?_ ?_
   | refine LeO.bind ?_ (fun _ => ?_)
theorem saltusref16_Right.mono : ∀ a0 k, LeO (saltusref16_Right.f k a0) (saltusref16_Right.f (k + 1) a0) := by
 intro a0 k
 obtain ⟨ih0, ih1⟩ := saltusref16_Right.mono_l k
 unfold saltusref16_Right.f
 repeat' first
   | (with_reducible exact ih0 _ _ _ _)
   | (with_reducible exact ih1 _ _ _ _ _ _ _ _ _)
   | (with_reducible exact LeO.refl _)
   | (with_reducible exact LeO.none _)
   | (with_reducible refine LeO.ite ?_ ?_)
   | (with_reducible refine LeO.bind ?_ (fun _ => ?_))
   | exact ih0 _ _ _ _
   | exact ih1 _ _ _ _ _ _ _ _ _
   | exact LeO.none _
   | refine LeO.ite ?_ ?_
   | refine LeO.bind ?_ (fun _ => ?_)
set_option maxHeartbeats 8000000 in
set_option maxRecDepth 100000 in
theorem saltusref16_Right.calls (k : Nat) (A0 : Option Addr) (c0 : Nat) (l0 : List (S46)) (r : Bool) (w : World) (hr0 : Kd.C k46 w A0 l0.length l0) (hc0 : l0.length ≤ c0) (h : saltusref16_Right.f k l0 = some r) :
  Calls Tryd.prog 25 #[.slice A0 l0.length c0] w fun e w' => e = .returned (.bool r) ∧ Below w.heap.size w w' := by
 have hu46 := Tryd.underlying46
 have HR0 := Aside0.mk hr0
 have HC0 := Aside0.mk hc0
 clear hr0 hc0
 have HB := Aside0.mk (Below.refl w.heap.size w)
 have H : (saltusref16_Right.l0 k l0 l0 (l0.length : Int) 0) = some r := h
 clear h
 have H' := Aside0.mk H
 clear H
 go_enter Tryd.func25, Tryd.ntmps25
 go_wp2
 go_loopg [9] k (fun kq v9 w' => ∃ (x9_1 : Int), v9 = .int .i64 x9_1 ∧ Aside0 (saltusref16_Right.l0 kq l0 l0 (l0.length : Int) x9_1 = some r) ∧ Aside0 (kq ≤ k) ∧ Aside0 (Below w.heap.size w w'))
 case atStart => exact ⟨(0), (by first | rfl | (simp; done) | (simp [*]; done)), H', ⟨Nat.le_refl _⟩, ⟨by repeat (first | (with_reducible first | exact HB.out | apply below_alloc | apply pw_below_drewN | apply below_drew1) | exact HB.out)⟩⟩
 case round =>
  clear H'
  obtain ⟨x9_1, rfl, HA, HK1, HB⟩ := hrel
  cases gk with
  | zero => exact absurd HA.out (by simp [saltusref16_Right.l0])
  | succ k1 =>
   have H := HA.out
   clear HA
   simp only [saltusref16_Right.l0] at H
   by_cases c2 : x9_1 < (l0.length : Int)
   ·rw [if_pos c2] at H
    have c2b0 : decide (x9_1 < (l0.length : Int)) = true := decide_eq_true c2
    clear c2
    by_cases c3 : 0 ≤ x9_1
    ·rw [if_pos c3] at H
     have c3b0 : decide (0 ≤ x9_1) = true := decide_eq_true c3
     clear c3
     by_cases c4 : x9_1 < (l0.length : Int)
     ·rw [if_pos c4] at H
      have c4b0 : decide (x9_1 < (l0.length : Int)) = true := decide_eq_true c4
      clear c4
      by_cases c5 : (((rd_T46 l0 x9_1).f1).size : Int) > 64
      ·rw [if_pos c5] at H
       have c5b0 : decide (64 < (((rd_T46 l0 x9_1).f1).size : Int)) = true := decide_eq_true c5
       have c5b1 : decide (64 < ((rd_T46 l0 x9_1).f1).size) = true := decide_eq_true (by omega)
       clear c5
       obtain rfl := Option.some.inj H
       have p117 : 0 ≤ (x9_1 : Int) := of_decide_eq_true (by first | (with_reducible assumption) | assumption)
       have q117 : x9_1 < (l0.length : Int) := of_decide_eq_true (by first | (with_reducible assumption) | assumption)
       obtain ⟨ad117, e117, hx117_0, hx117_1⟩ := at_T46 HR0.out x9_1 p117 q117
       cases e117
       replace hx117_0 := (HB.out.cell (World.block_lt_of_cell? w _ hx117_0)).trans hx117_0
       replace hx117_1 := (HB.out.cell (World.block_lt_of_cell? w _ hx117_1)).trans hx117_1
       replace p117 := eq_true p117
       replace q117 := eq_true q117
       go_wp2_with (first | ((with_reducible refine gate_dst (N := 4) rfl ?_); refine box_event ?hg (N := 4) ?hd (cs := #[.int .u64 0, .string (⟨#[]⟩ : ByteArray)]) (t := 46) ?hr ?_; (case hd => rfl); (case hg => rfl); (case hr => first | (go_simp; done) | (go_simp; rfl)); intro gb118 hg w6 hbox hb; have n0_ := Aside0.mk (below_step (by repeat (first | (with_reducible first | exact HB.out | apply below_alloc | apply pw_below_drewN | apply below_drew1) | exact HB.out)) hb); have n1_ := Aside0.mk (hbox); have n2_ := Aside0.mk ((by rw [hg]; exact (below_size (by repeat (first | (with_reducible first | exact HB.out | apply below_alloc | apply pw_below_drewN | apply below_drew1) | exact HB.out))) : w.heap.size ≤ gb118)); have n3_ := Aside0.mk ((by rw [hg]; exact (below_size (by repeat (first | (with_reducible first | exact HB.out | apply below_alloc | apply pw_below_drewN | apply below_drew1) | exact HB.out))) : w.heap.size ≤ gb118)); clear HB; have HB := n0_; have BK118 := n1_; have GW118 := n2_; have GE118 := n3_; clear n0_ n1_ n2_ n3_; clear hb hbox hg; have hcz7_0 : w6.cell? ⟨gb118, 0, none⟩ = some (.int .u64 0) := (blk_cell BK118.out 0).trans rfl; have hcz7_1 : w6.cell? ⟨gb118, 1, none⟩ = some (.string (⟨#[]⟩ : ByteArray)) := (blk_cell BK118.out 1).trans rfl; have hfz7_0 := blk_frozen BK118.out 0; have hfz7_1 := blk_frozen BK118.out 1))
       go_ret
       exact ⟨by first | rfl | (simp [errW_none, errW_some] <;> rfl) | (simp [*, errW_none, errW_some] <;> rfl), by repeat (first | (with_reducible first | exact HB.out | apply below_alloc | apply pw_below_drewN | apply below_drew1 | refine below_set ?_ GE118.out) | exact HB.out)⟩
      ·rw [if_neg c5] at H
       have c5b0 : decide (64 < (((rd_T46 l0 x9_1).f1).size : Int)) = false := decide_eq_false c5
       have c5b1 : decide (64 < ((rd_T46 l0 x9_1).f1).size) = false := decide_eq_false (by omega)
       clear c5
       have c8b0 := eq_true (of_decide_eq_true (by first | (with_reducible assumption) | assumption) : 0 ≤ x9_1)
       by_cases c9 : x9_1 ≤ (l0.length : Int)
       ·rw [if_pos c9] at H
        have c9b0 := eq_true c9
        have c9b1 : decide (x9_1 ≤ (l0.length : Int)) = true := decide_eq_true c9
        clear c9
        obtain ⟨y119, hy119⟩ : ∃ y_ : List (S46), y_ = (l0.take (x9_1 : Int).toNat) := ⟨_, rfl⟩
        replace H : (saltusref16_Right.l1 k1 l0 l0 (l0.length : Int) x9_1 y119 (y119.length : Int) 0 ((rd_T46 l0 x9_1).f0) ((rd_T46 l0 x9_1).f1)) = some r := by first | (rw [hy119]; with_reducible exact H) | (have H2_ := (Option.bind_some _ _).symm.trans H; rw [hy119]; with_reducible exact H2_) | (have H2_ := (Option.bind_some _ _).symm.trans H; with_reducible exact H2_) | with_reducible exact H | (rw [hy119]; exact H) | exact H
        have Ny119 := Aside0.mk hy119
        clear hy119
        have H' := Aside0.mk H
        clear H
        have p117 : 0 ≤ (x9_1 : Int) := of_decide_eq_true (by first | (with_reducible assumption) | assumption)
        have q117 : x9_1 < (l0.length : Int) := of_decide_eq_true (by first | (with_reducible assumption) | assumption)
        obtain ⟨ad117, e117, hx117_0, hx117_1⟩ := at_T46 HR0.out x9_1 p117 q117
        cases e117
        replace hx117_0 := (HB.out.cell (World.block_lt_of_cell? w _ hx117_0)).trans hx117_0
        replace hx117_1 := (HB.out.cell (World.block_lt_of_cell? w _ hx117_1)).trans hx117_1
        replace p117 := eq_true p117
        replace q117 := eq_true q117
        go_wp2_with (first | ((with_reducible refine gate_dst (N := 4) rfl ?_); refine box_event ?hg (N := 4) ?hd (cs := #[.int .u64 0, .string (⟨#[]⟩ : ByteArray)]) (t := 46) ?hr ?_; (case hd => rfl); (case hg => rfl); (case hr => first | (go_simp; done) | (go_simp; rfl)); intro gb118 hg w10 hbox hb; have n0_ := Aside0.mk (below_step (by repeat (first | (with_reducible first | exact HB.out | apply below_alloc | apply pw_below_drewN | apply below_drew1) | exact HB.out)) hb); have n1_ := Aside0.mk (hbox); have n2_ := Aside0.mk ((by rw [hg]; exact (below_size (by repeat (first | (with_reducible first | exact HB.out | apply below_alloc | apply pw_below_drewN | apply below_drew1) | exact HB.out))) : w.heap.size ≤ gb118)); have n3_ := Aside0.mk ((by rw [hg]; exact (below_size (by repeat (first | (with_reducible first | exact HB.out | apply below_alloc | apply pw_below_drewN | apply below_drew1) | exact HB.out))) : w.heap.size ≤ gb118)); clear HB; have HB := n0_; have BK118 := n1_; have GW118 := n2_; have GE118 := n3_; clear n0_ n1_ n2_ n3_; clear hb hbox hg; have hcz11_0 : w10.cell? ⟨gb118, 0, none⟩ = some (.int .u64 0) := (blk_cell BK118.out 0).trans rfl; have hcz11_1 : w10.cell? ⟨gb118, 1, none⟩ = some (.string (⟨#[]⟩ : ByteArray)) := (blk_cell BK118.out 1).trans rfl; have hfz11_0 := blk_frozen BK118.out 0; have hfz11_1 := blk_frozen BK118.out 1) | ((with_reducible refine gate_store (t := 46) (p := 4) rfl ?_); refine store_event (t := 46) (p := 4) (v := ?vo_w12) (w1 := ((w10.setCell ⟨gb118, 0, none⟩ (.int .u64 ((rd_T46 l0 x9_1).f0))).setCell ⟨gb118, 1, none⟩ (.string ((rd_T46 l0 x9_1).f1)))) ?hg ?ho ?hn ?hr ?_; (case ho => rfl); (case hg => rfl); (case hn => rfl); (case hr => first | (go_simp; done) | (go_simp; rfl)); intro w12 hw; have n0_ : Aside0 (w12.heap[gb118]? = some (.cells #[.int .u64 ((rd_T46 l0 x9_1).f0), .string ((rd_T46 l0 x9_1).f1)] 46 (0, 0))) := ⟨(by rw [hw]; exact (by (with_reducible repeat (first | refine blk_drewN ?_ _ | refine blk_drew ?_ | refine blk_alloc ?_ _)); refine blk_put (cs := #[.int .u64 ((rd_T46 l0 x9_1).f0), .string (⟨#[]⟩ : ByteArray)]) ?_ 1 _ rfl; (with_reducible repeat (first | refine blk_drewN ?_ _ | refine blk_drew ?_ | refine blk_alloc ?_ _)); refine blk_put (cs := #[.int .u64 0, .string (⟨#[]⟩ : ByteArray)]) ?_ 0 _ rfl; (with_reducible repeat (first | refine blk_drewN ?_ _ | refine blk_drew ?_ | refine blk_alloc ?_ _)); exact BK118.out))⟩; have n1_ : Aside0 (Below w.heap.size w w12) := ⟨(by rw [hw]; exact (by repeat (first | (with_reducible first | exact HB.out | apply below_alloc | apply pw_below_drewN | apply below_drew1 | refine below_set ?_ GE118.out) | exact HB.out)))⟩; clear hw; clear BK118; clear HB; have BK118 := n0_; have HB := n1_; clear n0_ n1_; have hcz13_0 : w12.cell? ⟨gb118, 0, none⟩ = some (.int .u64 ((rd_T46 l0 x9_1).f0)) := (blk_cell BK118.out 0).trans rfl; have hcz13_1 : w12.cell? ⟨gb118, 1, none⟩ = some (.string ((rd_T46 l0 x9_1).f1)) := (blk_cell BK118.out 1).trans rfl; have hfz13_0 := blk_frozen BK118.out 0; have hfz13_1 := blk_frozen BK118.out 1; have q14 : (x9_1 : Int) ≤ ((l0.length : Int) : Int) := of_decide_eq_true (by first | (with_reducible assumption) | assumption); obtain ⟨i014, hi014, _, hsz14, _⟩ := info_parts info46; have hroom14 : l0.length ≤ c0 := HC0.out; have hC14 : Kd.C k46 _ (some ad117) l0.length l0 := HR0.out; have hcut14 := cut_to (P := Tryd.prog) 36 46 .i64 Tryd.underlying36 hi014 (some ad117) l0.length c0 x9_1 (of_decide_eq_true (by first | (with_reducible assumption) | assumption)) q14 hroom14; have hr14 := Kd.C_take (m := (x9_1 : Int).toNat) hC14 (by omega); have hy14 : y119.length = (x9_1 : Int).toNat := (by rw [Ny119.out, List.length_take]; omega); rw [← Ny119.out] at hr14; rw [← hy14] at hcut14; have HR122 := Aside0.mk hr14; have HC122 := Aside0.mk (show y119.length ≤ c0 from by omega); clear hr14 hC14 hroom14 hi014 hsz14; have KY14 := Aside0.mk hy14; clear hy14; replace q14 := eq_true q14))
        go_loopg [22] k1 (fun kq v22 w' => ∃ (x22_2 : Int), v22 = .int .i64 x22_2 ∧ Aside0 (saltusref16_Right.l1 kq l0 l0 (l0.length : Int) x9_1 y119 (y119.length : Int) x22_2 ((rd_T46 l0 x9_1).f0) ((rd_T46 l0 x9_1).f1) = some r) ∧ Aside0 (kq ≤ k1) ∧ Aside0 (w'.heap[gb118]? = some (.cells #[.int .u64 ((rd_T46 l0 x9_1).f0), .string ((rd_T46 l0 x9_1).f1)] 46 (0, 0))) ∧ Aside0 (Below w.heap.size w w'))
        case atStart => exact ⟨(0), (by first | rfl | (simp; done) | (simp [*]; done)), H', ⟨Nat.le_refl _⟩, ⟨by (with_reducible repeat (first | refine blk_drewN ?_ _ | refine blk_drew ?_ | refine blk_alloc ?_ _)); exact BK118.out⟩, ⟨by repeat (first | (with_reducible first | exact HB.out | apply below_alloc | apply pw_below_drewN | apply below_drew1 | refine below_set ?_ GE118.out) | exact HB.out)⟩⟩
        case round =>
         clear H'
         try clear p1
         try clear q1
         try clear hx1
         try clear c2
         try clear c2b0
         try clear p2
         try clear c3
         try clear c3b0
         try clear c4
         try clear c4b0
         try clear c5
         try clear c5b0
         try clear c5b1
         try clear c8
         try clear c8b0
         try clear c9
         try clear c9b0
         try clear c9b1
         try clear p11
         try clear q11
         try clear hx11
         try clear q14
         try clear hcz11_0
         try clear hcz11_1
         try clear hcz13_0
         try clear hcz13_1
         try clear hcz7_0
         try clear hcz7_1
         try clear hfz11_0
         try clear hfz11_1
         try clear hfz13_0
         try clear hfz13_1
         try clear hfz7_0
         try clear hfz7_1
         try clear hx117_0
         try clear hx117_1
         try clear p117
         try clear q117
         try clear q14
         obtain ⟨x22_2, rfl, HA, HK2, BK118, HB⟩ := hrel
         cases gk with
         | zero => exact absurd HA.out (by simp [saltusref16_Right.l1])
         | succ k2 =>
          have H := HA.out
          clear HA
          simp only [saltusref16_Right.l1] at H
          by_cases c15 : x22_2 < (y119.length : Int)
          ·rw [if_pos c15] at H
           have c15b0 : decide (x22_2 < (y119.length : Int)) = true := decide_eq_true c15
           clear c15
           by_cases c16 : 0 ≤ x22_2
           ·rw [if_pos c16] at H
            have c16b0 : decide (0 ≤ x22_2) = true := decide_eq_true c16
            clear c16
            by_cases c17 : x22_2 < (y119.length : Int)
            ·rw [if_pos c17] at H
             have c17b0 : decide (x22_2 < (y119.length : Int)) = true := decide_eq_true c17
             clear c17
             by_cases c18 : ((rd_T46 y119 x22_2).f0) ≥ ((rd_T46 l0 x9_1).f0)
             ·rw [if_pos c18] at H
              have c18b0 : decide (((rd_T46 l0 x9_1).f0) ≤ ((rd_T46 y119 x22_2).f0)) = true := decide_eq_true c18
              clear c18
              obtain rfl := Option.some.inj H
              have p123 : 0 ≤ (x22_2 : Int) := of_decide_eq_true (by first | (with_reducible assumption) | assumption)
              have q123 : x22_2 < (y119.length : Int) := of_decide_eq_true (by first | (with_reducible assumption) | assumption)
              obtain ⟨ad123, e123, hx123_0, hx123_1⟩ := at_T46 HR122.out x22_2 p123 q123
              obtain rfl : ad117 = ad123 := (by injection e123)
              replace hx123_0 := (HB.out.cell (World.block_lt_of_cell? w _ hx123_0)).trans hx123_0
              replace hx123_1 := (HB.out.cell (World.block_lt_of_cell? w _ hx123_1)).trans hx123_1
              replace p123 := eq_true p123
              replace q123 := eq_true q123
              go_wp2_with (first | ((with_reducible refine gate_dst (N := 6) rfl ?_); refine box_event ?hg (N := 6) ?hd (cs := #[.int .u64 0, .string (⟨#[]⟩ : ByteArray)]) (t := 46) ?hr ?_; (case hd => rfl); (case hg => rfl); (case hr => first | (go_simp; done) | (go_simp; rfl)); intro gb124 hg w19 hbox hb; have n0_ := Aside0.mk (blk_below (g := gb118) (o := .cells #[.int .u64 ((rd_T46 l0 x9_1).f0), .string ((rd_T46 l0 x9_1).f1)] 46 (0, 0)) (by (with_reducible repeat (first | refine blk_drewN ?_ _ | refine blk_drew ?_ | refine blk_alloc ?_ _)); exact BK118.out) hb); have n1_ := Aside0.mk (below_step (by repeat (first | (with_reducible first | exact HB.out | apply below_alloc | apply pw_below_drewN | apply below_drew1 | refine below_set ?_ GE118.out) | exact HB.out)) hb); have n2_ := Aside0.mk (hbox); have n3_ := Aside0.mk ((by rw [hg]; exact (below_size (by repeat (first | (with_reducible first | exact HB.out | apply below_alloc | apply pw_below_drewN | apply below_drew1 | refine below_set ?_ GE118.out) | exact HB.out))) : w.heap.size ≤ gb124)); have n4_ := Aside0.mk ((by rw [hg]; exact (below_size (by repeat (first | (with_reducible first | exact HB.out | apply below_alloc | apply pw_below_drewN | apply below_drew1 | refine below_set ?_ GE118.out) | exact HB.out))) : w.heap.size ≤ gb124)); have n5_ := Aside0.mk ((by rw [hg]; exact Nat.ne_of_lt (blk_lt (g := gb118) (o := .cells #[.int .u64 ((rd_T46 l0 x9_1).f0), .string ((rd_T46 l0 x9_1).f1)] 46 (0, 0)) (by (with_reducible repeat (first | refine blk_drewN ?_ _ | refine blk_drew ?_ | refine blk_alloc ?_ _)); exact BK118.out)) : gb118 ≠ gb124)); have n6_ := Aside0.mk ((by rw [hg]; exact Nat.ne_of_gt (blk_lt (g := gb118) (o := .cells #[.int .u64 ((rd_T46 l0 x9_1).f0), .string ((rd_T46 l0 x9_1).f1)] 46 (0, 0)) (by (with_reducible repeat (first | refine blk_drewN ?_ _ | refine blk_drew ?_ | refine blk_alloc ?_ _)); exact BK118.out)) : gb124 ≠ gb118)); clear BK118; clear HB; have BK118 := n0_; have HB := n1_; have BK124 := n2_; have GW124 := n3_; have GE124 := n4_; have NB118_124 := n5_; have NB124_118 := n6_; clear n0_ n1_ n2_ n3_ n4_ n5_ n6_; clear hb hbox hg; have hnb20 := NB124_118.out; have hnc20 := NB118_124.out; have hcz21_0 : w19.cell? ⟨gb124, 0, none⟩ = some (.int .u64 0) := (blk_cell BK124.out 0).trans rfl; have hcz21_1 : w19.cell? ⟨gb124, 1, none⟩ = some (.string (⟨#[]⟩ : ByteArray)) := (blk_cell BK124.out 1).trans rfl; have hfz21_0 := blk_frozen BK124.out 0; have hfz21_1 := blk_frozen BK124.out 1; have hcz22_0 : w19.cell? ⟨gb118, 0, none⟩ = some (.int .u64 ((rd_T46 l0 x9_1).f0)) := (blk_cell BK118.out 0).trans rfl; have hcz22_1 : w19.cell? ⟨gb118, 1, none⟩ = some (.string ((rd_T46 l0 x9_1).f1)) := (blk_cell BK118.out 1).trans rfl; have hfz22_0 := blk_frozen BK118.out 0; have hfz22_1 := blk_frozen BK118.out 1))
              go_ret
              exact ⟨by first | rfl | (simp [errW_none, errW_some] <;> rfl) | (simp [*, errW_none, errW_some] <;> rfl), by repeat (first | (with_reducible first | exact HB.out | apply below_alloc | apply pw_below_drewN | apply below_drew1 | refine below_set ?_ GE118.out | refine below_set ?_ GE124.out) | exact HB.out)⟩
             ·rw [if_neg c18] at H
              have c18b0 : decide (((rd_T46 l0 x9_1).f0) ≤ ((rd_T46 y119 x22_2).f0)) = false := decide_eq_false c18
              clear c18
              have H' := Aside0.mk H
              clear H
              have p123 : 0 ≤ (x22_2 : Int) := of_decide_eq_true (by first | (with_reducible assumption) | assumption)
              have q123 : x22_2 < (y119.length : Int) := of_decide_eq_true (by first | (with_reducible assumption) | assumption)
              obtain ⟨ad123, e123, hx123_0, hx123_1⟩ := at_T46 HR122.out x22_2 p123 q123
              obtain rfl : ad117 = ad123 := (by injection e123)
              replace hx123_0 := (HB.out.cell (World.block_lt_of_cell? w _ hx123_0)).trans hx123_0
              replace hx123_1 := (HB.out.cell (World.block_lt_of_cell? w _ hx123_1)).trans hx123_1
              replace p123 := eq_true p123
              replace q123 := eq_true q123
              go_wp2_with (first | ((with_reducible refine gate_dst (N := 6) rfl ?_); refine box_event ?hg (N := 6) ?hd (cs := #[.int .u64 0, .string (⟨#[]⟩ : ByteArray)]) (t := 46) ?hr ?_; (case hd => rfl); (case hg => rfl); (case hr => first | (go_simp; done) | (go_simp; rfl)); intro gb124 hg w23 hbox hb; have n0_ := Aside0.mk (blk_below (g := gb118) (o := .cells #[.int .u64 ((rd_T46 l0 x9_1).f0), .string ((rd_T46 l0 x9_1).f1)] 46 (0, 0)) (by (with_reducible repeat (first | refine blk_drewN ?_ _ | refine blk_drew ?_ | refine blk_alloc ?_ _)); exact BK118.out) hb); have n1_ := Aside0.mk (below_step (by repeat (first | (with_reducible first | exact HB.out | apply below_alloc | apply pw_below_drewN | apply below_drew1 | refine below_set ?_ GE118.out) | exact HB.out)) hb); have n2_ := Aside0.mk (hbox); have n3_ := Aside0.mk ((by rw [hg]; exact (below_size (by repeat (first | (with_reducible first | exact HB.out | apply below_alloc | apply pw_below_drewN | apply below_drew1 | refine below_set ?_ GE118.out) | exact HB.out))) : w.heap.size ≤ gb124)); have n4_ := Aside0.mk ((by rw [hg]; exact (below_size (by repeat (first | (with_reducible first | exact HB.out | apply below_alloc | apply pw_below_drewN | apply below_drew1 | refine below_set ?_ GE118.out) | exact HB.out))) : w.heap.size ≤ gb124)); have n5_ := Aside0.mk ((by rw [hg]; exact Nat.ne_of_lt (blk_lt (g := gb118) (o := .cells #[.int .u64 ((rd_T46 l0 x9_1).f0), .string ((rd_T46 l0 x9_1).f1)] 46 (0, 0)) (by (with_reducible repeat (first | refine blk_drewN ?_ _ | refine blk_drew ?_ | refine blk_alloc ?_ _)); exact BK118.out)) : gb118 ≠ gb124)); have n6_ := Aside0.mk ((by rw [hg]; exact Nat.ne_of_gt (blk_lt (g := gb118) (o := .cells #[.int .u64 ((rd_T46 l0 x9_1).f0), .string ((rd_T46 l0 x9_1).f1)] 46 (0, 0)) (by (with_reducible repeat (first | refine blk_drewN ?_ _ | refine blk_drew ?_ | refine blk_alloc ?_ _)); exact BK118.out)) : gb124 ≠ gb118)); clear BK118; clear HB; have BK118 := n0_; have HB := n1_; have BK124 := n2_; have GW124 := n3_; have GE124 := n4_; have NB118_124 := n5_; have NB124_118 := n6_; clear n0_ n1_ n2_ n3_ n4_ n5_ n6_; clear hb hbox hg; have hnb24 := NB124_118.out; have hnc24 := NB118_124.out; have hcz25_0 : w23.cell? ⟨gb124, 0, none⟩ = some (.int .u64 0) := (blk_cell BK124.out 0).trans rfl; have hcz25_1 : w23.cell? ⟨gb124, 1, none⟩ = some (.string (⟨#[]⟩ : ByteArray)) := (blk_cell BK124.out 1).trans rfl; have hfz25_0 := blk_frozen BK124.out 0; have hfz25_1 := blk_frozen BK124.out 1; have hcz26_0 : w23.cell? ⟨gb118, 0, none⟩ = some (.int .u64 ((rd_T46 l0 x9_1).f0)) := (blk_cell BK118.out 0).trans rfl; have hcz26_1 : w23.cell? ⟨gb118, 1, none⟩ = some (.string ((rd_T46 l0 x9_1).f1)) := (blk_cell BK118.out 1).trans rfl; have hfz26_0 := blk_frozen BK118.out 0; have hfz26_1 := blk_frozen BK118.out 1))
              go_roundg k2
              case measure => have := HK1.out; have := HK2.out; omega
              case rel => exact ⟨(wrap64 (x22_2 + 1)), (by first | rfl | (simp; done) | (simp [*]; done)), H', ⟨by have := HK1.out; have := HK2.out; omega⟩, ⟨by (with_reducible repeat (first | refine blk_drewN ?_ _ | refine blk_drew ?_ | refine blk_alloc ?_ _)); refine blk_far ?_ NB118_124.out _; (with_reducible repeat (first | refine blk_drewN ?_ _ | refine blk_drew ?_ | refine blk_alloc ?_ _)); refine blk_far ?_ NB118_124.out _; (with_reducible repeat (first | refine blk_drewN ?_ _ | refine blk_drew ?_ | refine blk_alloc ?_ _)); exact BK118.out⟩, ⟨by repeat (first | (with_reducible first | exact HB.out | apply below_alloc | apply pw_below_drewN | apply below_drew1 | refine below_set ?_ GE118.out | refine below_set ?_ GE124.out) | exact HB.out)⟩⟩
            ·rw [if_neg c17] at H
             exact absurd H (by simp)
           ·rw [if_neg c16] at H
            exact absurd H (by simp)
          ·rw [if_neg c15] at H
           have c15b0 : decide (x22_2 < (y119.length : Int)) = false := decide_eq_false c15
           clear c15
           have H' := Aside0.mk H
           clear H
           go_wp2
           go_roundg k2
           case measure => have := HK1.out; have := HK2.out; omega
           case rel => exact ⟨(wrap64 (x9_1 + 1)), (by first | rfl | (simp; done) | (simp [*]; done)), H', ⟨by have := HK1.out; have := HK2.out; omega⟩, ⟨by repeat (first | (with_reducible first | exact HB.out | apply below_alloc | apply pw_below_drewN | apply below_drew1 | refine below_set ?_ GE118.out) | exact HB.out)⟩⟩
       ·rw [if_neg c9] at H
        exact absurd H (by simp)
     ·rw [if_neg c4] at H
      exact absurd H (by simp)
    ·rw [if_neg c3] at H
     exact absurd H (by simp)
   ·rw [if_neg c2] at H
    have c2b0 : decide (x9_1 < (l0.length : Int)) = false := decide_eq_false c2
    clear c2
    obtain rfl := Option.some.inj H
    go_wp2
    go_ret
    exact ⟨by first | rfl | (simp [errW_none, errW_some] <;> rfl) | (simp [*, errW_none, errW_some] <;> rfl), by repeat (first | (with_reducible first | exact HB.out | apply below_alloc | apply pw_below_drewN | apply below_drew1) | exact HB.out)⟩
/-! ### saltuslaw16_alive: function 26 -/
def saltuslaw16_alive.f (k : Nat)  : Option (Bool) := (skip_Find.f k (⟨#[107]⟩ : ByteArray) (([(⟨3, (⟨#[]⟩ : ByteArray)⟩ : S46), (⟨5, (⟨#[]⟩ : ByteArray)⟩ : S46), (⟨9, (⟨#[]⟩ : ByteArray)⟩ : S46)] : List (S46))) 6).bind fun bt128 => (if bt128.2.2 = 0 then (if bt128.1 = 1 then (some (decide ((bt128.2.1.length : Int) > 0))) else (some false)) else (some false))
theorem saltuslaw16_alive.mono : ∀ k, LeO (saltuslaw16_alive.f k ) (saltuslaw16_alive.f (k + 1) ) := by
 intro  k
 unfold saltuslaw16_alive.f
 repeat' first
   | (with_reducible exact skip_Find.mono _ _ _ _)
   | (with_reducible exact LeO.refl _)
   | (with_reducible exact LeO.none _)
   | (with_reducible refine LeO.ite ?_ ?_)
   | (with_reducible refine LeO.bind ?_ (fun _ => ?_))
   | exact skip_Find.mono _ _ _ _
   | exact LeO.none _
   | refine LeO.ite ?_ ?_
   | refine LeO.bind ?_ (fun _ => ?_)
set_option maxHeartbeats 8000000 in
set_option maxRecDepth 100000 in
theorem saltuslaw16_alive.calls (k : Nat)  (r : Bool) (w : World) (h : saltuslaw16_alive.f k  = some r) (hT0 : Tower.TabW w) :
  Calls Tryd.prog 26 #[] w fun e w' => e = .returned (.bool r) ∧ Below w.heap.size w w' := by
 have HT := Aside0.mk hT0
 clear hT0
 have hu46 := Tryd.underlying46
 have HB := Aside0.mk (Below.refl w.heap.size w)
 have H : ((skip_Find.f k (⟨#[107]⟩ : ByteArray) (([(⟨3, (⟨#[]⟩ : ByteArray)⟩ : S46), (⟨5, (⟨#[]⟩ : ByteArray)⟩ : S46), (⟨9, (⟨#[]⟩ : ByteArray)⟩ : S46)] : List (S46))) 6).bind fun bt128 => (if bt128.2.2 = 0 then (if bt128.1 = 1 then (some (decide ((bt128.2.1.length : Int) > 0))) else (some false)) else (some false))) = some r := h
 clear h
 obtain ⟨y125, hy125⟩ : ∃ y_ : List (S46), y_ = (([(⟨3, (⟨#[]⟩ : ByteArray)⟩ : S46), (⟨5, (⟨#[]⟩ : ByteArray)⟩ : S46), (⟨9, (⟨#[]⟩ : ByteArray)⟩ : S46)] : List (S46))) := ⟨_, rfl⟩
 replace H : ((skip_Find.f k (⟨#[107]⟩ : ByteArray) y125 6).bind fun bt128 => (if bt128.2.2 = 0 then (if bt128.1 = 1 then (some (decide ((bt128.2.1.length : Int) > 0))) else (some false)) else (some false))) = some r := by first | (rw [hy125]; with_reducible exact H) | (have H2_ := (Option.bind_some _ _).symm.trans H; rw [hy125]; with_reducible exact H2_) | (have H2_ := (Option.bind_some _ _).symm.trans H; with_reducible exact H2_) | with_reducible exact H | (rw [hy125]; exact H) | exact H
 have Ny125 := Aside0.mk hy125
 clear hy125
 replace H := Option.bind_eq_some_iff.mp H
 obtain ⟨⟨t128, t129, t130⟩, A10, H⟩ := H
 (try dsimp only at H)
 have A1 := Aside0.mk A10
 clear A10
 by_cases c2 : t130 = 0
 ·rw [if_pos c2] at H
  have c2b0 : (t130 == 0) = true := beq_iff_eq.mpr c2
  have c2b1 : (t130 != 0) = false := bne_eq_false_iff_eq.mpr c2
  clear c2
  by_cases c3 : t128 = 1
  ·rw [if_pos c3] at H
   have c3b0 : (t128 == 1) = true := beq_iff_eq.mpr c3
   have c3b1 : (t128 != 1) = false := bne_eq_false_iff_eq.mpr c3
   clear c3
   obtain rfl := Option.some.inj H
   go_enter Tryd.func26, Tryd.ntmps26
   go_wp2_with (first | ((with_reducible refine gate_dst (N := 8) rfl ?_); (try (refine gate_guard (by rfl) ?_; dsimp only)); refine Kd.R_lit k46 _ 46 ?hg (N := 8) ?hd (xs := ([(⟨3, (⟨#[]⟩ : ByteArray)⟩ : S46), (⟨5, (⟨#[]⟩ : ByteArray)⟩ : S46), (⟨9, (⟨#[]⟩ : ByteArray)⟩ : S46)] : List (S46))) (inner := [.int .u64 3, .string (⟨#[]⟩ : ByteArray), .int .u64 5, .string (⟨#[]⟩ : ByteArray), .int .u64 9, .string (⟨#[]⟩ : ByteArray)]) (ok := fun _ => True) (okp := fun _ => True) ?hr ?hp (fun _ hk => hk) trivial (Below.refl _ _) (Nat.le_refl _) (by simp) ?_; (case hd => rfl); (case hg => rfl); (case hr => first | (go_simp; done) | (go_simp; rfl)); (case hp => exact (Reps.c2 (show Kd.M k46 _ _ _ (⟨3, (⟨#[]⟩ : ByteArray)⟩ : S46) [.int .u64 3, .string (⟨#[]⟩ : ByteArray)] from (k46_mkM _ _ _ (⟨3, (⟨#[]⟩ : ByteArray)⟩ : S46) )) (Reps.c2 (show Kd.M k46 _ _ _ (⟨5, (⟨#[]⟩ : ByteArray)⟩ : S46) [.int .u64 5, .string (⟨#[]⟩ : ByteArray)] from (k46_mkM _ _ _ (⟨5, (⟨#[]⟩ : ByteArray)⟩ : S46) )) (Reps.c2 (show Kd.M k46 _ _ _ (⟨9, (⟨#[]⟩ : ByteArray)⟩ : S46) [.int .u64 9, .string (⟨#[]⟩ : ByteArray)] from (k46_mkM _ _ _ (⟨9, (⟨#[]⟩ : ByteArray)⟩ : S46) )) (Reps.none _ _))))); intro v126 w4 ho5 hb hg_ hnew_; clear hg_ hnew_; (first | rw [← Ny125.out] at ho5 | (simp only [Int.reduceToNat] at ho5; rw [← Ny125.out] at ho5)); have n0_ := Aside0.mk (Kd.R_lower ho5 (below_size (by repeat (first | (with_reducible first | exact HB.out | apply below_alloc | apply pw_below_drewN | apply below_drew1) | exact HB.out)))); have n1_ := Aside0.mk (below_step (by repeat (first | (with_reducible first | exact HB.out | apply below_alloc | apply pw_below_drewN | apply below_drew1) | exact HB.out)) hb); clear HB; have HO127 := n0_; have HB := n1_; clear n0_ n1_; clear hb ho5; obtain ⟨Ao6, co6, eo6⟩ := Kd.R_slice HO127.out; subst eo6) | ((with_reducible refine gate_callee (f := 24) rfl ?_); refine goesL_ (some 9) rfl rfl Tryd.func24 (by kernel_rfl) rfl #[.string (⟨#[107]⟩ : ByteArray), .slice Ao6 y125.length co6, .int .u64 6] rfl (by (try simp only [List.map_toArray, List.map_cons, List.map_nil]); first | done | rfl | (simp only [List.length_drop, List.length_take]; rfl)) ?_; (with_reducible refine (skip_Find.calls k (⟨#[107]⟩ : ByteArray) _ _ y125 6 t128 t129 t130 _ ?side1 ?side2 A1.out (Tower.tab_below HT.out (by repeat (first | (with_reducible first | exact HB.out | apply below_alloc | apply pw_below_drewN | apply below_drew1) | exact HB.out)) (Nat.le_refl _))).mono ?_); (case side1 => repeat (first | exact (Kd.R_reads' HO127.out).2.2 | (with_reducible refine Kd.C_alloc ?_ _) | (with_reducible refine Kd.C_drewN ?_ _) | (with_reducible refine Kd.C_drew ?_))); (case side2 => exact (Kd.R_reads' HO127.out).2.1); rintro e w7 ⟨v131, rfl, ho0, hb⟩; refine ⟨_, rfl, ?_⟩; have n0_ := Aside0.mk (Kd.R_below (by (with_reducible repeat (first | apply Kd.R_alloc | apply Kd.R_drewN | apply Kd.R_drew)); exact HO127.out) hb); have n1_ := Aside0.mk (Kd.R_lower ho0 (below_size (by repeat (first | (with_reducible first | exact HB.out | apply below_alloc | apply pw_below_drewN | apply below_drew1) | exact HB.out)))); have n2_ := Aside0.mk (below_step (by repeat (first | (with_reducible first | exact HB.out | apply below_alloc | apply pw_below_drewN | apply below_drew1) | exact HB.out)) hb); clear HO127; clear HB; have HO127 := n0_; have HO132 := n1_; have HB := n2_; clear n0_ n1_ n2_; (try clear hb); (try clear hb2); (try clear hk); (try clear hi); (try clear ho0); obtain ⟨Ao8, co8, eo8⟩ := Kd.R_slice HO132.out; subst eo8))
   go_ret
   exact ⟨by first | rfl | (simp [errW_none, errW_some] <;> rfl) | (simp [*, errW_none, errW_some] <;> rfl), by repeat (first | (with_reducible first | exact HB.out | apply below_alloc | apply pw_below_drewN | apply below_drew1) | exact HB.out)⟩
  ·rw [if_neg c3] at H
   have c3b0 : (t128 == 1) = false := beq_eq_false_iff_ne.mpr c3
   have c3b1 : (t128 != 1) = true := bne_iff_ne.mpr c3
   obtain rfl := Option.some.inj H
   go_enter Tryd.func26, Tryd.ntmps26
   go_wp2_with (first | ((with_reducible refine gate_dst (N := 8) rfl ?_); (try (refine gate_guard (by rfl) ?_; dsimp only)); refine Kd.R_lit k46 _ 46 ?hg (N := 8) ?hd (xs := ([(⟨3, (⟨#[]⟩ : ByteArray)⟩ : S46), (⟨5, (⟨#[]⟩ : ByteArray)⟩ : S46), (⟨9, (⟨#[]⟩ : ByteArray)⟩ : S46)] : List (S46))) (inner := [.int .u64 3, .string (⟨#[]⟩ : ByteArray), .int .u64 5, .string (⟨#[]⟩ : ByteArray), .int .u64 9, .string (⟨#[]⟩ : ByteArray)]) (ok := fun _ => True) (okp := fun _ => True) ?hr ?hp (fun _ hk => hk) trivial (Below.refl _ _) (Nat.le_refl _) (by simp) ?_; (case hd => rfl); (case hg => rfl); (case hr => first | (go_simp; done) | (go_simp; rfl)); (case hp => exact (Reps.c2 (show Kd.M k46 _ _ _ (⟨3, (⟨#[]⟩ : ByteArray)⟩ : S46) [.int .u64 3, .string (⟨#[]⟩ : ByteArray)] from (k46_mkM _ _ _ (⟨3, (⟨#[]⟩ : ByteArray)⟩ : S46) )) (Reps.c2 (show Kd.M k46 _ _ _ (⟨5, (⟨#[]⟩ : ByteArray)⟩ : S46) [.int .u64 5, .string (⟨#[]⟩ : ByteArray)] from (k46_mkM _ _ _ (⟨5, (⟨#[]⟩ : ByteArray)⟩ : S46) )) (Reps.c2 (show Kd.M k46 _ _ _ (⟨9, (⟨#[]⟩ : ByteArray)⟩ : S46) [.int .u64 9, .string (⟨#[]⟩ : ByteArray)] from (k46_mkM _ _ _ (⟨9, (⟨#[]⟩ : ByteArray)⟩ : S46) )) (Reps.none _ _))))); intro v126 w9 ho10 hb hg_ hnew_; clear hg_ hnew_; (first | rw [← Ny125.out] at ho10 | (simp only [Int.reduceToNat] at ho10; rw [← Ny125.out] at ho10)); have n0_ := Aside0.mk (Kd.R_lower ho10 (below_size (by repeat (first | (with_reducible first | exact HB.out | apply below_alloc | apply pw_below_drewN | apply below_drew1) | exact HB.out)))); have n1_ := Aside0.mk (below_step (by repeat (first | (with_reducible first | exact HB.out | apply below_alloc | apply pw_below_drewN | apply below_drew1) | exact HB.out)) hb); clear HB; have HO127 := n0_; have HB := n1_; clear n0_ n1_; clear hb ho10; obtain ⟨Ao11, co11, eo11⟩ := Kd.R_slice HO127.out; subst eo11) | ((with_reducible refine gate_callee (f := 24) rfl ?_); refine goesL_ (some 9) rfl rfl Tryd.func24 (by kernel_rfl) rfl #[.string (⟨#[107]⟩ : ByteArray), .slice Ao11 y125.length co11, .int .u64 6] rfl (by (try simp only [List.map_toArray, List.map_cons, List.map_nil]); first | done | rfl | (simp only [List.length_drop, List.length_take]; rfl)) ?_; (with_reducible refine (skip_Find.calls k (⟨#[107]⟩ : ByteArray) _ _ y125 6 t128 t129 t130 _ ?side1 ?side2 A1.out (Tower.tab_below HT.out (by repeat (first | (with_reducible first | exact HB.out | apply below_alloc | apply pw_below_drewN | apply below_drew1) | exact HB.out)) (Nat.le_refl _))).mono ?_); (case side1 => repeat (first | exact (Kd.R_reads' HO127.out).2.2 | (with_reducible refine Kd.C_alloc ?_ _) | (with_reducible refine Kd.C_drewN ?_ _) | (with_reducible refine Kd.C_drew ?_))); (case side2 => exact (Kd.R_reads' HO127.out).2.1); rintro e w12 ⟨v131, rfl, ho0, hb⟩; refine ⟨_, rfl, ?_⟩; have n0_ := Aside0.mk (Kd.R_below (by (with_reducible repeat (first | apply Kd.R_alloc | apply Kd.R_drewN | apply Kd.R_drew)); exact HO127.out) hb); have n1_ := Aside0.mk (Kd.R_lower ho0 (below_size (by repeat (first | (with_reducible first | exact HB.out | apply below_alloc | apply pw_below_drewN | apply below_drew1) | exact HB.out)))); have n2_ := Aside0.mk (below_step (by repeat (first | (with_reducible first | exact HB.out | apply below_alloc | apply pw_below_drewN | apply below_drew1) | exact HB.out)) hb); clear HO127; clear HB; have HO127 := n0_; have HO132 := n1_; have HB := n2_; clear n0_ n1_ n2_; (try clear hb); (try clear hb2); (try clear hk); (try clear hi); (try clear ho0)))
   go_ret
   exact ⟨by first | rfl | (simp [errW_none, errW_some] <;> rfl) | (simp [*, errW_none, errW_some] <;> rfl), by repeat (first | (with_reducible first | exact HB.out | apply below_alloc | apply pw_below_drewN | apply below_drew1) | exact HB.out)⟩
 ·rw [if_neg c2] at H
  have c2b0 : (t130 == 0) = false := beq_eq_false_iff_ne.mpr c2
  have c2b1 : (t130 != 0) = true := bne_iff_ne.mpr c2
  obtain rfl := Option.some.inj H
  go_enter Tryd.func26, Tryd.ntmps26
  go_wp2_with (first | ((with_reducible refine gate_dst (N := 8) rfl ?_); (try (refine gate_guard (by rfl) ?_; dsimp only)); refine Kd.R_lit k46 _ 46 ?hg (N := 8) ?hd (xs := ([(⟨3, (⟨#[]⟩ : ByteArray)⟩ : S46), (⟨5, (⟨#[]⟩ : ByteArray)⟩ : S46), (⟨9, (⟨#[]⟩ : ByteArray)⟩ : S46)] : List (S46))) (inner := [.int .u64 3, .string (⟨#[]⟩ : ByteArray), .int .u64 5, .string (⟨#[]⟩ : ByteArray), .int .u64 9, .string (⟨#[]⟩ : ByteArray)]) (ok := fun _ => True) (okp := fun _ => True) ?hr ?hp (fun _ hk => hk) trivial (Below.refl _ _) (Nat.le_refl _) (by simp) ?_; (case hd => rfl); (case hg => rfl); (case hr => first | (go_simp; done) | (go_simp; rfl)); (case hp => exact (Reps.c2 (show Kd.M k46 _ _ _ (⟨3, (⟨#[]⟩ : ByteArray)⟩ : S46) [.int .u64 3, .string (⟨#[]⟩ : ByteArray)] from (k46_mkM _ _ _ (⟨3, (⟨#[]⟩ : ByteArray)⟩ : S46) )) (Reps.c2 (show Kd.M k46 _ _ _ (⟨5, (⟨#[]⟩ : ByteArray)⟩ : S46) [.int .u64 5, .string (⟨#[]⟩ : ByteArray)] from (k46_mkM _ _ _ (⟨5, (⟨#[]⟩ : ByteArray)⟩ : S46) )) (Reps.c2 (show Kd.M k46 _ _ _ (⟨9, (⟨#[]⟩ : ByteArray)⟩ : S46) [.int .u64 9, .string (⟨#[]⟩ : ByteArray)] from (k46_mkM _ _ _ (⟨9, (⟨#[]⟩ : ByteArray)⟩ : S46) )) (Reps.none _ _))))); intro v126 w13 ho14 hb hg_ hnew_; clear hg_ hnew_; (first | rw [← Ny125.out] at ho14 | (simp only [Int.reduceToNat] at ho14; rw [← Ny125.out] at ho14)); have n0_ := Aside0.mk (Kd.R_lower ho14 (below_size (by repeat (first | (with_reducible first | exact HB.out | apply below_alloc | apply pw_below_drewN | apply below_drew1) | exact HB.out)))); have n1_ := Aside0.mk (below_step (by repeat (first | (with_reducible first | exact HB.out | apply below_alloc | apply pw_below_drewN | apply below_drew1) | exact HB.out)) hb); clear HB; have HO127 := n0_; have HB := n1_; clear n0_ n1_; clear hb ho14; obtain ⟨Ao15, co15, eo15⟩ := Kd.R_slice HO127.out; subst eo15) | ((with_reducible refine gate_callee (f := 24) rfl ?_); refine goesL_ (some 9) rfl rfl Tryd.func24 (by kernel_rfl) rfl #[.string (⟨#[107]⟩ : ByteArray), .slice Ao15 y125.length co15, .int .u64 6] rfl (by (try simp only [List.map_toArray, List.map_cons, List.map_nil]); first | done | rfl | (simp only [List.length_drop, List.length_take]; rfl)) ?_; (with_reducible refine (skip_Find.calls k (⟨#[107]⟩ : ByteArray) _ _ y125 6 t128 t129 t130 _ ?side1 ?side2 A1.out (Tower.tab_below HT.out (by repeat (first | (with_reducible first | exact HB.out | apply below_alloc | apply pw_below_drewN | apply below_drew1) | exact HB.out)) (Nat.le_refl _))).mono ?_); (case side1 => repeat (first | exact (Kd.R_reads' HO127.out).2.2 | (with_reducible refine Kd.C_alloc ?_ _) | (with_reducible refine Kd.C_drewN ?_ _) | (with_reducible refine Kd.C_drew ?_))); (case side2 => exact (Kd.R_reads' HO127.out).2.1); rintro e w16 ⟨v131, rfl, ho0, hb⟩; refine ⟨_, rfl, ?_⟩; have n0_ := Aside0.mk (Kd.R_below (by (with_reducible repeat (first | apply Kd.R_alloc | apply Kd.R_drewN | apply Kd.R_drew)); exact HO127.out) hb); have n1_ := Aside0.mk (Kd.R_lower ho0 (below_size (by repeat (first | (with_reducible first | exact HB.out | apply below_alloc | apply pw_below_drewN | apply below_drew1) | exact HB.out)))); have n2_ := Aside0.mk (below_step (by repeat (first | (with_reducible first | exact HB.out | apply below_alloc | apply pw_below_drewN | apply below_drew1) | exact HB.out)) hb); clear HO127; clear HB; have HO127 := n0_; have HO132 := n1_; have HB := n2_; clear n0_ n1_ n2_; (try clear hb); (try clear hb2); (try clear hk); (try clear hi); (try clear ho0)))
  go_ret
  exact ⟨by first | rfl | (simp [errW_none, errW_some] <;> rfl) | (simp [*, errW_none, errW_some] <;> rfl), by repeat (first | (with_reducible first | exact HB.out | apply below_alloc | apply pw_below_drewN | apply below_drew1) | exact HB.out)⟩
/-! ### saltusref16_Floor: function 27 -/
def saltusref16_Floor.l0 : Nat → Int → Int → List (S46) → Int → Int → Option (Int)
 | 0, _, _, _, _, _ => none
 | k + 1, x1, x5, x8, x9, x10 => if x10 < x9 then (if 0 ≤ x10 then (if x10 < (x8.length : Int) then (if ((rd_T46 x8 x10).f0) ≤ x1 then (saltusref16_Floor.l0 k x1 x10 x8 x9 (wrap64 (x10 + 1))) else (saltusref16_Floor.l0 k x1 x5 x8 x9 (wrap64 (x10 + 1)))) else (none)) else (none)) else (some x5)
def saltusref16_Floor.f (k : Nat) (l0 : List (S46)) (a1 : Int) : Option (Int) := saltusref16_Floor.l0 k a1 (-1) l0 (l0.length : Int) 0
theorem saltusref16_Floor.mono_l : ∀ k, (∀ y0 y1 y2 y3 y4, LeO (saltusref16_Floor.l0 k y0 y1 y2 y3 y4) (saltusref16_Floor.l0 (k + 1) y0 y1 y2 y3 y4))
 | 0 => fun _ _ _ _ _ r h => by simp [saltusref16_Floor.l0] at h
 | k + 1 => by
  have ih0 := saltusref16_Floor.mono_l k
  ·intro y0 y1 y2 y3 y4
   unfold saltusref16_Floor.l0
   repeat' first
   | (with_reducible exact ih0 _ _ _ _ _)
   | (with_reducible exact LeO.refl _)
   | (with_reducible exact LeO.none _)
   | (with_reducible refine LeO.ite ?_ ?_)
   | (with_reducible refine LeO.bind ?_ (fun _ => ?_))
   | exact ih0 _ _ _ _ _
   | exact LeO.none _
   | refine LeO.ite ?_ ?_
   | refine LeO.bind ?_ (fun _ => ?_)
theorem saltusref16_Floor.mono : ∀ a0 a1 k, LeO (saltusref16_Floor.f k a0 a1) (saltusref16_Floor.f (k + 1) a0 a1) := by
 intro a0 a1 k
 have ih0 := saltusref16_Floor.mono_l k
 unfold saltusref16_Floor.f
 repeat' first
   | (with_reducible exact ih0 _ _ _ _ _)
   | (with_reducible exact LeO.refl _)
   | (with_reducible exact LeO.none _)
   | (with_reducible refine LeO.ite ?_ ?_)
   | (with_reducible refine LeO.bind ?_ (fun _ => ?_))
   | exact ih0 _ _ _ _ _
   | exact LeO.none _
   | refine LeO.ite ?_ ?_
   | refine LeO.bind ?_ (fun _ => ?_)
set_option maxHeartbeats 8000000 in
set_option maxRecDepth 100000 in
theorem saltusref16_Floor.calls (k : Nat) (A0 : Option Addr) (c0 : Nat) (l0 : List (S46)) (a1 : Int) (r : Int) (w : World) (hr0 : Kd.C k46 w A0 l0.length l0) (hc0 : l0.length ≤ c0) (h : saltusref16_Floor.f k l0 a1 = some r) :
  Calls Tryd.prog 27 #[.slice A0 l0.length c0, .int .u64 a1] w fun e w' => e = .returned (.int .i64 r) ∧ Below w.heap.size w w' := by
 have hu46 := Tryd.underlying46
 have HR0 := Aside0.mk hr0
 have HC0 := Aside0.mk hc0
 clear hr0 hc0
 have HB := Aside0.mk (Below.refl w.heap.size w)
 have H : (saltusref16_Floor.l0 k a1 (-1) l0 (l0.length : Int) 0) = some r := h
 clear h
 have H' := Aside0.mk H
 clear H
 go_enter Tryd.func27, Tryd.ntmps27
 go_wp2
 go_loopg [5, 10] k (fun kq v5 v10 w' => ∃ (x5_1 : Int) (x10_1 : Int), v5 = .int .i64 x5_1 ∧ v10 = .int .i64 x10_1 ∧ Aside0 (saltusref16_Floor.l0 kq a1 x5_1 l0 (l0.length : Int) x10_1 = some r) ∧ Aside0 (kq ≤ k) ∧ Aside0 (Below w.heap.size w w'))
 case atStart => exact ⟨((-1)), (0), (by first | rfl | (simp; done) | (simp [*]; done)), (by first | rfl | (simp; done) | (simp [*]; done)), H', ⟨Nat.le_refl _⟩, ⟨by repeat (first | (with_reducible first | exact HB.out | apply below_alloc | apply pw_below_drewN | apply below_drew1) | exact HB.out)⟩⟩
 case round =>
  clear H'
  try clear c2
  try clear p2
  obtain ⟨x5_1, x10_1, rfl, rfl, HA, HK1, HB⟩ := hrel
  cases gk with
  | zero => exact absurd HA.out (by simp [saltusref16_Floor.l0])
  | succ k1 =>
   have H := HA.out
   clear HA
   simp only [saltusref16_Floor.l0] at H
   by_cases c3 : x10_1 < (l0.length : Int)
   ·rw [if_pos c3] at H
    have c3b0 : decide (x10_1 < (l0.length : Int)) = true := decide_eq_true c3
    clear c3
    by_cases c4 : 0 ≤ x10_1
    ·rw [if_pos c4] at H
     have c4b0 : decide (0 ≤ x10_1) = true := decide_eq_true c4
     clear c4
     by_cases c5 : x10_1 < (l0.length : Int)
     ·rw [if_pos c5] at H
      have c5b0 : decide (x10_1 < (l0.length : Int)) = true := decide_eq_true c5
      clear c5
      by_cases c6 : ((rd_T46 l0 x10_1).f0) ≤ a1
      ·rw [if_pos c6] at H
       have c6b0 : decide (((rd_T46 l0 x10_1).f0) ≤ a1) = true := decide_eq_true c6
       clear c6
       have H' := Aside0.mk H
       clear H
       have p133 : 0 ≤ (x10_1 : Int) := of_decide_eq_true (by first | (with_reducible assumption) | assumption)
       have q133 : x10_1 < (l0.length : Int) := of_decide_eq_true (by first | (with_reducible assumption) | assumption)
       obtain ⟨ad133, e133, hx133_0, hx133_1⟩ := at_T46 HR0.out x10_1 p133 q133
       cases e133
       replace hx133_0 := (HB.out.cell (World.block_lt_of_cell? w _ hx133_0)).trans hx133_0
       replace hx133_1 := (HB.out.cell (World.block_lt_of_cell? w _ hx133_1)).trans hx133_1
       replace p133 := eq_true p133
       replace q133 := eq_true q133
       go_wp2_with (first | ((with_reducible refine gate_dst (N := 7) rfl ?_); refine box_event ?hg (N := 7) ?hd (cs := #[.int .u64 0, .string (⟨#[]⟩ : ByteArray)]) (t := 46) ?hr ?_; (case hd => rfl); (case hg => rfl); (case hr => first | (go_simp; done) | (go_simp; rfl)); intro gb134 hg w7 hbox hb; have n0_ := Aside0.mk (below_step (by repeat (first | (with_reducible first | exact HB.out | apply below_alloc | apply pw_below_drewN | apply below_drew1) | exact HB.out)) hb); have n1_ := Aside0.mk (hbox); have n2_ := Aside0.mk ((by rw [hg]; exact (below_size (by repeat (first | (with_reducible first | exact HB.out | apply below_alloc | apply pw_below_drewN | apply below_drew1) | exact HB.out))) : w.heap.size ≤ gb134)); have n3_ := Aside0.mk ((by rw [hg]; exact (below_size (by repeat (first | (with_reducible first | exact HB.out | apply below_alloc | apply pw_below_drewN | apply below_drew1) | exact HB.out))) : w.heap.size ≤ gb134)); clear HB; have HB := n0_; have BK134 := n1_; have GW134 := n2_; have GE134 := n3_; clear n0_ n1_ n2_ n3_; clear hb hbox hg; have hcz8_0 : w7.cell? ⟨gb134, 0, none⟩ = some (.int .u64 0) := (blk_cell BK134.out 0).trans rfl; have hcz8_1 : w7.cell? ⟨gb134, 1, none⟩ = some (.string (⟨#[]⟩ : ByteArray)) := (blk_cell BK134.out 1).trans rfl; have hfz8_0 := blk_frozen BK134.out 0; have hfz8_1 := blk_frozen BK134.out 1))
       go_roundg k1
       case measure => have := HK1.out; omega
       case rel => exact ⟨(x10_1), (wrap64 (x10_1 + 1)), (by first | rfl | (simp; done) | (simp [*]; done)), (by first | rfl | (simp; done) | (simp [*]; done)), H', ⟨by have := HK1.out; omega⟩, ⟨by repeat (first | (with_reducible first | exact HB.out | apply below_alloc | apply pw_below_drewN | apply below_drew1 | refine below_set ?_ GE134.out) | exact HB.out)⟩⟩
      ·rw [if_neg c6] at H
       have c6b0 : decide (((rd_T46 l0 x10_1).f0) ≤ a1) = false := decide_eq_false c6
       clear c6
       have H' := Aside0.mk H
       clear H
       have p133 : 0 ≤ (x10_1 : Int) := of_decide_eq_true (by first | (with_reducible assumption) | assumption)
       have q133 : x10_1 < (l0.length : Int) := of_decide_eq_true (by first | (with_reducible assumption) | assumption)
       obtain ⟨ad133, e133, hx133_0, hx133_1⟩ := at_T46 HR0.out x10_1 p133 q133
       cases e133
       replace hx133_0 := (HB.out.cell (World.block_lt_of_cell? w _ hx133_0)).trans hx133_0
       replace hx133_1 := (HB.out.cell (World.block_lt_of_cell? w _ hx133_1)).trans hx133_1
       replace p133 := eq_true p133
       replace q133 := eq_true q133
       go_wp2_with (first | ((with_reducible refine gate_dst (N := 7) rfl ?_); refine box_event ?hg (N := 7) ?hd (cs := #[.int .u64 0, .string (⟨#[]⟩ : ByteArray)]) (t := 46) ?hr ?_; (case hd => rfl); (case hg => rfl); (case hr => first | (go_simp; done) | (go_simp; rfl)); intro gb134 hg w9 hbox hb; have n0_ := Aside0.mk (below_step (by repeat (first | (with_reducible first | exact HB.out | apply below_alloc | apply pw_below_drewN | apply below_drew1) | exact HB.out)) hb); have n1_ := Aside0.mk (hbox); have n2_ := Aside0.mk ((by rw [hg]; exact (below_size (by repeat (first | (with_reducible first | exact HB.out | apply below_alloc | apply pw_below_drewN | apply below_drew1) | exact HB.out))) : w.heap.size ≤ gb134)); have n3_ := Aside0.mk ((by rw [hg]; exact (below_size (by repeat (first | (with_reducible first | exact HB.out | apply below_alloc | apply pw_below_drewN | apply below_drew1) | exact HB.out))) : w.heap.size ≤ gb134)); clear HB; have HB := n0_; have BK134 := n1_; have GW134 := n2_; have GE134 := n3_; clear n0_ n1_ n2_ n3_; clear hb hbox hg; have hcz10_0 : w9.cell? ⟨gb134, 0, none⟩ = some (.int .u64 0) := (blk_cell BK134.out 0).trans rfl; have hcz10_1 : w9.cell? ⟨gb134, 1, none⟩ = some (.string (⟨#[]⟩ : ByteArray)) := (blk_cell BK134.out 1).trans rfl; have hfz10_0 := blk_frozen BK134.out 0; have hfz10_1 := blk_frozen BK134.out 1))
       go_roundg k1
       case measure => have := HK1.out; omega
       case rel => exact ⟨(x5_1), (wrap64 (x10_1 + 1)), (by first | rfl | (simp; done) | (simp [*]; done)), (by first | rfl | (simp; done) | (simp [*]; done)), H', ⟨by have := HK1.out; omega⟩, ⟨by repeat (first | (with_reducible first | exact HB.out | apply below_alloc | apply pw_below_drewN | apply below_drew1 | refine below_set ?_ GE134.out) | exact HB.out)⟩⟩
     ·rw [if_neg c5] at H
      exact absurd H (by simp)
    ·rw [if_neg c4] at H
     exact absurd H (by simp)
   ·rw [if_neg c3] at H
    have c3b0 : decide (x10_1 < (l0.length : Int)) = false := decide_eq_false c3
    clear c3
    obtain rfl := Option.some.inj H
    go_wp2
    go_ret
    exact ⟨by first | rfl | (simp [errW_none, errW_some] <;> rfl) | (simp [*, errW_none, errW_some] <;> rfl), by repeat (first | (with_reducible first | exact HB.out | apply below_alloc | apply pw_below_drewN | apply below_drew1) | exact HB.out)⟩
/-! ### saltusref16_HopsSame: function 28 -/
def saltusref16_HopsSame.l0 : Nat → List (S48) → List (S48) → Int → Int → Option (Bool)
 | 0, _, _, _, _ => none
 | k + 1, x0, x1, x12, x13 => if x13 < x12 then (if 0 ≤ x13 then (if x13 < (x0.length : Int) then (if x13 < (x1.length : Int) then (if (!(((rd_T48 x0 x13).f0) == ((rd_T48 x1 x13).f0)) || (!(((rd_T48 x0 x13).f1) == ((rd_T48 x1 x13).f1)))) = true then (some false) else (saltusref16_HopsSame.l0 k x0 x1 x12 (wrap64 (x13 + 1)))) else (none)) else (none)) else (none)) else (some true)
def saltusref16_HopsSame.f (k : Nat) (l0 : List (S48)) (l1 : List (S48)) : Option (Bool) := if (l0.length : Int) = (l1.length : Int) then (saltusref16_HopsSame.l0 k l0 l1 (l0.length : Int) 0) else (some false)
theorem saltusref16_HopsSame.mono_l : ∀ k, (∀ y0 y1 y2 y3, LeO (saltusref16_HopsSame.l0 k y0 y1 y2 y3) (saltusref16_HopsSame.l0 (k + 1) y0 y1 y2 y3))
 | 0 => fun _ _ _ _ r h => by simp [saltusref16_HopsSame.l0] at h
 | k + 1 => by
  have ih0 := saltusref16_HopsSame.mono_l k
  ·intro y0 y1 y2 y3
   unfold saltusref16_HopsSame.l0
   repeat' first
   | (with_reducible exact ih0 _ _ _ _)
   | (with_reducible exact LeO.refl _)
   | (with_reducible exact LeO.none _)
   | (with_reducible refine LeO.ite ?_ ?_)
   | (with_reducible refine LeO.bind ?_ (fun _ => ?_))
   | exact ih0 _ _ _ _
   | exact LeO.none _
   | refine LeO.ite ?_ ?_
   | refine LeO.bind ?_ (fun _ => ?_)
theorem saltusref16_HopsSame.mono : ∀ a0 a1 k, LeO (saltusref16_HopsSame.f k a0 a1) (saltusref16_HopsSame.f (k + 1) a0 a1) := by
 intro a0 a1 k
 have ih0 := saltusref16_HopsSame.mono_l k
 unfold saltusref16_HopsSame.f
 repeat' first
   | (with_reducible exact ih0 _ _ _ _)
   | (with_reducible exact LeO.refl _)
   | (with_reducible exact LeO.none _)
   | (with_reducible refine LeO.ite ?_ ?_)
   | (with_reducible refine LeO.bind ?_ (fun _ => ?_))
   | exact ih0 _ _ _ _
   | exact LeO.none _
   | refine LeO.ite ?_ ?_
   | refine LeO.bind ?_ (fun _ => ?_)
set_option maxHeartbeats 8000000 in
set_option maxRecDepth 100000 in
theorem saltusref16_HopsSame.calls (k : Nat) (A0 : Option Addr) (c0 : Nat) (l0 : List (S48)) (A1 : Option Addr) (c1 : Nat) (l1 : List (S48)) (r : Bool) (w : World) (hr0 : Kd.C k48 w A0 l0.length l0) (hc0 : l0.length ≤ c0) (hr1 : Kd.C k48 w A1 l1.length l1) (hc1 : l1.length ≤ c1) (h : saltusref16_HopsSame.f k l0 l1 = some r) :
  Calls Tryd.prog 28 #[.slice A0 l0.length c0, .slice A1 l1.length c1] w fun e w' => e = .returned (.bool r) ∧ Drawn0 w w' := by
 have hu48 := Tryd.underlying48
 have HR0 := Aside0.mk hr0
 have HC0 := Aside0.mk hc0
 clear hr0 hc0
 have HR1 := Aside0.mk hr1
 have HC1 := Aside0.mk hc1
 clear hr1 hc1
 have H : (if (l0.length : Int) = (l1.length : Int) then (saltusref16_HopsSame.l0 k l0 l1 (l0.length : Int) 0) else (some false)) = some r := h
 clear h
 by_cases c3 : (l0.length : Int) = (l1.length : Int)
 ·rw [if_pos c3] at H
  have c3b0 : ((l0.length : Int) == (l1.length : Int)) = true := beq_iff_eq.mpr c3
  have c3b1 : ((l0.length : Int) != (l1.length : Int)) = false := bne_eq_false_iff_eq.mpr c3
  have c3b2 : (l0.length == l1.length) = true := by first | simpa using c3 | (simp at c3 ⊢; omega)
  clear c3
  have H' := Aside0.mk H
  clear H
  go_enter Tryd.func28, Tryd.ntmps28
  go_wp2
  repeat (go_quiet (fail); try go_wp2)
  go_loopg [13] k (fun kq v13 w' => ∃ (x13_1 : Int), v13 = .int .i64 x13_1 ∧ Aside0 (saltusref16_HopsSame.l0 kq l0 l1 (l0.length : Int) x13_1 = some r) ∧ Aside0 (kq ≤ k) ∧ Drawn0 w w')
  case atStart => exact ⟨(0), (by first | rfl | (simp; done) | (simp [*]; done)), H', ⟨Nat.le_refl _⟩, by repeat (first | exact Drawn0.refl _ | apply Drawn0.step)⟩
  case round =>
   clear H'
   try clear c1
   try clear c2
   try clear p2
   try clear c3
   try clear c3b0
   try clear c3b1
   try clear c3b2
   obtain ⟨x13_1, rfl, HA, HK1, ⟨m1, rfl⟩⟩ := hrel
   cases gk with
   | zero => exact absurd HA.out (by simp [saltusref16_HopsSame.l0])
   | succ k1 =>
    have H := HA.out
    clear HA
    simp only [saltusref16_HopsSame.l0] at H
    by_cases c4 : x13_1 < (l0.length : Int)
    ·rw [if_pos c4] at H
     have c4b0 : decide (x13_1 < (l0.length : Int)) = true := decide_eq_true c4
     clear c4
     by_cases c5 : 0 ≤ x13_1
     ·rw [if_pos c5] at H
      have c5b0 : decide (0 ≤ x13_1) = true := decide_eq_true c5
      clear c5
      by_cases c6 : x13_1 < (l0.length : Int)
      ·rw [if_pos c6] at H
       have c6b0 : decide (x13_1 < (l0.length : Int)) = true := decide_eq_true c6
       clear c6
       by_cases c7 : x13_1 < (l1.length : Int)
       ·rw [if_pos c7] at H
        have c7b0 : decide (x13_1 < (l1.length : Int)) = true := decide_eq_true c7
        clear c7
        by_cases c8 : (!(((rd_T48 l0 x13_1).f0) == ((rd_T48 l1 x13_1).f0)) || (!(((rd_T48 l0 x13_1).f1) == ((rd_T48 l1 x13_1).f1)))) = true
        ·rw [if_pos c8] at H
         have c8b0 : (!(((rd_T48 l0 x13_1).f0) == ((rd_T48 l1 x13_1).f0)) || (!(((rd_T48 l0 x13_1).f1) == ((rd_T48 l1 x13_1).f1)))) = true := c8
         clear c8
         obtain rfl := Option.some.inj H
         have p135 : 0 ≤ (x13_1 : Int) := of_decide_eq_true (by first | (with_reducible assumption) | assumption)
         have q135 : x13_1 < (l0.length : Int) := of_decide_eq_true (by first | (with_reducible assumption) | assumption)
         obtain ⟨ad135, e135, hx135_0, hx135_1⟩ := at_T48 HR0.out x13_1 p135 q135
         cases e135
         replace p135 := eq_true p135
         replace q135 := eq_true q135
         have p136 : 0 ≤ (x13_1 : Int) := of_decide_eq_true (by first | (with_reducible assumption) | assumption)
         have q136 : x13_1 < (l1.length : Int) := of_decide_eq_true (by first | (with_reducible assumption) | assumption)
         obtain ⟨ad136, e136, hx136_0, hx136_1⟩ := at_T48 HR1.out x13_1 p136 q136
         cases e136
         replace p136 := eq_true p136
         replace q136 := eq_true q136
         go_wp2
         repeat (go_quiet (fail); try go_wp2)
         go_ret
         exact ⟨by first | rfl | (simp; done) | (simp [*]; done), by repeat (first | exact Drawn0.refl _ | apply Drawn0.step)⟩
        ·rw [if_neg c8] at H
         have c8b0 : (!(((rd_T48 l0 x13_1).f0) == ((rd_T48 l1 x13_1).f0)) || (!(((rd_T48 l0 x13_1).f1) == ((rd_T48 l1 x13_1).f1)))) = false := by simpa using c8
         clear c8
         have H' := Aside0.mk H
         clear H
         have p135 : 0 ≤ (x13_1 : Int) := of_decide_eq_true (by first | (with_reducible assumption) | assumption)
         have q135 : x13_1 < (l0.length : Int) := of_decide_eq_true (by first | (with_reducible assumption) | assumption)
         obtain ⟨ad135, e135, hx135_0, hx135_1⟩ := at_T48 HR0.out x13_1 p135 q135
         cases e135
         replace p135 := eq_true p135
         replace q135 := eq_true q135
         have p136 : 0 ≤ (x13_1 : Int) := of_decide_eq_true (by first | (with_reducible assumption) | assumption)
         have q136 : x13_1 < (l1.length : Int) := of_decide_eq_true (by first | (with_reducible assumption) | assumption)
         obtain ⟨ad136, e136, hx136_0, hx136_1⟩ := at_T48 HR1.out x13_1 p136 q136
         cases e136
         replace p136 := eq_true p136
         replace q136 := eq_true q136
         go_wp2
         repeat (go_quiet (fail); try go_wp2)
         go_roundg k1
         case measure => have := HK1.out; omega
         case rel => exact ⟨(wrap64 (x13_1 + 1)), (by first | rfl | (simp; done) | (simp [*]; done)), H', ⟨by have := HK1.out; omega⟩, by repeat (first | exact Drawn0.refl _ | apply Drawn0.step)⟩
       ·rw [if_neg c7] at H
        exact absurd H (by simp)
      ·rw [if_neg c6] at H
       exact absurd H (by simp)
     ·rw [if_neg c5] at H
      exact absurd H (by simp)
    ·rw [if_neg c4] at H
     have c4b0 : decide (x13_1 < (l0.length : Int)) = false := decide_eq_false c4
     clear c4
     obtain rfl := Option.some.inj H
     go_wp2
     repeat (go_quiet (fail); try go_wp2)
     go_ret
     exact ⟨by first | rfl | (simp; done) | (simp [*]; done), by repeat (first | exact Drawn0.refl _ | apply Drawn0.step)⟩
 ·rw [if_neg c3] at H
  have c3b0 : ((l0.length : Int) == (l1.length : Int)) = false := beq_eq_false_iff_ne.mpr c3
  have c3b1 : ((l0.length : Int) != (l1.length : Int)) = true := bne_iff_ne.mpr c3
  have c3b2 : (l0.length == l1.length) = false := by first | simpa using c3 | (simp at c3 ⊢; omega)
  obtain rfl := Option.some.inj H
  go_enter Tryd.func28, Tryd.ntmps28
  go_wp2
  repeat (go_quiet (fail); try go_wp2)
  go_ret
  exact ⟨by first | rfl | (simp; done) | (simp [*]; done), by repeat (first | exact Drawn0.refl _ | apply Drawn0.step)⟩
/-! ### saltusref15_Height: function 18 -/
def saltusref15_Height.l0 : Nat → Int → Int → Option (Int)
 | 0, _, _ => none
 | k + 1, x5, x6 => if (Int.tmod x5 2) = 0 then (if x6 < 8 then (saltusref15_Height.l0 k (IntKind.u64.wrap (Int.tdiv x5 2)) (wrap64 (x6 + 1))) else (some x6)) else (some x6)
def saltusref15_Height.f (k : Nat) (a0 : ByteArray) (a1 : Int) : Option (Int) := (saltusref02_Low.f a1 8).bind fun t137 => ((saltusref10_Word.f a0 t137).bind fun t138 => (saltusref15_Height.l0 k t138 1))
theorem saltusref15_Height.mono_l : ∀ k, (∀ y0 y1, LeO (saltusref15_Height.l0 k y0 y1) (saltusref15_Height.l0 (k + 1) y0 y1))
 | 0 => fun _ _ r h => by simp [saltusref15_Height.l0] at h
 | k + 1 => by
  have ih0 := saltusref15_Height.mono_l k
  ·intro y0 y1
   unfold saltusref15_Height.l0
   repeat' first
   | (with_reducible exact ih0 _ _)
   | (with_reducible exact LeO.refl _)
   | (with_reducible exact LeO.none _)
   | (with_reducible refine LeO.ite ?_ ?_)
   | (with_reducible refine LeO.bind ?_ (fun _ => ?_))
   | exact ih0 _ _
   | exact LeO.none _
   | refine LeO.ite ?_ ?_
   | refine LeO.bind ?_ (fun _ => ?_)
theorem saltusref15_Height.mono : ∀ a0 a1 k, LeO (saltusref15_Height.f k a0 a1) (saltusref15_Height.f (k + 1) a0 a1) := by
 intro a0 a1 k
 have ih0 := saltusref15_Height.mono_l k
 unfold saltusref15_Height.f
 repeat' first
   | (with_reducible exact ih0 _ _)
   | (with_reducible exact LeO.refl _)
   | (with_reducible exact LeO.none _)
   | (with_reducible refine LeO.ite ?_ ?_)
   | (with_reducible refine LeO.bind ?_ (fun _ => ?_))
   | exact ih0 _ _
   | exact LeO.none _
   | refine LeO.ite ?_ ?_
   | refine LeO.bind ?_ (fun _ => ?_)
set_option maxHeartbeats 8000000 in
set_option maxRecDepth 100000 in
theorem saltusref15_Height.calls (k : Nat) (a0 : ByteArray) (a1 : Int) (r : Int) (w : World) (h : saltusref15_Height.f k a0 a1 = some r) :
  Calls Tryd.prog 18 #[.string a0, .int .u64 a1] w fun e w' => e = .returned (.int .i64 r) ∧ Below w.heap.size w w' := by
 have HB := Aside0.mk (Below.refl w.heap.size w)
 have H : ((saltusref02_Low.f a1 8).bind fun t137 => ((saltusref10_Word.f a0 t137).bind fun t138 => (saltusref15_Height.l0 k t138 1))) = some r := h
 clear h
 replace H := Option.bind_eq_some_iff.mp H
 obtain ⟨t137, A30, H⟩ := H
 (try dsimp only at H)
 have A3 := Aside0.mk A30
 clear A30
 replace H := Option.bind_eq_some_iff.mp H
 obtain ⟨t138, A40, H⟩ := H
 (try dsimp only at H)
 have A4 := Aside0.mk A40
 clear A40
 have H' := Aside0.mk H
 clear H
 go_enter Tryd.func18, Tryd.ntmps18
 go_wp2_with (first | ((with_reducible refine gate_callee (f := 64) rfl ?_); refine goesL_ (some 9) rfl rfl Tryd.func64 (by kernel_rfl) rfl #[.int .u64 a1, .int .i64 8] rfl (by (try simp only [List.map_toArray, List.map_cons, List.map_nil]); first | done | rfl | (simp only [List.length_drop, List.length_take]; rfl)) ?_; (with_reducible refine (saltusref02_Low.calls a1 8 t137 _ A3.out).mono ?_); rintro e w5 ⟨rfl, hb⟩; refine ⟨_, rfl, ?_⟩; have n0_ := Aside0.mk (below_step (by repeat (first | (with_reducible first | exact HB.out | apply below_alloc | apply pw_below_drewN | apply below_drew1) | exact HB.out)) hb); clear HB; have HB := n0_; clear n0_; (try clear hb); (try clear hb2); (try clear hk); (try clear hi)) | ((with_reducible refine gate_callee (f := 63) rfl ?_); refine goesL_ (some 10) rfl rfl Tryd.func63 (by kernel_rfl) rfl #[.string a0, .string t137] rfl (by (try simp only [List.map_toArray, List.map_cons, List.map_nil]); first | done | rfl | (simp only [List.length_drop, List.length_take]; rfl)) ?_; (with_reducible refine (saltusref10_Word.calls a0 t137 t138 _ A4.out).mono ?_); rintro e w6 ⟨rfl, hb⟩; refine ⟨_, rfl, ?_⟩; have n0_ := Aside0.mk (below_step (by repeat (first | (with_reducible first | exact HB.out | apply below_alloc | apply pw_below_drewN | apply below_drew1) | exact HB.out)) hb); clear HB; have HB := n0_; clear n0_; (try clear hb); (try clear hb2); (try clear hk); (try clear hi)))
 go_loopg [5, 6] k (fun kq v5 v6 w' => ∃ (x5_1 : Int) (x6_1 : Int), v5 = .int .u64 x5_1 ∧ v6 = .int .i64 x6_1 ∧ Aside0 (saltusref15_Height.l0 kq x5_1 x6_1 = some r) ∧ Aside0 (kq ≤ k) ∧ Aside0 (Below w.heap.size w w'))
 case atStart => exact ⟨(t138), (1), (by first | rfl | (simp; done) | (simp [*]; done)), (by first | rfl | (simp; done) | (simp [*]; done)), H', ⟨Nat.le_refl _⟩, ⟨by repeat (first | (with_reducible first | exact HB.out | apply below_alloc | apply pw_below_drewN | apply below_drew1) | exact HB.out)⟩⟩
 case round =>
  clear H'
  try clear c1
  try clear p2
  try clear c6
  obtain ⟨x5_1, x6_1, rfl, rfl, HA, HK1, HB⟩ := hrel
  cases gk with
  | zero => exact absurd HA.out (by simp [saltusref15_Height.l0])
  | succ k1 =>
   have H := HA.out
   clear HA
   simp only [saltusref15_Height.l0] at H
   by_cases c7 : (Int.tmod x5_1 2) = 0
   ·rw [if_pos c7] at H
    have c7b0 : ((Int.tmod x5_1 2) == 0) = true := beq_iff_eq.mpr c7
    have c7b1 : ((Int.tmod x5_1 2) != 0) = false := bne_eq_false_iff_eq.mpr c7
    clear c7
    by_cases c8 : x6_1 < 8
    ·rw [if_pos c8] at H
     have c8b0 : decide (x6_1 < 8) = true := decide_eq_true c8
     clear c8
     have H' := Aside0.mk H
     clear H
     go_wp2
     go_roundg k1
     case measure => have := HK1.out; omega
     case rel => exact ⟨(IntKind.u64.wrap (Int.tdiv x5_1 2)), (wrap64 (x6_1 + 1)), (by first | rfl | (simp; done) | (simp [*]; done)), (by first | rfl | (simp; done) | (simp [*]; done)), H', ⟨by have := HK1.out; omega⟩, ⟨by repeat (first | (with_reducible first | exact HB.out | apply below_alloc | apply pw_below_drewN | apply below_drew1) | exact HB.out)⟩⟩
    ·rw [if_neg c8] at H
     have c8b0 : decide (x6_1 < 8) = false := decide_eq_false c8
     clear c8
     obtain rfl := Option.some.inj H
     go_wp2
     go_ret
     exact ⟨by first | rfl | (simp [errW_none, errW_some] <;> rfl) | (simp [*, errW_none, errW_some] <;> rfl), by repeat (first | (with_reducible first | exact HB.out | apply below_alloc | apply pw_below_drewN | apply below_drew1) | exact HB.out)⟩
   ·rw [if_neg c7] at H
    have c7b0 : ((Int.tmod x5_1 2) == 0) = false := beq_eq_false_iff_ne.mpr c7
    have c7b1 : ((Int.tmod x5_1 2) != 0) = true := bne_iff_ne.mpr c7
    obtain rfl := Option.some.inj H
    go_wp2
    go_ret
    exact ⟨by first | rfl | (simp [errW_none, errW_some] <;> rfl) | (simp [*, errW_none, errW_some] <;> rfl), by repeat (first | (with_reducible first | exact HB.out | apply below_alloc | apply pw_below_drewN | apply below_drew1) | exact HB.out)⟩
/-! ### saltusref15_Heights: function 21 -/
def saltusref15_Heights.l0 : Nat → ByteArray → List Int → List Int → Int → Int → Option (List Int)
 | 0, _, _, _, _, _ => none
 | k + 1, x0, x5, x9, x10, x11 => if x11 < x10 then (if 0 ≤ x11 then (if x11 < (x9.length : Int) then ((saltusref15_Height.f k x0 (rd x9 x11)).bind fun t143 => (if x5.length < 17592186044416 then (saltusref15_Heights.l0 k x0 (x5 ++ [t143]) x9 x10 (wrap64 (x11 + 1))) else (none))) else (none)) else (none)) else (some x5)
def saltusref15_Heights.f (k : Nat) (a0 : ByteArray) (l1 : List Int) : Option (List Int) := saltusref15_Heights.l0 k a0 (([] : List Int)) l1 (l1.length : Int) 0
theorem saltusref15_Heights.mono_l : ∀ k, (∀ y0 y1 y2 y3 y4, LeO (saltusref15_Heights.l0 k y0 y1 y2 y3 y4) (saltusref15_Heights.l0 (k + 1) y0 y1 y2 y3 y4))
 | 0 => fun _ _ _ _ _ r h => by simp [saltusref15_Heights.l0] at h
 | k + 1 => by
  have ih0 := saltusref15_Heights.mono_l k
  ·intro y0 y1 y2 y3 y4
   unfold saltusref15_Heights.l0
   repeat' first
   | (with_reducible exact ih0 _ _ _ _ _)
   | (with_reducible exact saltusref15_Height.mono _ _ _)
   | (with_reducible exact LeO.refl _)
   | (with_reducible exact LeO.none _)
   | (with_reducible refine LeO.ite ?_ ?_)
   | (with_reducible refine LeO.bind ?_ (fun _ => ?_))
   | exact ih0 _ _ _ _ _
   | exact saltusref15_Height.mono _ _ _
   | exact LeO.none _
   | refine LeO.ite ?_ ?_
   | refine LeO.bind ?_ (fun _ => ?_)
theorem saltusref15_Heights.mono : ∀ a0 a1 k, LeO (saltusref15_Heights.f k a0 a1) (saltusref15_Heights.f (k + 1) a0 a1) := by
 intro a0 a1 k
 have ih0 := saltusref15_Heights.mono_l k
 unfold saltusref15_Heights.f
 repeat' first
   | (with_reducible exact ih0 _ _ _ _ _)
   | (with_reducible exact saltusref15_Height.mono _ _ _)
   | (with_reducible exact LeO.refl _)
   | (with_reducible exact LeO.none _)
   | (with_reducible refine LeO.ite ?_ ?_)
   | (with_reducible refine LeO.bind ?_ (fun _ => ?_))
   | exact ih0 _ _ _ _ _
   | exact saltusref15_Height.mono _ _ _
   | exact LeO.none _
   | refine LeO.ite ?_ ?_
   | refine LeO.bind ?_ (fun _ => ?_)
set_option maxHeartbeats 8000000 in
set_option maxRecDepth 100000 in
theorem saltusref15_Heights.calls (k : Nat) (a0 : ByteArray) (A1 : Option Addr) (c1 : Nat) (l1 : List Int) (r : List Int) (w : World) (hr1 : Kd.C (Kd.int .u64) w A1 l1.length l1) (hc1 : l1.length ≤ c1) (h : saltusref15_Heights.f k a0 l1 = some r) :
  Calls Tryd.prog 21 #[.string a0, .slice A1 l1.length c1] w fun e w' => ∃ v0_ : Value, e = .returned (v0_) ∧ Kd.R (Kd.int .i64) 3 w' w.heap.size (fun _ => True) v0_ r ∧ Below w.heap.size w w' := by
 have HR1 := Aside0.mk hr1
 have HC1 := Aside0.mk hc1
 clear hr1 hc1
 have HB := Aside0.mk (Below.refl w.heap.size w)
 have H : (saltusref15_Heights.l0 k a0 (([] : List Int)) l1 (l1.length : Int) 0) = some r := h
 clear h
 obtain ⟨y139, hy139⟩ : ∃ y_ : List Int, y_ = (([] : List Int)) := ⟨_, rfl⟩
 replace H : (saltusref15_Heights.l0 k a0 y139 l1 (l1.length : Int) 0) = some r := by first | (rw [hy139]; with_reducible exact H) | (have H2_ := (Option.bind_some _ _).symm.trans H; rw [hy139]; with_reducible exact H2_) | (have H2_ := (Option.bind_some _ _).symm.trans H; with_reducible exact H2_) | with_reducible exact H | (rw [hy139]; exact H) | exact H
 have Ny139 := Aside0.mk hy139
 clear hy139
 have H' := Aside0.mk H
 clear H
 go_enter Tryd.func21, Tryd.ntmps21
 go_wp2_with (first | ((with_reducible refine gate_dst (N := 8) rfl ?_); refine Kd.R_lit (Kd.int .i64) _ 3 ?hg (N := 8) ?hd (xs := ([] : List Int)) (inner := []) (ok := fun _ => True) (okp := fun _ => True) ?hr ?hp (fun _ hk => hk) trivial (Below.refl _ _) (Nat.le_refl _) (by simp) ?_; (case hd => rfl); (case hg => rfl); (case hr => first | (go_simp; done) | (go_simp; rfl)); (case hp => exact (Reps.none _ _)); intro v140 w3 ho4 hb hg_ hnew_; clear hg_ hnew_; (first | rw [← Ny139.out] at ho4 | (simp only [Int.reduceToNat] at ho4; rw [← Ny139.out] at ho4)); have n0_ := Aside0.mk (Kd.R_lower ho4 (below_size (by repeat (first | (with_reducible first | exact HB.out | apply below_alloc | apply pw_below_drewN | apply below_drew1) | exact HB.out)))); have n1_ := Aside0.mk (below_step (by repeat (first | (with_reducible first | exact HB.out | apply below_alloc | apply pw_below_drewN | apply below_drew1) | exact HB.out)) hb); clear HB; have HO141 := n0_; have HB := n1_; clear n0_ n1_; clear hb ho4))
 go_loopg [5, 11] k (fun kq v5 v11 w' => ∃ (x5_1 : List Int) (x11_1 : Int), v11 = .int .i64 x11_1 ∧ Aside0 (saltusref15_Heights.l0 kq a0 x5_1 l1 (l1.length : Int) x11_1 = some r) ∧ Aside0 (kq ≤ k) ∧ Aside0 (Kd.R (Kd.int .i64) 3 w' w.heap.size (fun _ => True) v5 x5_1) ∧ Aside0 (Below w.heap.size w w'))
 case atStart => exact ⟨(y139), (0), (by first | rfl | (simp; done) | (simp [*]; done)), H', ⟨Nat.le_refl _⟩, ⟨by (with_reducible repeat (first | apply Kd.R_alloc | apply Kd.R_drewN | apply Kd.R_drew)); exact HO141.out⟩, ⟨by repeat (first | (with_reducible first | exact HB.out | apply below_alloc | apply pw_below_drewN | apply below_drew1) | exact HB.out)⟩⟩
 case round =>
  clear H'
  try clear c1
  try clear c2
  try clear p2
  obtain ⟨x5_1, x11_1, rfl, HA, HK1, HO_5, HB⟩ := hrel
  cases gk with
  | zero => exact absurd HA.out (by simp [saltusref15_Heights.l0])
  | succ k1 =>
   have H := HA.out
   clear HA
   simp only [saltusref15_Heights.l0] at H
   by_cases c5 : x11_1 < (l1.length : Int)
   ·rw [if_pos c5] at H
    have c5b0 : decide (x11_1 < (l1.length : Int)) = true := decide_eq_true c5
    clear c5
    by_cases c6 : 0 ≤ x11_1
    ·rw [if_pos c6] at H
     have c6b0 : decide (0 ≤ x11_1) = true := decide_eq_true c6
     clear c6
     by_cases c7 : x11_1 < (l1.length : Int)
     ·rw [if_pos c7] at H
      have c7b0 : decide (x11_1 < (l1.length : Int)) = true := decide_eq_true c7
      clear c7
      replace H := Option.bind_eq_some_iff.mp H
      obtain ⟨t143, A80, H⟩ := H
      (try dsimp only at H)
      have A8 := Aside0.mk A80
      clear A80
      by_cases c9 : x5_1.length < 17592186044416
      ·rw [if_pos c9] at H
       have LMc9 := Aside0.mk c9
       clear c9
       obtain ⟨y144, hy144⟩ : ∃ y_ : List Int, y_ = (x5_1 ++ [t143]) := ⟨_, rfl⟩
       replace H : (saltusref15_Heights.l0 k1 a0 y144 l1 (l1.length : Int) (wrap64 (x11_1 + 1))) = some r := by first | (rw [hy144]; with_reducible exact H) | (have H2_ := (Option.bind_some _ _).symm.trans H; rw [hy144]; with_reducible exact H2_) | (have H2_ := (Option.bind_some _ _).symm.trans H; with_reducible exact H2_) | with_reducible exact H | (rw [hy144]; exact H) | exact H
       have Ny144 := Aside0.mk hy144
       clear hy144
       have H' := Aside0.mk H
       clear H
       have p142 : 0 ≤ (x11_1 : Int) := of_decide_eq_true (by first | (with_reducible assumption) | assumption)
       have q142 : x11_1 < (l1.length : Int) := of_decide_eq_true (by first | (with_reducible assumption) | assumption)
       obtain ⟨ad142, e142, hx142_0⟩ := Kd.at_int HR1.out x11_1 p142 q142
       cases e142
       replace hx142_0 := (HB.out.cell (World.block_lt_of_cell? w _ hx142_0)).trans hx142_0
       replace p142 := eq_true p142
       replace q142 := eq_true q142
       go_wp2_with (first | ((with_reducible refine gate_callee (f := 18) rfl ?_); refine goesL_ (some 18) rfl rfl Tryd.func18 (by kernel_rfl) rfl #[.string a0, .int .u64 (rd l1 x11_1)] rfl (by (try simp only [List.map_toArray, List.map_cons, List.map_nil]); first | done | rfl | (simp only [List.length_drop, List.length_take]; rfl)) ?_; (with_reducible refine (saltusref15_Height.calls k1 a0 (rd l1 x11_1) t143 _ A8.out).mono ?_); rintro e w10 ⟨rfl, hb⟩; refine ⟨_, rfl, ?_⟩; have n0_ := Aside0.mk (Kd.R_below (by (with_reducible repeat (first | apply Kd.R_alloc | apply Kd.R_drewN | apply Kd.R_drew)); exact HO_5.out) hb); have n1_ := Aside0.mk (below_step (by repeat (first | (with_reducible first | exact HB.out | apply below_alloc | apply pw_below_drewN | apply below_drew1) | exact HB.out)) hb); clear HO_5; clear HB; have HO_5 := n0_; have HB := n1_; clear n0_ n1_; (try clear hb); (try clear hb2); (try clear hk); (try clear hi)) | ((with_reducible refine gate_builtin (b := .append) (xs := #[.tmp 15, .tmp 19]) rfl ?_); at_builtin; refine Kd.R_append (Kd.int .i64) (w0 := w) w.heap.size rfl (.tmp 15) (.tmp 19) 27 3 (.int .i64 0) 8 rfl Tryd.underlying27 info3 rfl (by decide) (by omega) u5 x5_1 t143 [.int .i64 t143] (fun _ => True) (fun _ => False) rfl rfl ?aP (fun _ hk => hk.elim) ?aF ?aO ?aB ?aS ?aL ?_; (case aP => exact rfl); (case aB => exact (by repeat (first | (with_reducible first | exact HB.out | apply below_alloc | apply pw_below_drewN | apply below_drew1) | exact HB.out))); (case aF => exact (fun _ _ => trivial)); (case aO => exact (by (with_reducible repeat (first | apply Kd.R_alloc | apply Kd.R_drewN | apply Kd.R_drew)); exact HO_5.out)); (case aS => exact (below_size (by repeat (first | (with_reducible first | exact HB.out | apply below_alloc | apply pw_below_drewN | apply below_drew1) | exact HB.out)))); (case aL => have := LMc9.out; omega); intro v145 w11 ho hb hg hat; rw [← Ny144.out] at ho; have n0_ := Aside0.mk (hb); have n1_ := Aside0.mk (ho); clear HB; clear HO_5; have HB := n0_; have HO146 := n1_; clear n0_ n1_; clear ho hb hg hat))
       go_roundg k1
       case measure => have := HK1.out; omega
       case rel => exact ⟨(y144), (wrap64 (x11_1 + 1)), (by first | rfl | (simp; done) | (simp [*]; done)), H', ⟨by have := HK1.out; omega⟩, ⟨by (with_reducible repeat (first | apply Kd.R_alloc | apply Kd.R_drewN | apply Kd.R_drew)); exact HO146.out⟩, ⟨by repeat (first | (with_reducible first | exact HB.out | apply below_alloc | apply pw_below_drewN | apply below_drew1) | exact HB.out)⟩⟩
      ·rw [if_neg c9] at H
       exact absurd H (by simp)
     ·rw [if_neg c7] at H
      exact absurd H (by simp)
    ·rw [if_neg c6] at H
     exact absurd H (by simp)
   ·rw [if_neg c5] at H
    have c5b0 : decide (x11_1 < (l1.length : Int)) = false := decide_eq_false c5
    clear c5
    obtain rfl := Option.some.inj H
    go_wp2
    go_ret
    exact ⟨_, by first | rfl | (simp [errW_none, errW_some] <;> rfl) | (simp [*, errW_none, errW_some] <;> rfl), by (with_reducible repeat (first | apply Kd.R_alloc | apply Kd.R_drewN | apply Kd.R_drew)); exact HO_5.out, by repeat (first | (with_reducible first | exact HB.out | apply below_alloc | apply pw_below_drewN | apply below_drew1) | exact HB.out)⟩
end Go.Proofs.YtolbhliepkcihaaDoor.QSF
end
section
namespace Go.Proofs.YtolbhliepkcihaaDoor.QSF
open Go.RowKit Go.Proofs.YtolbhliepkcihaaDoor.Kinds Go.Proofs.YtolbhliepkcihaaDoorW.PrintWords Go.Proofs.YtolbhliepkcihaaDoorW.PrintLast Go.Proofs.YtolbhliepkcihaaDoorW.PrintMore
attribute [local go_sem] max2_int min2_int max_two min_two max_three min_three max_four min_four   -- for this text's walks alone
set_option linter.unusedVariables false
set_option linter.unusedSimpArgs false
/-! ### saltusref16_Keys: function 66 -/
def saltusref16_Keys.l0 : Nat → List Int → List (S46) → Int → Int → Option (List Int)
 | 0, _, _, _, _ => none
 | k + 1, x3, x7, x8, x9 => if x9 < x8 then (if 0 ≤ x9 then (if x9 < (x7.length : Int) then (if x3.length < 17592186044416 then (saltusref16_Keys.l0 k (x3 ++ [(rd_T46 x7 x9).f0]) x7 x8 (wrap64 (x9 + 1))) else (none)) else (none)) else (none)) else (some x3)
def saltusref16_Keys.f (k : Nat) (l0 : List (S46)) : Option (List Int) := saltusref16_Keys.l0 k (([] : List Int)) l0 (l0.length : Int) 0
theorem saltusref16_Keys.mono_l : ∀ k, (∀ y0 y1 y2 y3, LeO (saltusref16_Keys.l0 k y0 y1 y2 y3) (saltusref16_Keys.l0 (k + 1) y0 y1 y2 y3))
 | 0 => fun _ _ _ _ r h => by simp [saltusref16_Keys.l0] at h
 | k + 1 => by
  have ih0 := saltusref16_Keys.mono_l k
  ·intro y0 y1 y2 y3
   unfold saltusref16_Keys.l0
   repeat' first
   | (with_reducible exact ih0 _ _ _ _)
   | (with_reducible exact LeO.refl _)
   | (with_reducible exact LeO.none _)
   | (with_reducible refine LeO.ite ?_ ?_)
   | (with_reducible refine LeO.bind ?_ (fun _ => ?_))
   | exact ih0 _ _ _ _
   | exact LeO.none _
   | refine LeO.ite ?_ ?_
   | refine LeO.bind ?_ (fun _ => ?_)
theorem saltusref16_Keys.mono : ∀ a0 k, LeO (saltusref16_Keys.f k a0) (saltusref16_Keys.f (k + 1) a0) := by
 intro a0 k
 have ih0 := saltusref16_Keys.mono_l k
 unfold saltusref16_Keys.f
 repeat' first
   | (with_reducible exact ih0 _ _ _ _)
   | (with_reducible exact LeO.refl _)
   | (with_reducible exact LeO.none _)
   | (with_reducible refine LeO.ite ?_ ?_)
   | (with_reducible refine LeO.bind ?_ (fun _ => ?_))
   | exact ih0 _ _ _ _
   | exact LeO.none _
   | refine LeO.ite ?_ ?_
   | refine LeO.bind ?_ (fun _ => ?_)
set_option maxHeartbeats 8000000 in
set_option maxRecDepth 100000 in
theorem saltusref16_Keys.calls (k : Nat) (A0 : Option Addr) (c0 : Nat) (l0 : List (S46)) (r : List Int) (w : World) (hr0 : Kd.C k46 w A0 l0.length l0) (hc0 : l0.length ≤ c0) (h : saltusref16_Keys.f k l0 = some r) :
  Calls Tryd.prog 66 #[.slice A0 l0.length c0] w fun e w' => ∃ v0_ : Value, e = .returned (v0_) ∧ Kd.R (Kd.int .u64) 22 w' w.heap.size (fun _ => True) v0_ r ∧ Below w.heap.size w w' := by
 have hu46 := Tryd.underlying46
 have HR0 := Aside0.mk hr0
 have HC0 := Aside0.mk hc0
 clear hr0 hc0
 have HB := Aside0.mk (Below.refl w.heap.size w)
 have H : (saltusref16_Keys.l0 k (([] : List Int)) l0 (l0.length : Int) 0) = some r := h
 clear h
 obtain ⟨y147, hy147⟩ : ∃ y_ : List Int, y_ = (([] : List Int)) := ⟨_, rfl⟩
 replace H : (saltusref16_Keys.l0 k y147 l0 (l0.length : Int) 0) = some r := by first | (rw [hy147]; with_reducible exact H) | (have H2_ := (Option.bind_some _ _).symm.trans H; rw [hy147]; with_reducible exact H2_) | (have H2_ := (Option.bind_some _ _).symm.trans H; with_reducible exact H2_) | with_reducible exact H | (rw [hy147]; exact H) | exact H
 have Ny147 := Aside0.mk hy147
 clear hy147
 have H' := Aside0.mk H
 clear H
 go_enter Tryd.func66, Tryd.ntmps66
 go_wp2_with (first | ((with_reducible refine gate_dst (N := 6) rfl ?_); refine Kd.R_lit (Kd.int .u64) _ 22 ?hg (N := 6) ?hd (xs := ([] : List Int)) (inner := []) (ok := fun _ => True) (okp := fun _ => True) ?hr ?hp (fun _ hk => hk) trivial (Below.refl _ _) (Nat.le_refl _) (by simp) ?_; (case hd => rfl); (case hg => rfl); (case hr => first | (go_simp; done) | (go_simp; rfl)); (case hp => exact (Reps.none _ _)); intro v148 w2 ho3 hb hg_ hnew_; clear hg_ hnew_; (first | rw [← Ny147.out] at ho3 | (simp only [Int.reduceToNat] at ho3; rw [← Ny147.out] at ho3)); have n0_ := Aside0.mk (Kd.R_lower ho3 (below_size (by repeat (first | (with_reducible first | exact HB.out | apply below_alloc | apply pw_below_drewN | apply below_drew1) | exact HB.out)))); have n1_ := Aside0.mk (below_step (by repeat (first | (with_reducible first | exact HB.out | apply below_alloc | apply pw_below_drewN | apply below_drew1) | exact HB.out)) hb); clear HB; have HO149 := n0_; have HB := n1_; clear n0_ n1_; clear hb ho3))
 go_loopg [3, 9] k (fun kq v3 v9 w' => ∃ (x3_1 : List Int) (x9_1 : Int), v9 = .int .i64 x9_1 ∧ Aside0 (saltusref16_Keys.l0 kq x3_1 l0 (l0.length : Int) x9_1 = some r) ∧ Aside0 (kq ≤ k) ∧ Aside0 (Kd.R (Kd.int .u64) 22 w' w.heap.size (fun _ => True) v3 x3_1) ∧ Aside0 (Below w.heap.size w w'))
 case atStart => exact ⟨(y147), (0), (by first | rfl | (simp; done) | (simp [*]; done)), H', ⟨Nat.le_refl _⟩, ⟨by (with_reducible repeat (first | apply Kd.R_alloc | apply Kd.R_drewN | apply Kd.R_drew)); exact HO149.out⟩, ⟨by repeat (first | (with_reducible first | exact HB.out | apply below_alloc | apply pw_below_drewN | apply below_drew1) | exact HB.out)⟩⟩
 case round =>
  clear H'
  try clear p2
  obtain ⟨x3_1, x9_1, rfl, HA, HK1, HO_3, HB⟩ := hrel
  cases gk with
  | zero => exact absurd HA.out (by simp [saltusref16_Keys.l0])
  | succ k1 =>
   have H := HA.out
   clear HA
   simp only [saltusref16_Keys.l0] at H
   by_cases c4 : x9_1 < (l0.length : Int)
   ·rw [if_pos c4] at H
    have c4b0 : decide (x9_1 < (l0.length : Int)) = true := decide_eq_true c4
    clear c4
    by_cases c5 : 0 ≤ x9_1
    ·rw [if_pos c5] at H
     have c5b0 : decide (0 ≤ x9_1) = true := decide_eq_true c5
     clear c5
     by_cases c6 : x9_1 < (l0.length : Int)
     ·rw [if_pos c6] at H
      have c6b0 : decide (x9_1 < (l0.length : Int)) = true := decide_eq_true c6
      clear c6
      by_cases c7 : x3_1.length < 17592186044416
      ·rw [if_pos c7] at H
       have LMc7 := Aside0.mk c7
       clear c7
       obtain ⟨y152, hy152⟩ : ∃ y_ : List Int, y_ = (x3_1 ++ [(rd_T46 l0 x9_1).f0]) := ⟨_, rfl⟩
       replace H : (saltusref16_Keys.l0 k1 y152 l0 (l0.length : Int) (wrap64 (x9_1 + 1))) = some r := by first | (rw [hy152]; with_reducible exact H) | (have H2_ := (Option.bind_some _ _).symm.trans H; rw [hy152]; with_reducible exact H2_) | (have H2_ := (Option.bind_some _ _).symm.trans H; with_reducible exact H2_) | with_reducible exact H | (rw [hy152]; exact H) | exact H
       have Ny152 := Aside0.mk hy152
       clear hy152
       have H' := Aside0.mk H
       clear H
       have p150 : 0 ≤ (x9_1 : Int) := of_decide_eq_true (by first | (with_reducible assumption) | assumption)
       have q150 : x9_1 < (l0.length : Int) := of_decide_eq_true (by first | (with_reducible assumption) | assumption)
       obtain ⟨ad150, e150, hx150_0, hx150_1⟩ := at_T46 HR0.out x9_1 p150 q150
       cases e150
       replace hx150_0 := (HB.out.cell (World.block_lt_of_cell? w _ hx150_0)).trans hx150_0
       replace hx150_1 := (HB.out.cell (World.block_lt_of_cell? w _ hx150_1)).trans hx150_1
       replace p150 := eq_true p150
       replace q150 := eq_true q150
       go_wp2_with (first | ((with_reducible refine gate_dst (N := 5) rfl ?_); refine box_event ?hg (N := 5) ?hd (cs := #[.int .u64 0, .string (⟨#[]⟩ : ByteArray)]) (t := 46) ?hr ?_; (case hd => rfl); (case hg => rfl); (case hr => first | (go_simp; done) | (go_simp; rfl)); intro gb151 hg w8 hbox hb; have n0_ := Aside0.mk (Kd.R_below (by (with_reducible repeat (first | apply Kd.R_alloc | apply Kd.R_drewN | apply Kd.R_drew)); exact HO_3.out) hb); have n1_ := Aside0.mk (below_step (by repeat (first | (with_reducible first | exact HB.out | apply below_alloc | apply pw_below_drewN | apply below_drew1) | exact HB.out)) hb); have n2_ := Aside0.mk (hbox); have n3_ := Aside0.mk ((by rw [hg]; exact (below_size (by repeat (first | (with_reducible first | exact HB.out | apply below_alloc | apply pw_below_drewN | apply below_drew1) | exact HB.out))) : w.heap.size ≤ gb151)); have n4_ := Aside0.mk ((by rw [hg]; exact (below_size (by repeat (first | (with_reducible first | exact HB.out | apply below_alloc | apply pw_below_drewN | apply below_drew1) | exact HB.out))) : w.heap.size ≤ gb151)); clear HO_3; clear HB; have HO_3 := n0_; have HB := n1_; have BK151 := n2_; have GW151 := n3_; have GE151 := n4_; clear n0_ n1_ n2_ n3_ n4_; clear hb hbox hg; have hcz9_0 : w8.cell? ⟨gb151, 0, none⟩ = some (.int .u64 0) := (blk_cell BK151.out 0).trans rfl; have hcz9_1 : w8.cell? ⟨gb151, 1, none⟩ = some (.string (⟨#[]⟩ : ByteArray)) := (blk_cell BK151.out 1).trans rfl; have hfz9_0 := blk_frozen BK151.out 0; have hfz9_1 := blk_frozen BK151.out 1) | ((with_reducible refine gate_builtin (b := .append) (xs := #[.tmp 13, .tmp 16]) rfl ?_); at_builtin; refine Kd.R_append (Kd.int .u64) (w0 := w) w.heap.size rfl (.tmp 13) (.tmp 16) 23 22 (.int .u64 0) 8 rfl Tryd.underlying23 info22 rfl (by decide) (by omega) u3 x3_1 ((rd_T46 l0 x9_1).f0) [.int .u64 ((rd_T46 l0 x9_1).f0)] (fun _ => True) (fun _ => False) rfl (by first | (go_simp; done) | (go_simp; rfl)) ?aP (fun _ hk => hk.elim) ?aF ?aO ?aB ?aS ?aL ?_; (case aP => exact rfl); (case aB => exact (by repeat (first | (with_reducible first | exact HB.out | apply below_alloc | apply pw_below_drewN | apply below_drew1 | refine below_set ?_ GE151.out) | exact HB.out))); (case aF => exact (fun _ _ => trivial)); (case aO => exact (by (with_reducible repeat (first | apply Kd.R_alloc | apply Kd.R_drewN | apply Kd.R_drew)); exact Kd.R_mono (Kd.R_far (p := ⟨gb151, 1, none⟩) (Kd.R_far (p := ⟨gb151, 0, none⟩) (Kd.R_types HO_3.out BK151.out (by decide)) (fun _ hk => hk.2) (.int .u64 ((rd_T46 l0 x9_1).f0))) (fun _ hk => hk.2) (.string ((rd_T46 l0 x9_1).f1))) (fun _ hk => trivial))); (case aS => exact (below_size (by repeat (first | (with_reducible first | exact HB.out | apply below_alloc | apply pw_below_drewN | apply below_drew1 | refine below_set ?_ GE151.out) | exact HB.out)))); (case aL => have := LMc7.out; omega); intro v153 w10 ho hb hg hat; rw [← Ny152.out] at ho; have n0_ := Aside0.mk (blk_grown (g := gb151) (o := .cells #[.int .u64 ((rd_T46 l0 x9_1).f0), .string ((rd_T46 l0 x9_1).f1)] 46 (0, 0)) (by (with_reducible repeat (first | refine blk_drewN ?_ _ | refine blk_drew ?_ | refine blk_alloc ?_ _)); refine blk_put (cs := #[.int .u64 ((rd_T46 l0 x9_1).f0), .string (⟨#[]⟩ : ByteArray)]) ?_ 1 _ rfl; (with_reducible repeat (first | refine blk_drewN ?_ _ | refine blk_drew ?_ | refine blk_alloc ?_ _)); refine blk_put (cs := #[.int .u64 0, .string (⟨#[]⟩ : ByteArray)]) ?_ 0 _ rfl; (with_reducible repeat (first | refine blk_drewN ?_ _ | refine blk_drew ?_ | refine blk_alloc ?_ _)); exact BK151.out) hg (Kd.R_ne HO_3.out BK151.out (by decide))); have n1_ := Aside0.mk (hb); have n2_ := Aside0.mk (ho); clear BK151; clear HB; clear HO_3; have BK151 := n0_; have HB := n1_; have HO154 := n2_; clear n0_ n1_ n2_; clear ho hb hg hat))
       go_roundg k1
       case measure => have := HK1.out; omega
       case rel => exact ⟨(y152), (wrap64 (x9_1 + 1)), (by first | rfl | (simp; done) | (simp [*]; done)), H', ⟨by have := HK1.out; omega⟩, ⟨by (with_reducible repeat (first | apply Kd.R_alloc | apply Kd.R_drewN | apply Kd.R_drew)); exact HO154.out⟩, ⟨by repeat (first | (with_reducible first | exact HB.out | apply below_alloc | apply pw_below_drewN | apply below_drew1 | refine below_set ?_ GE151.out) | exact HB.out)⟩⟩
      ·rw [if_neg c7] at H
       exact absurd H (by simp)
     ·rw [if_neg c6] at H
      exact absurd H (by simp)
    ·rw [if_neg c5] at H
     exact absurd H (by simp)
   ·rw [if_neg c4] at H
    have c4b0 : decide (x9_1 < (l0.length : Int)) = false := decide_eq_false c4
    clear c4
    obtain rfl := Option.some.inj H
    go_wp2
    go_ret
    exact ⟨_, by first | rfl | (simp [errW_none, errW_some] <;> rfl) | (simp [*, errW_none, errW_some] <;> rfl), by (with_reducible repeat (first | apply Kd.R_alloc | apply Kd.R_drewN | apply Kd.R_drew)); exact HO_3.out, by repeat (first | (with_reducible first | exact HB.out | apply below_alloc | apply pw_below_drewN | apply below_drew1) | exact HB.out)⟩
/-! ### saltusref16_next: function 67 -/
def saltusref16_next.l0 : Nat → List Int → Int → Int → Option (Int)
 | 0, _, _, _ => none
 | k + 1, x0, x2, x7 => if x7 < (x0.length : Int) then (if 0 ≤ x7 then (if (rd x0 x7) > x2 then (some x7) else (saltusref16_next.l0 k x0 x2 (wrap64 (x7 + 1)))) else (none)) else (some (x0.length : Int))
def saltusref16_next.f (k : Nat) (l0 : List Int) (a1 : Int) (a2 : Int) : Option (Int) := saltusref16_next.l0 k l0 a2 (wrap64 (a1 + 1))
theorem saltusref16_next.mono_l : ∀ k, (∀ y0 y1 y2, LeO (saltusref16_next.l0 k y0 y1 y2) (saltusref16_next.l0 (k + 1) y0 y1 y2))
 | 0 => fun _ _ _ r h => by simp [saltusref16_next.l0] at h
 | k + 1 => by
  have ih0 := saltusref16_next.mono_l k
  ·intro y0 y1 y2
   unfold saltusref16_next.l0
   repeat' first
   | (with_reducible exact ih0 _ _ _)
   | (with_reducible exact LeO.refl _)
   | (with_reducible exact LeO.none _)
   | (with_reducible refine LeO.ite ?_ ?_)
   | (with_reducible refine LeO.bind ?_ (fun _ => ?_))
   | exact ih0 _ _ _
   | exact LeO.none _
   | refine LeO.ite ?_ ?_
   | refine LeO.bind ?_ (fun _ => ?_)
theorem saltusref16_next.mono : ∀ a0 a1 a2 k, LeO (saltusref16_next.f k a0 a1 a2) (saltusref16_next.f (k + 1) a0 a1 a2) := by
 intro a0 a1 a2 k
 have ih0 := saltusref16_next.mono_l k
 unfold saltusref16_next.f
 repeat' first
   | (with_reducible exact ih0 _ _ _)
   | (with_reducible exact LeO.refl _)
   | (with_reducible exact LeO.none _)
   | (with_reducible refine LeO.ite ?_ ?_)
   | (with_reducible refine LeO.bind ?_ (fun _ => ?_))
   | exact ih0 _ _ _
   | exact LeO.none _
   | refine LeO.ite ?_ ?_
   | refine LeO.bind ?_ (fun _ => ?_)
set_option maxHeartbeats 8000000 in
set_option maxRecDepth 100000 in
theorem saltusref16_next.calls (k : Nat) (A0 : Option Addr) (c0 : Nat) (l0 : List Int) (a1 : Int) (a2 : Int) (r : Int) (w : World) (hr0 : Kd.C (Kd.int .i64) w A0 l0.length l0) (hc0 : l0.length ≤ c0) (h : saltusref16_next.f k l0 a1 a2 = some r) :
  Calls Tryd.prog 67 #[.slice A0 l0.length c0, .int .i64 a1, .int .i64 a2] w fun e w' => e = .returned (.int .i64 r) ∧ Drawn0 w w' := by
 have HR0 := Aside0.mk hr0
 have HC0 := Aside0.mk hc0
 clear hr0 hc0
 have H : (saltusref16_next.l0 k l0 a2 (wrap64 (a1 + 1))) = some r := h
 clear h
 have H' := Aside0.mk H
 clear H
 go_enter Tryd.func67, Tryd.ntmps67
 go_wp2
 go_loopg [7] k (fun kq v7 w' => ∃ (x7_1 : Int), v7 = .int .i64 x7_1 ∧ Aside0 (saltusref16_next.l0 kq l0 a2 x7_1 = some r) ∧ Aside0 (kq ≤ k) ∧ Drawn0 w w')
 case atStart => exact ⟨(wrap64 (a1 + 1)), (by first | rfl | (simp; done) | (simp [*]; done)), H', ⟨Nat.le_refl _⟩, by repeat (first | exact Drawn0.refl _ | apply Drawn0.step)⟩
 case round =>
  clear H'
  try clear p2
  obtain ⟨x7_1, rfl, HA, HK1, ⟨m1, rfl⟩⟩ := hrel
  cases gk with
  | zero => exact absurd HA.out (by simp [saltusref16_next.l0])
  | succ k1 =>
   have H := HA.out
   clear HA
   simp only [saltusref16_next.l0] at H
   by_cases c4 : x7_1 < (l0.length : Int)
   ·rw [if_pos c4] at H
    have c4b0 : decide (x7_1 < (l0.length : Int)) = true := decide_eq_true c4
    clear c4
    by_cases c5 : 0 ≤ x7_1
    ·rw [if_pos c5] at H
     have c5b0 : decide (0 ≤ x7_1) = true := decide_eq_true c5
     clear c5
     by_cases c6 : (rd l0 x7_1) > a2
     ·rw [if_pos c6] at H
      have c6b0 : decide (a2 < (rd l0 x7_1)) = true := decide_eq_true c6
      clear c6
      obtain rfl := Option.some.inj H
      have p155 : 0 ≤ (x7_1 : Int) := of_decide_eq_true (by first | (with_reducible assumption) | assumption)
      have q155 : x7_1 < (l0.length : Int) := of_decide_eq_true (by first | (with_reducible assumption) | assumption)
      obtain ⟨ad155, e155, hx155_0⟩ := Kd.at_int HR0.out x7_1 p155 q155
      cases e155
      replace p155 := eq_true p155
      replace q155 := eq_true q155
      go_wp2
      go_ret
      exact ⟨by first | rfl | (simp; done) | (simp [*]; done), by repeat (first | exact Drawn0.refl _ | apply Drawn0.step)⟩
     ·rw [if_neg c6] at H
      have c6b0 : decide (a2 < (rd l0 x7_1)) = false := decide_eq_false c6
      clear c6
      have H' := Aside0.mk H
      clear H
      have p155 : 0 ≤ (x7_1 : Int) := of_decide_eq_true (by first | (with_reducible assumption) | assumption)
      have q155 : x7_1 < (l0.length : Int) := of_decide_eq_true (by first | (with_reducible assumption) | assumption)
      obtain ⟨ad155, e155, hx155_0⟩ := Kd.at_int HR0.out x7_1 p155 q155
      cases e155
      replace p155 := eq_true p155
      replace q155 := eq_true q155
      go_wp2
      go_roundg k1
      case measure => have := HK1.out; omega
      case rel => exact ⟨(wrap64 (x7_1 + 1)), (by first | rfl | (simp; done) | (simp [*]; done)), H', ⟨by have := HK1.out; omega⟩, by repeat (first | exact Drawn0.refl _ | apply Drawn0.step)⟩
    ·rw [if_neg c5] at H
     exact absurd H (by simp)
   ·rw [if_neg c4] at H
    have c4b0 : decide (x7_1 < (l0.length : Int)) = false := decide_eq_false c4
    clear c4
    obtain rfl := Option.some.inj H
    go_wp2
    go_ret
    exact ⟨by first | rfl | (simp; done) | (simp [*]; done), by repeat (first | exact Drawn0.refl _ | apply Drawn0.step)⟩
/-! ### saltusref16_Hops: function 29 -/
mutual
def saltusref16_Hops.l0 : Nat → List (S46) → Int → List (S48) → Int → List Int → Int → Option ((List (S48)))
 | 0, _, _, _, _, _, _ => none
 | k + 1, x1, x2, x7, x8, x9, x10 => if x10 ≥ 0 then (saltusref16_Hops.l1 k x1 x2 x7 x8 x9 x10) else (some x7)
def saltusref16_Hops.l1 : Nat → List (S46) → Int → List (S48) → Int → List Int → Int → Option ((List (S48)))
 | 0, _, _, _, _, _, _ => none
 | k + 1, x1, x2, x7, x8, x9, x10 => (saltusref16_next.f k x9 x8 x10).bind fun t165 => (if t165 < (x1.length : Int) then ((saltusref16_next.f k x9 x8 x10).bind fun t166 => (if 0 ≤ t166 then (if t166 < (x1.length : Int) then (if ((rd_T46 x1 t166).f0) ≤ x2 then ((saltusref16_next.f k x9 x8 x10).bind fun t168 => (if x7.length < 8796093022208 then (saltusref16_Hops.l1 k x1 x2 (x7 ++ [(⟨x10, t168⟩ : S48)]) t168 x9 x10) else (none))) else (saltusref16_Hops.l0 k x1 x2 x7 x8 x9 (wrap64 (x10 - 1)))) else (none)) else (none))) else (saltusref16_Hops.l0 k x1 x2 x7 x8 x9 (wrap64 (x10 - 1))))
end
def saltusref16_Hops.f (k : Nat) (a0 : ByteArray) (l1 : List (S46)) (a2 : Int) : Option ((List (S48))) := (saltusref16_Keys.f k l1).bind fun t159 => ((saltusref15_Heights.f k a0 t159).bind fun t162 => (saltusref16_Hops.l0 k l1 a2 (([] : List (S48))) (-1) t162 7))
theorem saltusref16_Hops.mono_l : ∀ k, (∀ y0 y1 y2 y3 y4 y5, LeO (saltusref16_Hops.l0 k y0 y1 y2 y3 y4 y5) (saltusref16_Hops.l0 (k + 1) y0 y1 y2 y3 y4 y5)) ∧ (∀ y0 y1 y2 y3 y4 y5, LeO (saltusref16_Hops.l1 k y0 y1 y2 y3 y4 y5) (saltusref16_Hops.l1 (k + 1) y0 y1 y2 y3 y4 y5))
 | 0 => ⟨fun _ _ _ _ _ _ r h => by simp [saltusref16_Hops.l0] at h, fun _ _ _ _ _ _ r h => by simp [saltusref16_Hops.l1] at h⟩
 | k + 1 => by
  obtain ⟨ih0, ih1⟩ := saltusref16_Hops.mono_l k
  refine ⟨?_, ?_⟩
  ·intro y0 y1 y2 y3 y4 y5
   unfold saltusref16_Hops.l0
   repeat' first
   | (with_reducible exact ih0 _ _ _ _ _ _)
   | (with_reducible exact ih1 _ _ _ _ _ _)
   | (with_reducible exact saltusref15_Heights.mono _ _ _)
   | (with_reducible exact saltusref16_Keys.mono _ _)
   | (with_reducible exact saltusref16_next.mono _ _ _ _)
   | (with_reducible exact LeO.refl _)
   | (with_reducible exact LeO.none _)
   | (with_reducible refine LeO.ite ?_ ?_)
   | (with_reducible refine LeO.bind ?_ (fun _ => ?_))
   | exact ih0 _ _ _ _ _ _
   | exact ih1 _ _ _ _ _ _
   | exact saltusref15_Heights.mono _ _ _
   | exact saltusref16_Keys.mono _ _
   | exact saltusref16_next.mono _ _ _ _
   | exact LeO.none _
   | refine LeO.ite ?_ ?_
   | refine LeO.bind ?_ (fun _ => ?_)
  ·intro y0 y1 y2 y3 y4 y5
   unfold saltusref16_Hops.l1
   repeat' first
   | (with_reducible exact ih0 _ _ _ _ _ _)
   | (with_reducible exact ih1 _ _ _ _ _ _)
   | (with_reducible exact saltusref15_Heights.mono _ _ _)
   | (with_reducible exact saltusref16_Keys.mono _ _)
   | (with_reducible exact saltusref16_next.mono _ _ _ _)
   | (with_reducible exact LeO.refl _)
   | (with_reducible exact LeO.none _)
   | (with_reducible refine LeO.ite ?_ ?_)
   | (with_reducible refine LeO.bind ?_ (fun _ => ?_))
   | exact ih0 _ _ _ _ _ _
   | exact ih1 _ _ _ _ _ _
   | exact saltusref15_Heights.mono _ _ _
   | exact saltusref16_Keys.mono _ _
   | exact saltusref16_next.mono _ _ _ _
   | exact LeO.none _
   | refine LeO.ite ?_ ?_
   | refine LeO.bind ?_ (fun _ => ?_)
theorem saltusref16_Hops.mono : ∀ a0 a1 a2 k, LeO (saltusref16_Hops.f k a0 a1 a2) (saltusref16_Hops.f (k + 1) a0 a1 a2) := by
 intro a0 a1 a2 k
 obtain ⟨ih0, ih1⟩ := saltusref16_Hops.mono_l k
 unfold saltusref16_Hops.f
 repeat' first
   | (with_reducible exact ih0 _ _ _ _ _ _)
   | (with_reducible exact ih1 _ _ _ _ _ _)
   | (with_reducible exact saltusref15_Heights.mono _ _ _)
   | (with_reducible exact saltusref16_Keys.mono _ _)
   | (with_reducible exact saltusref16_next.mono _ _ _ _)
   | (with_reducible exact LeO.refl _)
   | (with_reducible exact LeO.none _)
   | (with_reducible refine LeO.ite ?_ ?_)
   | (with_reducible refine LeO.bind ?_ (fun _ => ?_))
   | exact ih0 _ _ _ _ _ _
   | exact ih1 _ _ _ _ _ _
   | exact saltusref15_Heights.mono _ _ _
   | exact saltusref16_Keys.mono _ _
   | exact saltusref16_next.mono _ _ _ _
   | exact LeO.none _
   | refine LeO.ite ?_ ?_
   | refine LeO.bind ?_ (fun _ => ?_)
set_option maxHeartbeats 8000000 in
set_option maxRecDepth 100000 in
theorem saltusref16_Hops.calls (k : Nat) (a0 : ByteArray) (A1 : Option Addr) (c1 : Nat) (l1 : List (S46)) (a2 : Int) (r : List (S48)) (w : World) (hr1 : Kd.C k46 w A1 l1.length l1) (hc1 : l1.length ≤ c1) (h : saltusref16_Hops.f k a0 l1 a2 = some r) :
  Calls Tryd.prog 29 #[.string a0, .slice A1 l1.length c1, .int .u64 a2] w fun e w' => ∃ v0_ : Value, e = .returned (v0_) ∧ Kd.R k48 48 w' w.heap.size (fun _ => True) v0_ r ∧ Below w.heap.size w w' := by
 have hu48 := Tryd.underlying48
 have HR1 := Aside0.mk hr1
 have HC1 := Aside0.mk hc1
 clear hr1 hc1
 have HB := Aside0.mk (Below.refl w.heap.size w)
 have H : ((saltusref16_Keys.f k l1).bind fun t159 => ((saltusref15_Heights.f k a0 t159).bind fun t162 => (saltusref16_Hops.l0 k l1 a2 (([] : List (S48))) (-1) t162 7))) = some r := h
 clear h
 obtain ⟨y156, hy156⟩ : ∃ y_ : List (S48), y_ = (([] : List (S48))) := ⟨_, rfl⟩
 replace H : ((saltusref16_Keys.f k l1).bind fun t159 => ((saltusref15_Heights.f k a0 t159).bind fun t162 => (saltusref16_Hops.l0 k l1 a2 y156 (-1) t162 7))) = some r := by first | (rw [hy156]; with_reducible exact H) | (have H2_ := (Option.bind_some _ _).symm.trans H; rw [hy156]; with_reducible exact H2_) | (have H2_ := (Option.bind_some _ _).symm.trans H; with_reducible exact H2_) | with_reducible exact H | (rw [hy156]; exact H) | exact H
 have Ny156 := Aside0.mk hy156
 clear hy156
 replace H := Option.bind_eq_some_iff.mp H
 obtain ⟨t159, A40, H⟩ := H
 (try dsimp only at H)
 have A4 := Aside0.mk A40
 clear A40
 replace H := Option.bind_eq_some_iff.mp H
 obtain ⟨t162, A50, H⟩ := H
 (try dsimp only at H)
 have A5 := Aside0.mk A50
 clear A50
 have H' := Aside0.mk H
 clear H
 go_enter Tryd.func29, Tryd.ntmps29
 go_wp2_with (first | ((with_reducible refine gate_dst (N := 11) rfl ?_); refine Kd.R_lit k48 _ 48 ?hg (N := 11) ?hd (xs := ([] : List (S48))) (inner := []) (ok := fun _ => True) (okp := fun _ => True) ?hr ?hp (fun _ hk => hk) trivial (Below.refl _ _) (Nat.le_refl _) (by simp) ?_; (case hd => rfl); (case hg => rfl); (case hr => first | (go_simp; done) | (go_simp; rfl)); (case hp => exact (Reps.none _ _)); intro v157 w6 ho7 hb hg_ hnew_; clear hg_ hnew_; (first | rw [← Ny156.out] at ho7 | (simp only [Int.reduceToNat] at ho7; rw [← Ny156.out] at ho7)); have n0_ := Aside0.mk (Kd.R_lower ho7 (below_size (by repeat (first | (with_reducible first | exact HB.out | apply below_alloc | apply pw_below_drewN | apply below_drew1) | exact HB.out)))); have n1_ := Aside0.mk (below_step (by repeat (first | (with_reducible first | exact HB.out | apply below_alloc | apply pw_below_drewN | apply below_drew1) | exact HB.out)) hb); clear HB; have HO158 := n0_; have HB := n1_; clear n0_ n1_; clear hb ho7) | ((with_reducible refine gate_callee (f := 66) rfl ?_); refine goesL_ (some 14) rfl rfl Tryd.func66 (by kernel_rfl) rfl #[.slice A1 l1.length c1] rfl (by (try simp only [List.map_toArray, List.map_cons, List.map_nil]); first | done | rfl | (simp only [List.length_drop, List.length_take]; rfl)) ?_; (with_reducible refine (saltusref16_Keys.calls k _ _ l1 t159 _ ?side1 ?side2 A4.out).mono ?_); (case side1 => repeat (first | exact (Kd.C_below HR1.out HB.out) | (with_reducible refine Kd.C_alloc ?_ _) | (with_reducible refine Kd.C_drewN ?_ _) | (with_reducible refine Kd.C_drew ?_))); (case side2 => exact HC1.out); rintro e w8 ⟨v160, rfl, ho0, hb⟩; refine ⟨_, rfl, ?_⟩; have n0_ := Aside0.mk (Kd.R_below (by (with_reducible repeat (first | apply Kd.R_alloc | apply Kd.R_drewN | apply Kd.R_drew)); exact HO158.out) hb); have n1_ := Aside0.mk (Kd.R_lower ho0 (below_size (by repeat (first | (with_reducible first | exact HB.out | apply below_alloc | apply pw_below_drewN | apply below_drew1) | exact HB.out)))); have n2_ := Aside0.mk (below_step (by repeat (first | (with_reducible first | exact HB.out | apply below_alloc | apply pw_below_drewN | apply below_drew1) | exact HB.out)) hb); clear HO158; clear HB; have HO158 := n0_; have HO161 := n1_; have HB := n2_; clear n0_ n1_ n2_; (try clear hb); (try clear hb2); (try clear hk); (try clear hi); (try clear ho0); obtain ⟨Ao9, co9, eo9⟩ := Kd.R_slice HO161.out; subst eo9) | ((with_reducible refine gate_callee (f := 21) rfl ?_); refine goesL_ (some 15) rfl rfl Tryd.func21 (by kernel_rfl) rfl #[.string a0, .slice Ao9 t159.length co9] rfl (by (try simp only [List.map_toArray, List.map_cons, List.map_nil]); first | done | rfl | (simp only [List.length_drop, List.length_take]; rfl)) ?_; (with_reducible refine (saltusref15_Heights.calls k a0 _ _ t159 t162 _ ?side1 ?side2 A5.out).mono ?_); (case side1 => repeat (first | exact (Kd.R_reads' HO161.out).2.2 | (with_reducible refine Kd.C_alloc ?_ _) | (with_reducible refine Kd.C_drewN ?_ _) | (with_reducible refine Kd.C_drew ?_))); (case side2 => exact (Kd.R_reads' HO161.out).2.1); rintro e w10 ⟨v163, rfl, ho0, hb⟩; refine ⟨_, rfl, ?_⟩; have n0_ := Aside0.mk (Kd.R_below (by (with_reducible repeat (first | apply Kd.R_alloc | apply Kd.R_drewN | apply Kd.R_drew)); exact HO158.out) hb); have n1_ := Aside0.mk (Kd.R_below (by (with_reducible repeat (first | apply Kd.R_alloc | apply Kd.R_drewN | apply Kd.R_drew)); exact HO161.out) hb); have n2_ := Aside0.mk (Kd.R_lower ho0 (below_size (by repeat (first | (with_reducible first | exact HB.out | apply below_alloc | apply pw_below_drewN | apply below_drew1) | exact HB.out)))); have n3_ := Aside0.mk (below_step (by repeat (first | (with_reducible first | exact HB.out | apply below_alloc | apply pw_below_drewN | apply below_drew1) | exact HB.out)) hb); clear HO158; clear HO161; clear HB; have HO158 := n0_; have HO161 := n1_; have HO164 := n2_; have HB := n3_; clear n0_ n1_ n2_ n3_; (try clear hb); (try clear hb2); (try clear hk); (try clear hi); (try clear ho0)))
 go_loopg [7, 8, 10] k (fun kq v7 v8 v10 w' => ∃ (x7_1 : List (S48)) (x8_1 : Int) (x10_1 : Int), v8 = .int .i64 x8_1 ∧ v10 = .int .i64 x10_1 ∧ Aside0 (saltusref16_Hops.l0 kq l1 a2 x7_1 x8_1 t162 x10_1 = some r) ∧ Aside0 (kq ≤ k) ∧ Aside0 (Kd.R k48 48 w' w.heap.size (fun _ => True) v7 x7_1) ∧ Aside0 (Kd.R (Kd.int .i64) 3 w' w.heap.size (fun _ => True) v163 t162) ∧ Aside0 (Below w.heap.size w w'))
 case atStart => exact ⟨(y156), ((-1)), (7), (by first | rfl | (simp; done) | (simp [*]; done)), (by first | rfl | (simp; done) | (simp [*]; done)), H', ⟨Nat.le_refl _⟩, ⟨by (with_reducible repeat (first | apply Kd.R_alloc | apply Kd.R_drewN | apply Kd.R_drew)); exact HO158.out⟩, ⟨by (with_reducible repeat (first | apply Kd.R_alloc | apply Kd.R_drewN | apply Kd.R_drew)); exact HO164.out⟩, ⟨by repeat (first | (with_reducible first | exact HB.out | apply below_alloc | apply pw_below_drewN | apply below_drew1) | exact HB.out)⟩⟩
 case round =>
  clear H'
  try clear c1
  try clear c2
  try clear p2
  try clear c6
  obtain ⟨x7_1, x8_1, x10_1, rfl, rfl, HA, HK1, HO_7, HO_9, HB⟩ := hrel
  cases gk with
  | zero => exact absurd HA.out (by simp [saltusref16_Hops.l0])
  | succ k1 =>
   have H := HA.out
   clear HA
   simp only [saltusref16_Hops.l0] at H
   by_cases c11 : x10_1 ≥ 0
   ·rw [if_pos c11] at H
    have c11b0 : decide (0 ≤ x10_1) = true := decide_eq_true c11
    clear c11
    have H' := Aside0.mk H
    clear H
    go_wp2
    go_loopg [7, 8] k1 (fun kq v7 v8 w' => ∃ (x7_2 : List (S48)) (x8_2 : Int), v8 = .int .i64 x8_2 ∧ Aside0 (saltusref16_Hops.l1 kq l1 a2 x7_2 x8_2 t162 x10_1 = some r) ∧ Aside0 (kq ≤ k1) ∧ Aside0 (Kd.R k48 48 w' w.heap.size (fun _ => True) v7 x7_2) ∧ Aside0 (Kd.R (Kd.int .i64) 3 w' w.heap.size (fun _ => True) v163 t162) ∧ Aside0 (Below w.heap.size w w'))
    case atStart => exact ⟨(x7_1), (x8_1), (by first | rfl | (simp; done) | (simp [*]; done)), H', ⟨Nat.le_refl _⟩, ⟨by (with_reducible repeat (first | apply Kd.R_alloc | apply Kd.R_drewN | apply Kd.R_drew)); exact HO_7.out⟩, ⟨by (with_reducible repeat (first | apply Kd.R_alloc | apply Kd.R_drewN | apply Kd.R_drew)); exact HO_9.out⟩, ⟨by repeat (first | (with_reducible first | exact HB.out | apply below_alloc | apply pw_below_drewN | apply below_drew1) | exact HB.out)⟩⟩
    case round =>
     clear H'
     try clear c1
     try clear c2
     try clear p2
     try clear c6
     try clear c11
     try clear c11b0
     try clear p2
     obtain ⟨x7_2, x8_2, rfl, HA, HK2, HO_7, HO_9, HB⟩ := hrel
     cases gk with
     | zero => exact absurd HA.out (by simp [saltusref16_Hops.l1])
     | succ k2 =>
      have H := HA.out
      clear HA
      simp only [saltusref16_Hops.l1] at H
      replace H := Option.bind_eq_some_iff.mp H
      obtain ⟨t165, A120, H⟩ := H
      (try dsimp only at H)
      have A12 := Aside0.mk A120
      clear A120
      by_cases c13 : t165 < (l1.length : Int)
      ·rw [if_pos c13] at H
       have c13b0 : decide (t165 < (l1.length : Int)) = true := decide_eq_true c13
       clear c13
       replace H := Option.bind_eq_some_iff.mp H
       obtain ⟨t166, A140, H⟩ := H
       (try dsimp only at H)
       have A14 := Aside0.mk A140
       clear A140
       by_cases c15 : 0 ≤ t166
       ·rw [if_pos c15] at H
        have c15b0 : decide (0 ≤ t166) = true := decide_eq_true c15
        clear c15
        by_cases c16 : t166 < (l1.length : Int)
        ·rw [if_pos c16] at H
         have c16b0 : decide (t166 < (l1.length : Int)) = true := decide_eq_true c16
         clear c16
         by_cases c17 : ((rd_T46 l1 t166).f0) ≤ a2
         ·rw [if_pos c17] at H
          have c17b0 : decide (((rd_T46 l1 t166).f0) ≤ a2) = true := decide_eq_true c17
          clear c17
          replace H := Option.bind_eq_some_iff.mp H
          obtain ⟨t168, A180, H⟩ := H
          (try dsimp only at H)
          have A18 := Aside0.mk A180
          clear A180
          obtain rfl : t166 = t168 := Option.some.inj (A14.out.symm.trans A18.out)
          by_cases c19 : x7_2.length < 8796093022208
          ·rw [if_pos c19] at H
           have LMc19 := Aside0.mk c19
           clear c19
           obtain ⟨y169, hy169⟩ : ∃ y_ : List (S48), y_ = (x7_2 ++ [(⟨x10_1, t166⟩ : S48)]) := ⟨_, rfl⟩
           replace H : (saltusref16_Hops.l1 k2 l1 a2 y169 t166 t162 x10_1) = some r := by first | (rw [hy169]; with_reducible exact H) | (have H2_ := (Option.bind_some _ _).symm.trans H; rw [hy169]; with_reducible exact H2_) | (have H2_ := (Option.bind_some _ _).symm.trans H; with_reducible exact H2_) | with_reducible exact H | (rw [hy169]; exact H) | exact H
           have Ny169 := Aside0.mk hy169
           clear hy169
           have H' := Aside0.mk H
           clear H
           obtain ⟨Ao20, co20, eo20⟩ := Kd.R_slice HO_9.out
           subst eo20
           go_wp2_with (first | ((with_reducible refine gate_callee (f := 67) rfl ?_); refine goesL_ (some 23) rfl rfl Tryd.func67 (by kernel_rfl) rfl #[.slice Ao20 t162.length co20, .int .i64 x8_2, .int .i64 x10_1] rfl (by (try simp only [List.map_toArray, List.map_cons, List.map_nil]); first | done | rfl | (simp only [List.length_drop, List.length_take]; rfl)) ?_; (with_reducible refine (saltusref16_next.calls k2 _ _ t162 x8_2 x10_1 t165 _ ?side1 ?side2 A12.out).mono ?_); (case side1 => repeat (first | exact (Kd.R_reads' HO_9.out).2.2 | (with_reducible refine Kd.C_alloc ?_ _) | (with_reducible refine Kd.C_drewN ?_ _) | (with_reducible refine Kd.C_drew ?_))); (case side2 => exact (Kd.R_reads' HO_9.out).2.1); rintro e w' ⟨rfl, ⟨nd, rfl⟩⟩; refine ⟨_, rfl, ?_⟩) | (go_at_call 67; (with_reducible refine (saltusref16_next.calls k2 _ _ t162 x8_2 x10_1 t166 _ ?side1 ?side2 A14.out).mono ?_); (case side1 => repeat (first | exact (Kd.R_reads' HO_9.out).2.2 | (with_reducible refine Kd.C_alloc ?_ _) | (with_reducible refine Kd.C_drewN ?_ _) | (with_reducible refine Kd.C_drew ?_))); (case side2 => exact (Kd.R_reads' HO_9.out).2.1); rintro e w' ⟨rfl, ⟨nd, rfl⟩⟩; have p167 : 0 ≤ (t166 : Int) := of_decide_eq_true (by first | (with_reducible assumption) | assumption); have q167 : t166 < (l1.length : Int) := of_decide_eq_true (by first | (with_reducible assumption) | assumption); obtain ⟨ad167, e167, hx167_0, hx167_1⟩ := at_T46 HR1.out t166 p167 q167; cases e167; replace hx167_0 := (HB.out.cell (World.block_lt_of_cell? w _ hx167_0)).trans hx167_0; replace hx167_1 := (HB.out.cell (World.block_lt_of_cell? w _ hx167_1)).trans hx167_1; replace p167 := eq_true p167; replace q167 := eq_true q167) | ((with_reducible refine gate_callee (f := 67) rfl ?_); refine goesL_ (some 42) rfl rfl Tryd.func67 (by kernel_rfl) rfl #[.slice Ao20 t162.length co20, .int .i64 x8_2, .int .i64 x10_1] rfl (by (try simp only [List.map_toArray, List.map_cons, List.map_nil]); first | done | rfl | (simp only [List.length_drop, List.length_take]; rfl)) ?_; (with_reducible refine (saltusref16_next.calls k2 _ _ t162 x8_2 x10_1 t166 _ ?side1 ?side2 A18.out).mono ?_); (case side1 => repeat (first | exact (Kd.R_reads' HO_9.out).2.2 | (with_reducible refine Kd.C_alloc ?_ _) | (with_reducible refine Kd.C_drewN ?_ _) | (with_reducible refine Kd.C_drew ?_))); (case side2 => exact (Kd.R_reads' HO_9.out).2.1); rintro e w' ⟨rfl, ⟨nd, rfl⟩⟩; refine ⟨_, rfl, ?_⟩) | ((with_reducible refine gate_builtin (b := .append) (xs := #[.tmp 43, .tmp 47]) rfl ?_); at_builtin; refine Kd.R_append k48 (w0 := w) w.heap.size rfl (.tmp 43) (.tmp 47) 37 48 (.agg #[(.int .i64 0), (.int .i64 0)]) 16 rfl Tryd.underlying37 info48 rfl (by decide) (by omega) u7 x7_2 (⟨x10_1, t166⟩ : S48) [.int .i64 x10_1, .int .i64 t166] (fun _ => True) (fun _ => False) rfl rfl ?aP (fun _ hk => hk.elim) ?aF ?aO ?aB ?aS ?aL ?_; (case aP => exact k48_mkM _ _ _ (⟨x10_1, t166⟩ : S48)); (case aB => exact (by repeat (first | (with_reducible first | exact HB.out | apply below_alloc | apply pw_below_drewN | apply below_drew1) | exact HB.out))); (case aF => exact (fun _ _ => trivial)); (case aO => exact (by (with_reducible repeat (first | apply Kd.R_alloc | apply Kd.R_drewN | apply Kd.R_drew)); exact HO_7.out)); (case aS => exact (below_size (by repeat (first | (with_reducible first | exact HB.out | apply below_alloc | apply pw_below_drewN | apply below_drew1) | exact HB.out)))); (case aL => have := LMc19.out; omega); intro v170 w21 ho hb hg hat; rw [← Ny169.out] at ho; have n0_ := Aside0.mk (Kd.R_over' (by (with_reducible repeat (first | apply Kd.R_alloc | apply Kd.R_drewN | apply Kd.R_drew)); exact HO_9.out) (Kd.R_typed (by (with_reducible repeat (first | apply Kd.R_alloc | apply Kd.R_drewN | apply Kd.R_drew)); exact HO_7.out)) (by decide) hg); have n1_ := Aside0.mk (hb); have n2_ := Aside0.mk (ho); clear HO_9; clear HB; clear HO_7; have HO_9 := n0_; have HB := n1_; have HO171 := n2_; clear n0_ n1_ n2_; clear ho hb hg hat))
           go_roundg k2
           case measure => have := HK1.out; have := HK2.out; omega
           case rel => exact ⟨(y169), (t166), (by first | rfl | (simp; done) | (simp [*]; done)), H', ⟨by have := HK1.out; have := HK2.out; omega⟩, ⟨by (with_reducible repeat (first | apply Kd.R_alloc | apply Kd.R_drewN | apply Kd.R_drew)); exact HO171.out⟩, ⟨by (with_reducible repeat (first | apply Kd.R_alloc | apply Kd.R_drewN | apply Kd.R_drew)); exact HO_9.out⟩, ⟨by repeat (first | (with_reducible first | exact HB.out | apply below_alloc | apply pw_below_drewN | apply below_drew1) | exact HB.out)⟩⟩
          ·rw [if_neg c19] at H
           exact absurd H (by simp)
         ·rw [if_neg c17] at H
          have c17b0 : decide (((rd_T46 l1 t166).f0) ≤ a2) = false := decide_eq_false c17
          clear c17
          have H' := Aside0.mk H
          clear H
          obtain ⟨Ao22, co22, eo22⟩ := Kd.R_slice HO_9.out
          subst eo22
          go_wp2_with (first | ((with_reducible refine gate_callee (f := 67) rfl ?_); refine goesL_ (some 23) rfl rfl Tryd.func67 (by kernel_rfl) rfl #[.slice Ao22 t162.length co22, .int .i64 x8_2, .int .i64 x10_1] rfl (by (try simp only [List.map_toArray, List.map_cons, List.map_nil]); first | done | rfl | (simp only [List.length_drop, List.length_take]; rfl)) ?_; (with_reducible refine (saltusref16_next.calls k2 _ _ t162 x8_2 x10_1 t165 _ ?side1 ?side2 A12.out).mono ?_); (case side1 => repeat (first | exact (Kd.R_reads' HO_9.out).2.2 | (with_reducible refine Kd.C_alloc ?_ _) | (with_reducible refine Kd.C_drewN ?_ _) | (with_reducible refine Kd.C_drew ?_))); (case side2 => exact (Kd.R_reads' HO_9.out).2.1); rintro e w' ⟨rfl, ⟨nd, rfl⟩⟩; refine ⟨_, rfl, ?_⟩) | (go_at_call 67; (with_reducible refine (saltusref16_next.calls k2 _ _ t162 x8_2 x10_1 t166 _ ?side1 ?side2 A14.out).mono ?_); (case side1 => repeat (first | exact (Kd.R_reads' HO_9.out).2.2 | (with_reducible refine Kd.C_alloc ?_ _) | (with_reducible refine Kd.C_drewN ?_ _) | (with_reducible refine Kd.C_drew ?_))); (case side2 => exact (Kd.R_reads' HO_9.out).2.1); rintro e w' ⟨rfl, ⟨nd, rfl⟩⟩; have p167 : 0 ≤ (t166 : Int) := of_decide_eq_true (by first | (with_reducible assumption) | assumption); have q167 : t166 < (l1.length : Int) := of_decide_eq_true (by first | (with_reducible assumption) | assumption); obtain ⟨ad167, e167, hx167_0, hx167_1⟩ := at_T46 HR1.out t166 p167 q167; cases e167; replace hx167_0 := (HB.out.cell (World.block_lt_of_cell? w _ hx167_0)).trans hx167_0; replace hx167_1 := (HB.out.cell (World.block_lt_of_cell? w _ hx167_1)).trans hx167_1; replace p167 := eq_true p167; replace q167 := eq_true q167))
          go_roundg k2
          case measure => have := HK1.out; have := HK2.out; omega
          case rel => exact ⟨(x7_2), (x8_2), (wrap64 (x10_1 - 1)), (by first | rfl | (simp; done) | (simp [*]; done)), (by first | rfl | (simp; done) | (simp [*]; done)), H', ⟨by have := HK1.out; have := HK2.out; omega⟩, ⟨by (with_reducible repeat (first | apply Kd.R_alloc | apply Kd.R_drewN | apply Kd.R_drew)); exact HO_7.out⟩, ⟨by (with_reducible repeat (first | apply Kd.R_alloc | apply Kd.R_drewN | apply Kd.R_drew)); exact HO_9.out⟩, ⟨by repeat (first | (with_reducible first | exact HB.out | apply below_alloc | apply pw_below_drewN | apply below_drew1) | exact HB.out)⟩⟩
        ·rw [if_neg c16] at H
         exact absurd H (by simp)
       ·rw [if_neg c15] at H
        exact absurd H (by simp)
      ·rw [if_neg c13] at H
       have c13b0 : decide (t165 < (l1.length : Int)) = false := decide_eq_false c13
       clear c13
       have H' := Aside0.mk H
       clear H
       obtain ⟨Ao23, co23, eo23⟩ := Kd.R_slice HO_9.out
       subst eo23
       go_wp2_with (first | ((with_reducible refine gate_callee (f := 67) rfl ?_); refine goesL_ (some 23) rfl rfl Tryd.func67 (by kernel_rfl) rfl #[.slice Ao23 t162.length co23, .int .i64 x8_2, .int .i64 x10_1] rfl (by (try simp only [List.map_toArray, List.map_cons, List.map_nil]); first | done | rfl | (simp only [List.length_drop, List.length_take]; rfl)) ?_; (with_reducible refine (saltusref16_next.calls k2 _ _ t162 x8_2 x10_1 t165 _ ?side1 ?side2 A12.out).mono ?_); (case side1 => repeat (first | exact (Kd.R_reads' HO_9.out).2.2 | (with_reducible refine Kd.C_alloc ?_ _) | (with_reducible refine Kd.C_drewN ?_ _) | (with_reducible refine Kd.C_drew ?_))); (case side2 => exact (Kd.R_reads' HO_9.out).2.1); rintro e w' ⟨rfl, ⟨nd, rfl⟩⟩; refine ⟨_, rfl, ?_⟩))
       go_roundg k2
       case measure => have := HK1.out; have := HK2.out; omega
       case rel => exact ⟨(x7_2), (x8_2), (wrap64 (x10_1 - 1)), (by first | rfl | (simp; done) | (simp [*]; done)), (by first | rfl | (simp; done) | (simp [*]; done)), H', ⟨by have := HK1.out; have := HK2.out; omega⟩, ⟨by (with_reducible repeat (first | apply Kd.R_alloc | apply Kd.R_drewN | apply Kd.R_drew)); exact HO_7.out⟩, ⟨by (with_reducible repeat (first | apply Kd.R_alloc | apply Kd.R_drewN | apply Kd.R_drew)); exact HO_9.out⟩, ⟨by repeat (first | (with_reducible first | exact HB.out | apply below_alloc | apply pw_below_drewN | apply below_drew1) | exact HB.out)⟩⟩
   ·rw [if_neg c11] at H
    have c11b0 : decide (0 ≤ x10_1) = false := decide_eq_false c11
    clear c11
    obtain rfl := Option.some.inj H
    go_wp2
    go_ret
    exact ⟨_, by first | rfl | (simp [errW_none, errW_some] <;> rfl) | (simp [*, errW_none, errW_some] <;> rfl), by (with_reducible repeat (first | apply Kd.R_alloc | apply Kd.R_drewN | apply Kd.R_drew)); exact HO_7.out, by repeat (first | (with_reducible first | exact HB.out | apply below_alloc | apply pw_below_drewN | apply below_drew1) | exact HB.out)⟩
/-! ### saltuslaw16_SkipFinds: function 6 -/
def saltuslaw16_SkipFinds.j0 : Nat → ByteArray → List (S46) → Int → Int → List (S48) → Int → Bool → Option (Bool)
 | 0, _, _, _, _, _, _, _ => none
 | k + 1, x0, x1, x2, x7, x8, x9, x10 => (saltusref16_Right.f k x1).bind fun t181 => (if t181 = true then ((saltusref16_Floor.f k x1 x2).bind fun t183 => (if t183 < 0 then ((saltuslaw16_alive.f k).bind fun t184 => (if t184 = true then (if x9 = 3 then (some x10) else (some false)) else (some false))) else ((saltuslaw16_alive.f k).bind fun t185 => (if t185 = true then (if x9 = 0 then ((saltusref16_Floor.f k x1 x2).bind fun t186 => (if x7 = t186 then ((saltusref16_Hops.f k x0 x1 x2).bind fun t187 => ((saltusref16_HopsSame.f k x8 t187).bind fun t190 => (some t190))) else (some false))) else (some false)) else (some false))))) else ((saltuslaw16_alive.f k).bind fun t182 => (if t182 = true then (if x9 = 1 then (some x10) else (some false)) else (some false))))
def saltuslaw16_SkipFinds.f (k : Nat) (a0 : ByteArray) (l1 : List (S46)) (a2 : Int) : Option (Bool) := if 0 ≤ (mn (a0.size : Int) 80) then (if (mn (a0.size : Int) 80) ≤ (a0.size : Int) then (if 0 ≤ (mn (l1.length : Int) 20) then (if (mn (l1.length : Int) 20) ≤ (l1.length : Int) then ((some (l1.take ((mn (l1.length : Int) 20) : Int).toNat : List (S46))).bind fun y172 => ((skip_Find.f k (a0.extract 0 ((mn (a0.size : Int) 80) : Int).toNat) y172 a2).bind fun bt176 => (if bt176.1 = 0 then (saltuslaw16_SkipFinds.j0 k (a0.extract 0 ((mn (a0.size : Int) 80) : Int).toNat) y172 a2 bt176.1 bt176.2.1 bt176.2.2 ((bt176.2.1.length : Int) == 0)) else (saltuslaw16_SkipFinds.j0 k (a0.extract 0 ((mn (a0.size : Int) 80) : Int).toNat) y172 a2 bt176.1 bt176.2.1 bt176.2.2 false)))) else (none)) else (none)) else (none)) else (none)
theorem saltuslaw16_SkipFinds.mono_l : ∀ k, (∀ y0 y1 y2 y3 y4 y5 y6, LeO (saltuslaw16_SkipFinds.j0 k y0 y1 y2 y3 y4 y5 y6) (saltuslaw16_SkipFinds.j0 (k + 1) y0 y1 y2 y3 y4 y5 y6))
 | 0 => fun _ _ _ _ _ _ _ r h => by simp [saltuslaw16_SkipFinds.j0] at h
 | k + 1 => by
  have ih0 := saltuslaw16_SkipFinds.mono_l k
  ·intro y0 y1 y2 y3 y4 y5 y6
   unfold saltuslaw16_SkipFinds.j0
   repeat' first
   | (with_reducible exact ih0 _ _ _ _ _ _ _)
   | (with_reducible exact saltuslaw16_alive.mono _)
   | (with_reducible exact saltusref16_Floor.mono _ _ _)
   | (with_reducible exact saltusref16_Hops.mono _ _ _ _)
   | (with_reducible exact saltusref16_HopsSame.mono _ _ _)
   | (with_reducible exact saltusref16_Right.mono _ _)
   | (with_reducible exact skip_Find.mono _ _ _ _)
   | (with_reducible exact LeO.refl _)
   | (with_reducible exact LeO.none _)
   | (with_reducible refine LeO.ite ?_ ?_)
   | (with_reducible refine LeO.bind ?_ (fun _ => ?_))
   | exact ih0 _ _ _ _ _ _ _
   | exact saltuslaw16_alive.mono _
   | exact saltusref16_Floor.mono _ _ _
   | exact saltusref16_Hops.mono _ _ _ _
   | exact saltusref16_HopsSame.mono _ _ _
   | exact saltusref16_Right.mono _ _
   | exact skip_Find.mono _ _ _ _
   | exact LeO.none _
   | refine LeO.ite ?_ ?_
   | refine LeO.bind ?_ (fun _ => ?_)
theorem saltuslaw16_SkipFinds.mono : ∀ a0 a1 a2 k, LeO (saltuslaw16_SkipFinds.f k a0 a1 a2) (saltuslaw16_SkipFinds.f (k + 1) a0 a1 a2) := by
 intro a0 a1 a2 k
 have ih0 := saltuslaw16_SkipFinds.mono_l k
 unfold saltuslaw16_SkipFinds.f
 repeat' first
   | (with_reducible exact ih0 _ _ _ _ _ _ _)
   | (with_reducible exact saltuslaw16_alive.mono _)
   | (with_reducible exact saltusref16_Floor.mono _ _ _)
   | (with_reducible exact saltusref16_Hops.mono _ _ _ _)
   | (with_reducible exact saltusref16_HopsSame.mono _ _ _)
   | (with_reducible exact saltusref16_Right.mono _ _)
   | (with_reducible exact skip_Find.mono _ _ _ _)
   | (with_reducible exact LeO.refl _)
   | (with_reducible exact LeO.none _)
   | (with_reducible refine LeO.ite ?_ ?_)
   | (with_reducible refine LeO.bind ?_ (fun _ => ?_))
   | exact ih0 _ _ _ _ _ _ _
   | exact saltuslaw16_alive.mono _
   | exact saltusref16_Floor.mono _ _ _
   | exact saltusref16_Hops.mono _ _ _ _
   | exact saltusref16_HopsSame.mono _ _ _
   | exact saltusref16_Right.mono _ _
   | exact skip_Find.mono _ _ _ _
   | exact LeO.none _
   | refine LeO.ite ?_ ?_
   | refine LeO.bind ?_ (fun _ => ?_)
set_option maxHeartbeats 8000000 in
set_option maxRecDepth 100000 in
theorem saltuslaw16_SkipFinds.calls (k : Nat) (a0 : ByteArray) (A1 : Option Addr) (c1 : Nat) (l1 : List (S46)) (a2 : Int) (r : Bool) (w : World) (hr1 : Kd.C k46 w A1 l1.length l1) (hc1 : l1.length ≤ c1) (hr : Aside0 (r = true)) (h : saltuslaw16_SkipFinds.f k a0 l1 a2 = some r) (hT0 : Tower.TabW w) :
  Calls Tryd.prog 6 #[.string a0, .slice A1 l1.length c1, .int .u64 a2] w fun e w' => e = .returned (.bool r) ∧ Below w.heap.size w w' := by
 have HT := Aside0.mk hT0
 clear hT0
 have HR1 := Aside0.mk hr1
 have HC1 := Aside0.mk hc1
 clear hr1 hc1
 have HB := Aside0.mk (Below.refl w.heap.size w)
 have H : (if 0 ≤ (mn (a0.size : Int) 80) then (if (mn (a0.size : Int) 80) ≤ (a0.size : Int) then (if 0 ≤ (mn (l1.length : Int) 20) then (if (mn (l1.length : Int) 20) ≤ (l1.length : Int) then ((some (l1.take ((mn (l1.length : Int) 20) : Int).toNat : List (S46))).bind fun y172 => ((skip_Find.f k (a0.extract 0 ((mn (a0.size : Int) 80) : Int).toNat) y172 a2).bind fun bt176 => (if bt176.1 = 0 then (saltuslaw16_SkipFinds.j0 k (a0.extract 0 ((mn (a0.size : Int) 80) : Int).toNat) y172 a2 bt176.1 bt176.2.1 bt176.2.2 ((bt176.2.1.length : Int) == 0)) else (saltuslaw16_SkipFinds.j0 k (a0.extract 0 ((mn (a0.size : Int) 80) : Int).toNat) y172 a2 bt176.1 bt176.2.1 bt176.2.2 false)))) else (none)) else (none)) else (none)) else (none)) = some r := h
 clear h
 obtain ⟨ji4, hji4⟩ : ∃ j_ : Int, (mn (a0.size : Int) 80) = j_ := ⟨_, rfl⟩
 replace H : (if 0 ≤ (ji4) then (if (ji4) ≤ (a0.size : Int) then (if 0 ≤ (mn (l1.length : Int) 20) then (if (mn (l1.length : Int) 20) ≤ (l1.length : Int) then ((some (l1.take ((mn (l1.length : Int) 20) : Int).toNat : List (S46))).bind fun y172 => ((skip_Find.f k (a0.extract 0 ((ji4) : Int).toNat) y172 a2).bind fun bt176 => (if bt176.1 = 0 then (saltuslaw16_SkipFinds.j0 k (a0.extract 0 ((ji4) : Int).toNat) y172 a2 bt176.1 bt176.2.1 bt176.2.2 ((bt176.2.1.length : Int) == 0)) else (saltuslaw16_SkipFinds.j0 k (a0.extract 0 ((ji4) : Int).toNat) y172 a2 bt176.1 bt176.2.1 bt176.2.2 false)))) else (none)) else (none)) else (none)) else (none)) = some r := by first | (rw [hji4] at H; exact H) | (simp only [hji4] at H ⊢; exact H)
 (try (have hji4h : ji4 ≤ 80 := by (rw [← hji4]; unfold mn; (repeat' split) <;> omega)))
 (try (have hji4g : ji4 ≤ 64 := by omega))
 (try (have hji4l : 0 ≤ ji4 := by (rw [← hji4]; unfold mn; (repeat' split) <;> omega)))
 (try (have hji4m : 0 ≤ ji4 := by omega))
 have hji4_ : (if 80 < (a0.size : Int) then 80 else (a0.size : Int)) = ji4 := hji4
 by_cases c5 : 0 ≤ (ji4)
 ·rw [if_pos c5] at H
  have c5b0 := eq_true c5
  have c5b1 : decide (0 ≤ (ji4)) = true := decide_eq_true c5
  clear c5
  by_cases c6 : (ji4) ≤ (a0.size : Int)
  ·rw [if_pos c6] at H
   have c6b0 := eq_true c6
   have c6b1 : decide ((ji4) ≤ (a0.size : Int)) = true := decide_eq_true c6
   clear c6
   obtain ⟨ji7, hji7⟩ : ∃ j_ : Int, (mn (l1.length : Int) 20) = j_ := ⟨_, rfl⟩
   replace H : (if 0 ≤ (ji7) then (if (ji7) ≤ (l1.length : Int) then ((some (l1.take ((ji7) : Int).toNat : List (S46))).bind fun y172 => ((skip_Find.f k (a0.extract 0 ((ji4) : Int).toNat) y172 a2).bind fun bt176 => (if bt176.1 = 0 then (saltuslaw16_SkipFinds.j0 k (a0.extract 0 ((ji4) : Int).toNat) y172 a2 bt176.1 bt176.2.1 bt176.2.2 ((bt176.2.1.length : Int) == 0)) else (saltuslaw16_SkipFinds.j0 k (a0.extract 0 ((ji4) : Int).toNat) y172 a2 bt176.1 bt176.2.1 bt176.2.2 false)))) else (none)) else (none)) = some r := by first | (rw [hji7] at H; exact H) | (simp only [hji7] at H ⊢; exact H)
   (try (have hji7h : ji7 ≤ 20 := by (rw [← hji7]; unfold mn; (repeat' split) <;> omega)))
   (try (have hji7g : ji7 ≤ 64 := by omega))
   (try (have hji7l : 0 ≤ ji7 := by (rw [← hji7]; unfold mn; (repeat' split) <;> omega)))
   (try (have hji7m : 0 ≤ ji7 := by omega))
   have hji7_ : (if 20 < (l1.length : Int) then 20 else (l1.length : Int)) = ji7 := hji7
   by_cases c8 : 0 ≤ (ji7)
   ·rw [if_pos c8] at H
    have c8b0 := eq_true c8
    have c8b1 : decide (0 ≤ (ji7)) = true := decide_eq_true c8
    clear c8
    by_cases c9 : (ji7) ≤ (l1.length : Int)
    ·rw [if_pos c9] at H
     have c9b0 := eq_true c9
     have c9b1 : decide ((ji7) ≤ (l1.length : Int)) = true := decide_eq_true c9
     clear c9
     obtain ⟨y172, hy172⟩ : ∃ y_ : List (S46), y_ = (l1.take ((ji7) : Int).toNat) := ⟨_, rfl⟩
     replace H : ((skip_Find.f k (a0.extract 0 ((ji4) : Int).toNat) y172 a2).bind fun bt176 => (if bt176.1 = 0 then (saltuslaw16_SkipFinds.j0 k (a0.extract 0 ((ji4) : Int).toNat) y172 a2 bt176.1 bt176.2.1 bt176.2.2 ((bt176.2.1.length : Int) == 0)) else (saltuslaw16_SkipFinds.j0 k (a0.extract 0 ((ji4) : Int).toNat) y172 a2 bt176.1 bt176.2.1 bt176.2.2 false))) = some r := by first | (rw [hy172]; with_reducible exact H) | (have H2_ := (Option.bind_some _ _).symm.trans H; rw [hy172]; with_reducible exact H2_) | (have H2_ := (Option.bind_some _ _).symm.trans H; with_reducible exact H2_) | with_reducible exact H | (rw [hy172]; exact H) | exact H
     have Ny172 := Aside0.mk hy172
     clear hy172
     replace H := Option.bind_eq_some_iff.mp H
     obtain ⟨⟨t176, t177, t178⟩, A100, H⟩ := H
     (try dsimp only at H)
     have A10 := Aside0.mk A100
     clear A100
     have HC11 := Aside0.mk H
     clear H
     have q12 : ((ji7) : Int) ≤ ((l1.length : Int) : Int) := of_decide_eq_true (by first | (with_reducible assumption) | assumption)
     obtain ⟨i012, hi012, _, hsz12, _⟩ := info_parts info46
     have hroom12 : l1.length ≤ c1 := HC1.out
     have hC12 : Kd.C k46 _ A1 l1.length l1 := HR1.out
     have hcut12 := cut_to (P := Tryd.prog) 36 46 .i64 Tryd.underlying36 hi012 A1 l1.length c1 (ji7) (of_decide_eq_true (by first | (with_reducible assumption) | assumption)) q12 hroom12
     have hr12 := Kd.C_take (m := ((ji7) : Int).toNat) hC12 (by omega)
     have hy12 : y172.length = ((ji7) : Int).toNat := (by rw [Ny172.out, List.length_take]; omega)
     rw [← Ny172.out] at hr12
     rw [← hy12] at hcut12
     have HR175 := Aside0.mk hr12
     have HC175 := Aside0.mk (show y172.length ≤ c1 from by omega)
     clear hr12 hC12 hroom12 hi012 hsz12
     have KY12 := Aside0.mk hy12
     clear hy12
     replace q12 := eq_true q12
     go_enter Tryd.func6, Tryd.ntmps6
     go_upto_region 3 with (first | (go_at_call 24; (with_reducible refine (skip_Find.calls k (a0.extract 0 ((ji4) : Int).toNat) _ _ y172 a2 t176 t177 t178 _ ?side1 ?side2 A10.out (Tower.tab_below HT.out (by repeat (first | (with_reducible first | exact HB.out | apply below_alloc | apply pw_below_drewN | apply below_drew1) | exact HB.out)) (Nat.le_refl _))).mono ?_); (case side1 => repeat (first | exact HR175.out | (with_reducible refine Kd.C_alloc ?_ _) | (with_reducible refine Kd.C_drewN ?_ _) | (with_reducible refine Kd.C_drew ?_))); (case side2 => exact HC175.out); rintro e w13 ⟨v179, rfl, ho0, hb⟩; have n0_ := Aside0.mk (Kd.R_lower ho0 (below_size (by repeat (first | (with_reducible first | exact HB.out | apply below_alloc | apply pw_below_drewN | apply below_drew1) | exact HB.out)))); have n1_ := Aside0.mk (below_step (by repeat (first | (with_reducible first | exact HB.out | apply below_alloc | apply pw_below_drewN | apply below_drew1) | exact HB.out)) hb); clear HB; have HO180 := n0_; have HB := n1_; clear n0_ n1_; (try clear hb); (try clear hb2); (try clear hk); (try clear hi); (try clear ho0)))
     repeat (go_quiet (first | (go_at_call 24; (with_reducible refine (skip_Find.calls k (a0.extract 0 ((ji4) : Int).toNat) _ _ y172 a2 t176 t177 t178 _ ?side1 ?side2 A10.out (Tower.tab_below HT.out (by repeat (first | (with_reducible first | exact HB.out | apply below_alloc | apply pw_below_drewN | apply below_drew1) | exact HB.out)) (Nat.le_refl _))).mono ?_); (case side1 => repeat (first | exact HR175.out | (with_reducible refine Kd.C_alloc ?_ _) | (with_reducible refine Kd.C_drewN ?_ _) | (with_reducible refine Kd.C_drew ?_))); (case side2 => exact HC175.out); rintro e w13 ⟨v179, rfl, ho0, hb⟩; have n0_ := Aside0.mk (Kd.R_lower ho0 (below_size (by repeat (first | (with_reducible first | exact HB.out | apply below_alloc | apply pw_below_drewN | apply below_drew1) | exact HB.out)))); have n1_ := Aside0.mk (below_step (by repeat (first | (with_reducible first | exact HB.out | apply below_alloc | apply pw_below_drewN | apply below_drew1) | exact HB.out)) hb); clear HB; have HO180 := n0_; have HB := n1_; clear n0_ n1_; (try clear hb); (try clear hb2); (try clear hk); (try clear hi); (try clear ho0))); go_upto_region 3 with (first | (go_at_call 24; (with_reducible refine (skip_Find.calls k (a0.extract 0 ((ji4) : Int).toNat) _ _ y172 a2 t176 t177 t178 _ ?side1 ?side2 A10.out (Tower.tab_below HT.out (by repeat (first | (with_reducible first | exact HB.out | apply below_alloc | apply pw_below_drewN | apply below_drew1) | exact HB.out)) (Nat.le_refl _))).mono ?_); (case side1 => repeat (first | exact HR175.out | (with_reducible refine Kd.C_alloc ?_ _) | (with_reducible refine Kd.C_drewN ?_ _) | (with_reducible refine Kd.C_drew ?_))); (case side2 => exact HC175.out); rintro e w13 ⟨v179, rfl, ho0, hb⟩; have n0_ := Aside0.mk (Kd.R_lower ho0 (below_size (by repeat (first | (with_reducible first | exact HB.out | apply below_alloc | apply pw_below_drewN | apply below_drew1) | exact HB.out)))); have n1_ := Aside0.mk (below_step (by repeat (first | (with_reducible first | exact HB.out | apply below_alloc | apply pw_below_drewN | apply below_drew1) | exact HB.out)) hb); clear HB; have HO180 := n0_; have HB := n1_; clear n0_ n1_; (try clear hb); (try clear hb2); (try clear hk); (try clear hi); (try clear ho0))))
     (try simp only [Act.put, List.setIfInBounds_toArray, List.set_cons_zero, List.set_cons_succ])
     go_cut [10] (fun v10 wc => ∃ (kq : Nat) (x10_10 : Bool), v10 = .bool x10_10 ∧ Aside0 (saltuslaw16_SkipFinds.j0 kq (a0.extract 0 ((ji4) : Int).toNat) y172 a2 t176 t177 t178 x10_10 = some r) ∧ Aside0 (kq ≤ k) ∧ Aside0 (Kd.R k48 48 wc w.heap.size (fun _ => True) v179 t177) ∧ Aside0 (Below w.heap.size w wc))
     case first =>
      have H := HC11.out
      clear HC11
      by_cases c14 : t176 = 0
      ·rw [if_pos c14] at H
       have c14b0 : (t176 == 0) = true := beq_iff_eq.mpr c14
       have c14b1 : (t176 != 0) = false := bne_eq_false_iff_eq.mpr c14
       clear c14
       (first | rw [c14b0] | (simp only [i64_w, i32_w]; rw [c14b0]) | skip)
       have H' := Aside0.mk H
       clear H
       obtain ⟨Ao15, co15, eo15⟩ := Kd.R_slice HO180.out
       subst eo15
       go_wp2
       repeat (go_quiet (fail); try go_wp2)
       go_meet
       case rel => exact ⟨_, (((t177.length : Int) == 0)), (by first | rfl | (simp; done) | (simp [*]; done)), H', ⟨by first | omega | exact Nat.le_refl _⟩, ⟨by (with_reducible repeat (first | apply Kd.R_alloc | apply Kd.R_drewN | apply Kd.R_drew)); exact HO180.out⟩, ⟨by repeat (first | (with_reducible first | exact HB.out | apply below_alloc | apply pw_below_drewN | apply below_drew1) | exact HB.out)⟩⟩
      ·rw [if_neg c14] at H
       have c14b0 : (t176 == 0) = false := beq_eq_false_iff_ne.mpr c14
       have c14b1 : (t176 != 0) = true := bne_iff_ne.mpr c14
       (first | rw [c14b0] | (simp only [i64_w, i32_w]; rw [c14b0]) | skip)
       have H' := Aside0.mk H
       clear H
       go_wp2
       repeat (go_quiet (fail); try go_wp2)
       go_meet
       case rel => exact ⟨_, (false), (by first | rfl | (simp; done) | (simp [*]; done)), H', ⟨by first | omega | exact Nat.le_refl _⟩, ⟨by (with_reducible repeat (first | apply Kd.R_alloc | apply Kd.R_drewN | apply Kd.R_drew)); exact HO180.out⟩, ⟨by repeat (first | (with_reducible first | exact HB.out | apply below_alloc | apply pw_below_drewN | apply below_drew1) | exact HB.out)⟩⟩
     case rest =>
      clear HC11
      try clear c1
      try clear q1
      try clear p2
      try clear c5
      try clear c5b0
      try clear c5b1
      try clear c6
      try clear c6b0
      try clear c6b1
      try clear c8
      try clear c8b0
      try clear c8b1
      try clear c9
      try clear c9b0
      try clear c9b1
      try clear q12
      try clear c14
      try clear c14b0
      try clear c14b1
      try clear q12
      obtain ⟨kq, x10_10, rfl, HA, HJ10, HO_8, HB⟩ := hcut
      cases kq with
      | zero => exact absurd HA.out (by simp [saltuslaw16_SkipFinds.j0])
      | succ kj10 =>
       have H := HA.out
       clear HA
       simp only [saltuslaw16_SkipFinds.j0] at H
       replace H := Option.bind_eq_some_iff.mp H
       obtain ⟨t181, A160, H⟩ := H
       (try dsimp only at H)
       have A16 := Aside0.mk A160
       clear A160
       by_cases c17 : t181 = true
       ·subst c17
        have H1 : ((saltusref16_Floor.f kj10 y172 a2).bind fun t183 => (if t183 < 0 then ((saltuslaw16_alive.f kj10).bind fun t184 => (if t184 = true then (if t178 = 3 then (some x10_10) else (some false)) else (some false))) else ((saltuslaw16_alive.f kj10).bind fun t185 => (if t185 = true then (if t178 = 0 then ((saltusref16_Floor.f kj10 y172 a2).bind fun t186 => (if t176 = t186 then ((saltusref16_Hops.f kj10 (a0.extract 0 ((ji4) : Int).toNat) y172 a2).bind fun t187 => ((saltusref16_HopsSame.f kj10 t177 t187).bind fun t190 => (some t190))) else (some false))) else (some false)) else (some false))))) = some r := by rw [if_pos rfl] at H; exact H
        clear H
        have H := H1
        clear H1
        replace H := Option.bind_eq_some_iff.mp H
        obtain ⟨t183, A180, H⟩ := H
        (try dsimp only at H)
        have A18 := Aside0.mk A180
        clear A180
        by_cases c19 : t183 < 0
        ·rw [if_pos c19] at H
         have c19b0 : decide (t183 < 0) = true := decide_eq_true c19
         clear c19
         replace H := Option.bind_eq_some_iff.mp H
         obtain ⟨t184, A200, H⟩ := H
         (try dsimp only at H)
         have A20 := Aside0.mk A200
         clear A200
         by_cases c21 : t184 = true
         ·subst c21
          have H1 : (if t178 = 3 then (some x10_10) else (some false)) = some r := by rw [if_pos rfl] at H; exact H
          clear H
          have H := H1
          clear H1
          by_cases c22 : t178 = 3
          ·rw [if_pos c22] at H
           have c22b0 : (t178 == 3) = true := beq_iff_eq.mpr c22
           have c22b1 : (t178 != 3) = false := bne_eq_false_iff_eq.mpr c22
           clear c22
           obtain rfl := Option.some.inj H
           go_wp2_with (first | (go_at_call 25; (with_reducible refine (saltusref16_Right.calls kj10 _ _ y172 true _ ?side1 ?side2 A16.out).mono ?_); (case side1 => repeat (first | exact (Kd.C_below HR175.out HB.out) | (with_reducible refine Kd.C_alloc ?_ _) | (with_reducible refine Kd.C_drewN ?_ _) | (with_reducible refine Kd.C_drew ?_))); (case side2 => exact HC175.out); rintro e w23 ⟨rfl, hb⟩; have n0_ := Aside0.mk (Kd.R_below (by (with_reducible repeat (first | apply Kd.R_alloc | apply Kd.R_drewN | apply Kd.R_drew)); exact HO_8.out) hb); have n1_ := Aside0.mk (below_step (by repeat (first | (with_reducible first | exact HB.out | apply below_alloc | apply pw_below_drewN | apply below_drew1) | exact HB.out)) hb); clear HO_8; clear HB; have HO_8 := n0_; have HB := n1_; clear n0_ n1_; (try clear hb); (try clear hb2); (try clear hk); (try clear hi)) | (go_at_call 27; (with_reducible refine (saltusref16_Floor.calls kj10 _ _ y172 a2 t183 _ ?side1 ?side2 A18.out).mono ?_); (case side1 => repeat (first | exact (Kd.C_below HR175.out HB.out) | (with_reducible refine Kd.C_alloc ?_ _) | (with_reducible refine Kd.C_drewN ?_ _) | (with_reducible refine Kd.C_drew ?_))); (case side2 => exact HC175.out); rintro e w24 ⟨rfl, hb⟩; have n0_ := Aside0.mk (Kd.R_below (by (with_reducible repeat (first | apply Kd.R_alloc | apply Kd.R_drewN | apply Kd.R_drew)); exact HO_8.out) hb); have n1_ := Aside0.mk (below_step (by repeat (first | (with_reducible first | exact HB.out | apply below_alloc | apply pw_below_drewN | apply below_drew1) | exact HB.out)) hb); clear HO_8; clear HB; have HO_8 := n0_; have HB := n1_; clear n0_ n1_; (try clear hb); (try clear hb2); (try clear hk); (try clear hi)) | (go_at_call 26; (with_reducible refine (saltuslaw16_alive.calls kj10  true _ A20.out (Tower.tab_below HT.out (by repeat (first | (with_reducible first | exact HB.out | apply below_alloc | apply pw_below_drewN | apply below_drew1) | exact HB.out)) (Nat.le_refl _))).mono ?_); rintro e w25 ⟨rfl, hb⟩; have n0_ := Aside0.mk (Kd.R_below (by (with_reducible repeat (first | apply Kd.R_alloc | apply Kd.R_drewN | apply Kd.R_drew)); exact HO_8.out) hb); have n1_ := Aside0.mk (below_step (by repeat (first | (with_reducible first | exact HB.out | apply below_alloc | apply pw_below_drewN | apply below_drew1) | exact HB.out)) hb); clear HO_8; clear HB; have HO_8 := n0_; have HB := n1_; clear n0_ n1_; (try clear hb); (try clear hb2); (try clear hk); (try clear hi)))
           repeat (go_quiet (first | (go_at_call 25; (with_reducible refine (saltusref16_Right.calls kj10 _ _ y172 true _ ?side1 ?side2 A16.out).mono ?_); (case side1 => repeat (first | exact (Kd.C_below HR175.out HB.out) | (with_reducible refine Kd.C_alloc ?_ _) | (with_reducible refine Kd.C_drewN ?_ _) | (with_reducible refine Kd.C_drew ?_))); (case side2 => exact HC175.out); rintro e w23 ⟨rfl, hb⟩; have n0_ := Aside0.mk (Kd.R_below (by (with_reducible repeat (first | apply Kd.R_alloc | apply Kd.R_drewN | apply Kd.R_drew)); exact HO_8.out) hb); have n1_ := Aside0.mk (below_step (by repeat (first | (with_reducible first | exact HB.out | apply below_alloc | apply pw_below_drewN | apply below_drew1) | exact HB.out)) hb); clear HO_8; clear HB; have HO_8 := n0_; have HB := n1_; clear n0_ n1_; (try clear hb); (try clear hb2); (try clear hk); (try clear hi)) | (go_at_call 27; (with_reducible refine (saltusref16_Floor.calls kj10 _ _ y172 a2 t183 _ ?side1 ?side2 A18.out).mono ?_); (case side1 => repeat (first | exact (Kd.C_below HR175.out HB.out) | (with_reducible refine Kd.C_alloc ?_ _) | (with_reducible refine Kd.C_drewN ?_ _) | (with_reducible refine Kd.C_drew ?_))); (case side2 => exact HC175.out); rintro e w24 ⟨rfl, hb⟩; have n0_ := Aside0.mk (Kd.R_below (by (with_reducible repeat (first | apply Kd.R_alloc | apply Kd.R_drewN | apply Kd.R_drew)); exact HO_8.out) hb); have n1_ := Aside0.mk (below_step (by repeat (first | (with_reducible first | exact HB.out | apply below_alloc | apply pw_below_drewN | apply below_drew1) | exact HB.out)) hb); clear HO_8; clear HB; have HO_8 := n0_; have HB := n1_; clear n0_ n1_; (try clear hb); (try clear hb2); (try clear hk); (try clear hi)) | (go_at_call 26; (with_reducible refine (saltuslaw16_alive.calls kj10  true _ A20.out (Tower.tab_below HT.out (by repeat (first | (with_reducible first | exact HB.out | apply below_alloc | apply pw_below_drewN | apply below_drew1) | exact HB.out)) (Nat.le_refl _))).mono ?_); rintro e w25 ⟨rfl, hb⟩; have n0_ := Aside0.mk (Kd.R_below (by (with_reducible repeat (first | apply Kd.R_alloc | apply Kd.R_drewN | apply Kd.R_drew)); exact HO_8.out) hb); have n1_ := Aside0.mk (below_step (by repeat (first | (with_reducible first | exact HB.out | apply below_alloc | apply pw_below_drewN | apply below_drew1) | exact HB.out)) hb); clear HO_8; clear HB; have HO_8 := n0_; have HB := n1_; clear n0_ n1_; (try clear hb); (try clear hb2); (try clear hk); (try clear hi))); try go_wp2_with (first | (go_at_call 25; (with_reducible refine (saltusref16_Right.calls kj10 _ _ y172 true _ ?side1 ?side2 A16.out).mono ?_); (case side1 => repeat (first | exact (Kd.C_below HR175.out HB.out) | (with_reducible refine Kd.C_alloc ?_ _) | (with_reducible refine Kd.C_drewN ?_ _) | (with_reducible refine Kd.C_drew ?_))); (case side2 => exact HC175.out); rintro e w23 ⟨rfl, hb⟩; have n0_ := Aside0.mk (Kd.R_below (by (with_reducible repeat (first | apply Kd.R_alloc | apply Kd.R_drewN | apply Kd.R_drew)); exact HO_8.out) hb); have n1_ := Aside0.mk (below_step (by repeat (first | (with_reducible first | exact HB.out | apply below_alloc | apply pw_below_drewN | apply below_drew1) | exact HB.out)) hb); clear HO_8; clear HB; have HO_8 := n0_; have HB := n1_; clear n0_ n1_; (try clear hb); (try clear hb2); (try clear hk); (try clear hi)) | (go_at_call 27; (with_reducible refine (saltusref16_Floor.calls kj10 _ _ y172 a2 t183 _ ?side1 ?side2 A18.out).mono ?_); (case side1 => repeat (first | exact (Kd.C_below HR175.out HB.out) | (with_reducible refine Kd.C_alloc ?_ _) | (with_reducible refine Kd.C_drewN ?_ _) | (with_reducible refine Kd.C_drew ?_))); (case side2 => exact HC175.out); rintro e w24 ⟨rfl, hb⟩; have n0_ := Aside0.mk (Kd.R_below (by (with_reducible repeat (first | apply Kd.R_alloc | apply Kd.R_drewN | apply Kd.R_drew)); exact HO_8.out) hb); have n1_ := Aside0.mk (below_step (by repeat (first | (with_reducible first | exact HB.out | apply below_alloc | apply pw_below_drewN | apply below_drew1) | exact HB.out)) hb); clear HO_8; clear HB; have HO_8 := n0_; have HB := n1_; clear n0_ n1_; (try clear hb); (try clear hb2); (try clear hk); (try clear hi)) | (go_at_call 26; (with_reducible refine (saltuslaw16_alive.calls kj10  true _ A20.out (Tower.tab_below HT.out (by repeat (first | (with_reducible first | exact HB.out | apply below_alloc | apply pw_below_drewN | apply below_drew1) | exact HB.out)) (Nat.le_refl _))).mono ?_); rintro e w25 ⟨rfl, hb⟩; have n0_ := Aside0.mk (Kd.R_below (by (with_reducible repeat (first | apply Kd.R_alloc | apply Kd.R_drewN | apply Kd.R_drew)); exact HO_8.out) hb); have n1_ := Aside0.mk (below_step (by repeat (first | (with_reducible first | exact HB.out | apply below_alloc | apply pw_below_drewN | apply below_drew1) | exact HB.out)) hb); clear HO_8; clear HB; have HO_8 := n0_; have HB := n1_; clear n0_ n1_; (try clear hb); (try clear hb2); (try clear hk); (try clear hi))))
           go_ret
           exact ⟨by first | rfl | (simp [errW_none, errW_some] <;> rfl) | (simp only [← hji4, ← hji7]; first | rfl | (simp [errW_none, errW_some] <;> rfl)) | (simp [*, errW_none, errW_some] <;> rfl), by repeat (first | (with_reducible first | exact HB.out | apply below_alloc | apply pw_below_drewN | apply below_drew1) | exact HB.out)⟩
          ·rw [if_neg c22] at H
           have c22b0 : (t178 == 3) = false := beq_eq_false_iff_ne.mpr c22
           have c22b1 : (t178 != 3) = true := bne_iff_ne.mpr c22
           exact absurd ((Option.some.inj H).trans hr.out) (by decide)
         ·replace c21 := Bool.eq_false_iff.mpr c21
          subst c21
          have H1 : (some false) = some r := by rw [if_neg (show ¬ (false = true) by decide)] at H; exact H
          clear H
          have H := H1
          clear H1
          exact absurd ((Option.some.inj H).trans hr.out) (by decide)
        ·rw [if_neg c19] at H
         have c19b0 : decide (t183 < 0) = false := decide_eq_false c19
         clear c19
         replace H := Option.bind_eq_some_iff.mp H
         obtain ⟨t185, A260, H⟩ := H
         (try dsimp only at H)
         have A26 := Aside0.mk A260
         clear A260
         by_cases c27 : t185 = true
         ·subst c27
          have H1 : (if t178 = 0 then ((saltusref16_Floor.f kj10 y172 a2).bind fun t186 => (if t176 = t186 then ((saltusref16_Hops.f kj10 (a0.extract 0 ((ji4) : Int).toNat) y172 a2).bind fun t187 => ((saltusref16_HopsSame.f kj10 t177 t187).bind fun t190 => (some t190))) else (some false))) else (some false)) = some r := by rw [if_pos rfl] at H; exact H
          clear H
          have H := H1
          clear H1
          by_cases c28 : t178 = 0
          ·rw [if_pos c28] at H
           have c28b0 : (t178 == 0) = true := beq_iff_eq.mpr c28
           have c28b1 : (t178 != 0) = false := bne_eq_false_iff_eq.mpr c28
           clear c28
           replace H := Option.bind_eq_some_iff.mp H
           obtain ⟨t186, A290, H⟩ := H
           (try dsimp only at H)
           have A29 := Aside0.mk A290
           clear A290
           obtain rfl : t183 = t186 := Option.some.inj (A18.out.symm.trans A29.out)
           by_cases c30 : t176 = t183
           ·rw [if_pos c30] at H
            have c30b0 : (t176 == t183) = true := beq_iff_eq.mpr c30
            have c30b1 : (t176 != t183) = false := bne_eq_false_iff_eq.mpr c30
            clear c30
            replace H := Option.bind_eq_some_iff.mp H
            obtain ⟨t187, A310, H⟩ := H
            (try dsimp only at H)
            have A31 := Aside0.mk A310
            clear A310
            replace H := Option.bind_eq_some_iff.mp H
            obtain ⟨t190, A320, H⟩ := H
            (try dsimp only at H)
            have A32 := Aside0.mk A320
            clear A320
            obtain rfl := Option.some.inj H
            go_wp2_with (first | (go_at_call 25; (with_reducible refine (saltusref16_Right.calls kj10 _ _ y172 true _ ?side1 ?side2 A16.out).mono ?_); (case side1 => repeat (first | exact (Kd.C_below HR175.out HB.out) | (with_reducible refine Kd.C_alloc ?_ _) | (with_reducible refine Kd.C_drewN ?_ _) | (with_reducible refine Kd.C_drew ?_))); (case side2 => exact HC175.out); rintro e w33 ⟨rfl, hb⟩; have n0_ := Aside0.mk (Kd.R_below (by (with_reducible repeat (first | apply Kd.R_alloc | apply Kd.R_drewN | apply Kd.R_drew)); exact HO_8.out) hb); have n1_ := Aside0.mk (below_step (by repeat (first | (with_reducible first | exact HB.out | apply below_alloc | apply pw_below_drewN | apply below_drew1) | exact HB.out)) hb); clear HO_8; clear HB; have HO_8 := n0_; have HB := n1_; clear n0_ n1_; (try clear hb); (try clear hb2); (try clear hk); (try clear hi)) | (go_at_call 27; (with_reducible refine (saltusref16_Floor.calls kj10 _ _ y172 a2 t183 _ ?side1 ?side2 A18.out).mono ?_); (case side1 => repeat (first | exact (Kd.C_below HR175.out HB.out) | (with_reducible refine Kd.C_alloc ?_ _) | (with_reducible refine Kd.C_drewN ?_ _) | (with_reducible refine Kd.C_drew ?_))); (case side2 => exact HC175.out); rintro e w34 ⟨rfl, hb⟩; have n0_ := Aside0.mk (Kd.R_below (by (with_reducible repeat (first | apply Kd.R_alloc | apply Kd.R_drewN | apply Kd.R_drew)); exact HO_8.out) hb); have n1_ := Aside0.mk (below_step (by repeat (first | (with_reducible first | exact HB.out | apply below_alloc | apply pw_below_drewN | apply below_drew1) | exact HB.out)) hb); clear HO_8; clear HB; have HO_8 := n0_; have HB := n1_; clear n0_ n1_; (try clear hb); (try clear hb2); (try clear hk); (try clear hi)) | (go_at_call 26; (with_reducible refine (saltuslaw16_alive.calls kj10  true _ A26.out (Tower.tab_below HT.out (by repeat (first | (with_reducible first | exact HB.out | apply below_alloc | apply pw_below_drewN | apply below_drew1) | exact HB.out)) (Nat.le_refl _))).mono ?_); rintro e w35 ⟨rfl, hb⟩; have n0_ := Aside0.mk (Kd.R_below (by (with_reducible repeat (first | apply Kd.R_alloc | apply Kd.R_drewN | apply Kd.R_drew)); exact HO_8.out) hb); have n1_ := Aside0.mk (below_step (by repeat (first | (with_reducible first | exact HB.out | apply below_alloc | apply pw_below_drewN | apply below_drew1) | exact HB.out)) hb); clear HO_8; clear HB; have HO_8 := n0_; have HB := n1_; clear n0_ n1_; (try clear hb); (try clear hb2); (try clear hk); (try clear hi)) | (go_at_call 27; (with_reducible refine (saltusref16_Floor.calls kj10 _ _ y172 a2 t183 _ ?side1 ?side2 A29.out).mono ?_); (case side1 => repeat (first | exact (Kd.C_below HR175.out HB.out) | (with_reducible refine Kd.C_alloc ?_ _) | (with_reducible refine Kd.C_drewN ?_ _) | (with_reducible refine Kd.C_drew ?_))); (case side2 => exact HC175.out); rintro e w36 ⟨rfl, hb⟩; have n0_ := Aside0.mk (Kd.R_below (by (with_reducible repeat (first | apply Kd.R_alloc | apply Kd.R_drewN | apply Kd.R_drew)); exact HO_8.out) hb); have n1_ := Aside0.mk (below_step (by repeat (first | (with_reducible first | exact HB.out | apply below_alloc | apply pw_below_drewN | apply below_drew1) | exact HB.out)) hb); clear HO_8; clear HB; have HO_8 := n0_; have HB := n1_; clear n0_ n1_; (try clear hb); (try clear hb2); (try clear hk); (try clear hi)) | (go_at_call 29; (with_reducible refine (saltusref16_Hops.calls kj10 (a0.extract 0 ((ji4) : Int).toNat) _ _ y172 a2 t187 _ ?side1 ?side2 A31.out).mono ?_); (case side1 => repeat (first | exact (Kd.C_below HR175.out HB.out) | (with_reducible refine Kd.C_alloc ?_ _) | (with_reducible refine Kd.C_drewN ?_ _) | (with_reducible refine Kd.C_drew ?_))); (case side2 => exact HC175.out); rintro e w37 ⟨v188, rfl, ho0, hb⟩; have n0_ := Aside0.mk (Kd.R_elder' (by (with_reducible repeat (first | apply Kd.R_alloc | apply Kd.R_drewN | apply Kd.R_drew)); exact HO_8.out) (Kd.R_base ho0) hb); have n1_ := Aside0.mk (Kd.R_lower (Kd.R_new' ho0 (Kd.R_lt (by (with_reducible repeat (first | apply Kd.R_alloc | apply Kd.R_drewN | apply Kd.R_drew)); exact HO_8.out))) (below_size (by repeat (first | (with_reducible first | exact HB.out | apply below_alloc | apply pw_below_drewN | apply below_drew1) | exact HB.out)))); have n2_ := Aside0.mk (below_step (by repeat (first | (with_reducible first | exact HB.out | apply below_alloc | apply pw_below_drewN | apply below_drew1) | exact HB.out)) hb); clear HO_8; clear HB; have HO_8 := n0_; have HO189 := n1_; have HB := n2_; clear n0_ n1_ n2_; (try clear hb); (try clear hb2); (try clear hk); (try clear hi); (try clear ho0); obtain ⟨Ao38, co38, eo38⟩ := Kd.R_slice HO_8.out; subst eo38; obtain ⟨Ao39, co39, eo39⟩ := Kd.R_slice HO189.out; subst eo39) | (go_at_call 28; (with_reducible refine (saltusref16_HopsSame.calls kj10 _ _ t177 _ _ t187 t190 _ ?side1 ?side2 ?side3 ?side4 A32.out).mono ?_); (case side1 => repeat (first | exact (Kd.R_reads' HO_8.out).2.2 | (with_reducible refine Kd.C_alloc ?_ _) | (with_reducible refine Kd.C_drewN ?_ _) | (with_reducible refine Kd.C_drew ?_))); (case side2 => exact (Kd.R_reads' HO_8.out).2.1); (case side3 => repeat (first | exact (Kd.R_reads' HO189.out).2.2 | (with_reducible refine Kd.C_alloc ?_ _) | (with_reducible refine Kd.C_drewN ?_ _) | (with_reducible refine Kd.C_drew ?_))); (case side4 => exact (Kd.R_reads' HO189.out).2.1); rintro e w' ⟨rfl, ⟨nd, rfl⟩⟩; (try first | exact ⟨rfl, _, World.drewN_drewN _ _ _⟩ | exact ⟨rfl, _, Eq.trans (World.drewN_drewN _ _ _) (congrArg (World.drewN _) (Nat.add_assoc _ _ _))⟩)))
            repeat (go_quiet (first | (go_at_call 25; (with_reducible refine (saltusref16_Right.calls kj10 _ _ y172 true _ ?side1 ?side2 A16.out).mono ?_); (case side1 => repeat (first | exact (Kd.C_below HR175.out HB.out) | (with_reducible refine Kd.C_alloc ?_ _) | (with_reducible refine Kd.C_drewN ?_ _) | (with_reducible refine Kd.C_drew ?_))); (case side2 => exact HC175.out); rintro e w33 ⟨rfl, hb⟩; have n0_ := Aside0.mk (Kd.R_below (by (with_reducible repeat (first | apply Kd.R_alloc | apply Kd.R_drewN | apply Kd.R_drew)); exact HO_8.out) hb); have n1_ := Aside0.mk (below_step (by repeat (first | (with_reducible first | exact HB.out | apply below_alloc | apply pw_below_drewN | apply below_drew1) | exact HB.out)) hb); clear HO_8; clear HB; have HO_8 := n0_; have HB := n1_; clear n0_ n1_; (try clear hb); (try clear hb2); (try clear hk); (try clear hi)) | (go_at_call 27; (with_reducible refine (saltusref16_Floor.calls kj10 _ _ y172 a2 t183 _ ?side1 ?side2 A18.out).mono ?_); (case side1 => repeat (first | exact (Kd.C_below HR175.out HB.out) | (with_reducible refine Kd.C_alloc ?_ _) | (with_reducible refine Kd.C_drewN ?_ _) | (with_reducible refine Kd.C_drew ?_))); (case side2 => exact HC175.out); rintro e w34 ⟨rfl, hb⟩; have n0_ := Aside0.mk (Kd.R_below (by (with_reducible repeat (first | apply Kd.R_alloc | apply Kd.R_drewN | apply Kd.R_drew)); exact HO_8.out) hb); have n1_ := Aside0.mk (below_step (by repeat (first | (with_reducible first | exact HB.out | apply below_alloc | apply pw_below_drewN | apply below_drew1) | exact HB.out)) hb); clear HO_8; clear HB; have HO_8 := n0_; have HB := n1_; clear n0_ n1_; (try clear hb); (try clear hb2); (try clear hk); (try clear hi)) | (go_at_call 26; (with_reducible refine (saltuslaw16_alive.calls kj10  true _ A26.out (Tower.tab_below HT.out (by repeat (first | (with_reducible first | exact HB.out | apply below_alloc | apply pw_below_drewN | apply below_drew1) | exact HB.out)) (Nat.le_refl _))).mono ?_); rintro e w35 ⟨rfl, hb⟩; have n0_ := Aside0.mk (Kd.R_below (by (with_reducible repeat (first | apply Kd.R_alloc | apply Kd.R_drewN | apply Kd.R_drew)); exact HO_8.out) hb); have n1_ := Aside0.mk (below_step (by repeat (first | (with_reducible first | exact HB.out | apply below_alloc | apply pw_below_drewN | apply below_drew1) | exact HB.out)) hb); clear HO_8; clear HB; have HO_8 := n0_; have HB := n1_; clear n0_ n1_; (try clear hb); (try clear hb2); (try clear hk); (try clear hi)) | (go_at_call 27; (with_reducible refine (saltusref16_Floor.calls kj10 _ _ y172 a2 t183 _ ?side1 ?side2 A29.out).mono ?_); (case side1 => repeat (first | exact (Kd.C_below HR175.out HB.out) | (with_reducible refine Kd.C_alloc ?_ _) | (with_reducible refine Kd.C_drewN ?_ _) | (with_reducible refine Kd.C_drew ?_))); (case side2 => exact HC175.out); rintro e w36 ⟨rfl, hb⟩; have n0_ := Aside0.mk (Kd.R_below (by (with_reducible repeat (first | apply Kd.R_alloc | apply Kd.R_drewN | apply Kd.R_drew)); exact HO_8.out) hb); have n1_ := Aside0.mk (below_step (by repeat (first | (with_reducible first | exact HB.out | apply below_alloc | apply pw_below_drewN | apply below_drew1) | exact HB.out)) hb); clear HO_8; clear HB; have HO_8 := n0_; have HB := n1_; clear n0_ n1_; (try clear hb); (try clear hb2); (try clear hk); (try clear hi)) | (go_at_call 29; (with_reducible refine (saltusref16_Hops.calls kj10 (a0.extract 0 ((ji4) : Int).toNat) _ _ y172 a2 t187 _ ?side1 ?side2 A31.out).mono ?_); (case side1 => repeat (first | exact (Kd.C_below HR175.out HB.out) | (with_reducible refine Kd.C_alloc ?_ _) | (with_reducible refine Kd.C_drewN ?_ _) | (with_reducible refine Kd.C_drew ?_))); (case side2 => exact HC175.out); rintro e w37 ⟨v188, rfl, ho0, hb⟩; have n0_ := Aside0.mk (Kd.R_elder' (by (with_reducible repeat (first | apply Kd.R_alloc | apply Kd.R_drewN | apply Kd.R_drew)); exact HO_8.out) (Kd.R_base ho0) hb); have n1_ := Aside0.mk (Kd.R_lower (Kd.R_new' ho0 (Kd.R_lt (by (with_reducible repeat (first | apply Kd.R_alloc | apply Kd.R_drewN | apply Kd.R_drew)); exact HO_8.out))) (below_size (by repeat (first | (with_reducible first | exact HB.out | apply below_alloc | apply pw_below_drewN | apply below_drew1) | exact HB.out)))); have n2_ := Aside0.mk (below_step (by repeat (first | (with_reducible first | exact HB.out | apply below_alloc | apply pw_below_drewN | apply below_drew1) | exact HB.out)) hb); clear HO_8; clear HB; have HO_8 := n0_; have HO189 := n1_; have HB := n2_; clear n0_ n1_ n2_; (try clear hb); (try clear hb2); (try clear hk); (try clear hi); (try clear ho0); obtain ⟨Ao38, co38, eo38⟩ := Kd.R_slice HO_8.out; subst eo38; obtain ⟨Ao39, co39, eo39⟩ := Kd.R_slice HO189.out; subst eo39) | (go_at_call 28; (with_reducible refine (saltusref16_HopsSame.calls kj10 _ _ t177 _ _ t187 t190 _ ?side1 ?side2 ?side3 ?side4 A32.out).mono ?_); (case side1 => repeat (first | exact (Kd.R_reads' HO_8.out).2.2 | (with_reducible refine Kd.C_alloc ?_ _) | (with_reducible refine Kd.C_drewN ?_ _) | (with_reducible refine Kd.C_drew ?_))); (case side2 => exact (Kd.R_reads' HO_8.out).2.1); (case side3 => repeat (first | exact (Kd.R_reads' HO189.out).2.2 | (with_reducible refine Kd.C_alloc ?_ _) | (with_reducible refine Kd.C_drewN ?_ _) | (with_reducible refine Kd.C_drew ?_))); (case side4 => exact (Kd.R_reads' HO189.out).2.1); rintro e w' ⟨rfl, ⟨nd, rfl⟩⟩; (try first | exact ⟨rfl, _, World.drewN_drewN _ _ _⟩ | exact ⟨rfl, _, Eq.trans (World.drewN_drewN _ _ _) (congrArg (World.drewN _) (Nat.add_assoc _ _ _))⟩))); try go_wp2_with (first | (go_at_call 25; (with_reducible refine (saltusref16_Right.calls kj10 _ _ y172 true _ ?side1 ?side2 A16.out).mono ?_); (case side1 => repeat (first | exact (Kd.C_below HR175.out HB.out) | (with_reducible refine Kd.C_alloc ?_ _) | (with_reducible refine Kd.C_drewN ?_ _) | (with_reducible refine Kd.C_drew ?_))); (case side2 => exact HC175.out); rintro e w33 ⟨rfl, hb⟩; have n0_ := Aside0.mk (Kd.R_below (by (with_reducible repeat (first | apply Kd.R_alloc | apply Kd.R_drewN | apply Kd.R_drew)); exact HO_8.out) hb); have n1_ := Aside0.mk (below_step (by repeat (first | (with_reducible first | exact HB.out | apply below_alloc | apply pw_below_drewN | apply below_drew1) | exact HB.out)) hb); clear HO_8; clear HB; have HO_8 := n0_; have HB := n1_; clear n0_ n1_; (try clear hb); (try clear hb2); (try clear hk); (try clear hi)) | (go_at_call 27; (with_reducible refine (saltusref16_Floor.calls kj10 _ _ y172 a2 t183 _ ?side1 ?side2 A18.out).mono ?_); (case side1 => repeat (first | exact (Kd.C_below HR175.out HB.out) | (with_reducible refine Kd.C_alloc ?_ _) | (with_reducible refine Kd.C_drewN ?_ _) | (with_reducible refine Kd.C_drew ?_))); (case side2 => exact HC175.out); rintro e w34 ⟨rfl, hb⟩; have n0_ := Aside0.mk (Kd.R_below (by (with_reducible repeat (first | apply Kd.R_alloc | apply Kd.R_drewN | apply Kd.R_drew)); exact HO_8.out) hb); have n1_ := Aside0.mk (below_step (by repeat (first | (with_reducible first | exact HB.out | apply below_alloc | apply pw_below_drewN | apply below_drew1) | exact HB.out)) hb); clear HO_8; clear HB; have HO_8 := n0_; have HB := n1_; clear n0_ n1_; (try clear hb); (try clear hb2); (try clear hk); (try clear hi)) | (go_at_call 26; (with_reducible refine (saltuslaw16_alive.calls kj10  true _ A26.out (Tower.tab_below HT.out (by repeat (first | (with_reducible first | exact HB.out | apply below_alloc | apply pw_below_drewN | apply below_drew1) | exact HB.out)) (Nat.le_refl _))).mono ?_); rintro e w35 ⟨rfl, hb⟩; have n0_ := Aside0.mk (Kd.R_below (by (with_reducible repeat (first | apply Kd.R_alloc | apply Kd.R_drewN | apply Kd.R_drew)); exact HO_8.out) hb); have n1_ := Aside0.mk (below_step (by repeat (first | (with_reducible first | exact HB.out | apply below_alloc | apply pw_below_drewN | apply below_drew1) | exact HB.out)) hb); clear HO_8; clear HB; have HO_8 := n0_; have HB := n1_; clear n0_ n1_; (try clear hb); (try clear hb2); (try clear hk); (try clear hi)) | (go_at_call 27; (with_reducible refine (saltusref16_Floor.calls kj10 _ _ y172 a2 t183 _ ?side1 ?side2 A29.out).mono ?_); (case side1 => repeat (first | exact (Kd.C_below HR175.out HB.out) | (with_reducible refine Kd.C_alloc ?_ _) | (with_reducible refine Kd.C_drewN ?_ _) | (with_reducible refine Kd.C_drew ?_))); (case side2 => exact HC175.out); rintro e w36 ⟨rfl, hb⟩; have n0_ := Aside0.mk (Kd.R_below (by (with_reducible repeat (first | apply Kd.R_alloc | apply Kd.R_drewN | apply Kd.R_drew)); exact HO_8.out) hb); have n1_ := Aside0.mk (below_step (by repeat (first | (with_reducible first | exact HB.out | apply below_alloc | apply pw_below_drewN | apply below_drew1) | exact HB.out)) hb); clear HO_8; clear HB; have HO_8 := n0_; have HB := n1_; clear n0_ n1_; (try clear hb); (try clear hb2); (try clear hk); (try clear hi)) | (go_at_call 29; (with_reducible refine (saltusref16_Hops.calls kj10 (a0.extract 0 ((ji4) : Int).toNat) _ _ y172 a2 t187 _ ?side1 ?side2 A31.out).mono ?_); (case side1 => repeat (first | exact (Kd.C_below HR175.out HB.out) | (with_reducible refine Kd.C_alloc ?_ _) | (with_reducible refine Kd.C_drewN ?_ _) | (with_reducible refine Kd.C_drew ?_))); (case side2 => exact HC175.out); rintro e w37 ⟨v188, rfl, ho0, hb⟩; have n0_ := Aside0.mk (Kd.R_elder' (by (with_reducible repeat (first | apply Kd.R_alloc | apply Kd.R_drewN | apply Kd.R_drew)); exact HO_8.out) (Kd.R_base ho0) hb); have n1_ := Aside0.mk (Kd.R_lower (Kd.R_new' ho0 (Kd.R_lt (by (with_reducible repeat (first | apply Kd.R_alloc | apply Kd.R_drewN | apply Kd.R_drew)); exact HO_8.out))) (below_size (by repeat (first | (with_reducible first | exact HB.out | apply below_alloc | apply pw_below_drewN | apply below_drew1) | exact HB.out)))); have n2_ := Aside0.mk (below_step (by repeat (first | (with_reducible first | exact HB.out | apply below_alloc | apply pw_below_drewN | apply below_drew1) | exact HB.out)) hb); clear HO_8; clear HB; have HO_8 := n0_; have HO189 := n1_; have HB := n2_; clear n0_ n1_ n2_; (try clear hb); (try clear hb2); (try clear hk); (try clear hi); (try clear ho0); obtain ⟨Ao38, co38, eo38⟩ := Kd.R_slice HO_8.out; subst eo38; obtain ⟨Ao39, co39, eo39⟩ := Kd.R_slice HO189.out; subst eo39) | (go_at_call 28; (with_reducible refine (saltusref16_HopsSame.calls kj10 _ _ t177 _ _ t187 t190 _ ?side1 ?side2 ?side3 ?side4 A32.out).mono ?_); (case side1 => repeat (first | exact (Kd.R_reads' HO_8.out).2.2 | (with_reducible refine Kd.C_alloc ?_ _) | (with_reducible refine Kd.C_drewN ?_ _) | (with_reducible refine Kd.C_drew ?_))); (case side2 => exact (Kd.R_reads' HO_8.out).2.1); (case side3 => repeat (first | exact (Kd.R_reads' HO189.out).2.2 | (with_reducible refine Kd.C_alloc ?_ _) | (with_reducible refine Kd.C_drewN ?_ _) | (with_reducible refine Kd.C_drew ?_))); (case side4 => exact (Kd.R_reads' HO189.out).2.1); rintro e w' ⟨rfl, ⟨nd, rfl⟩⟩; (try first | exact ⟨rfl, _, World.drewN_drewN _ _ _⟩ | exact ⟨rfl, _, Eq.trans (World.drewN_drewN _ _ _) (congrArg (World.drewN _) (Nat.add_assoc _ _ _))⟩))))
            go_ret
            exact ⟨by first | rfl | (simp [errW_none, errW_some] <;> rfl) | (simp only [← hji4, ← hji7]; first | rfl | (simp [errW_none, errW_some] <;> rfl)) | (simp [*, errW_none, errW_some] <;> rfl), by repeat (first | (with_reducible first | exact HB.out | apply below_alloc | apply pw_below_drewN | apply below_drew1) | exact HB.out)⟩
           ·rw [if_neg c30] at H
            have c30b0 : (t176 == t183) = false := beq_eq_false_iff_ne.mpr c30
            have c30b1 : (t176 != t183) = true := bne_iff_ne.mpr c30
            exact absurd ((Option.some.inj H).trans hr.out) (by decide)
          ·rw [if_neg c28] at H
           have c28b0 : (t178 == 0) = false := beq_eq_false_iff_ne.mpr c28
           have c28b1 : (t178 != 0) = true := bne_iff_ne.mpr c28
           exact absurd ((Option.some.inj H).trans hr.out) (by decide)
         ·replace c27 := Bool.eq_false_iff.mpr c27
          subst c27
          have H1 : (some false) = some r := by rw [if_neg (show ¬ (false = true) by decide)] at H; exact H
          clear H
          have H := H1
          clear H1
          exact absurd ((Option.some.inj H).trans hr.out) (by decide)
       ·replace c17 := Bool.eq_false_iff.mpr c17
        subst c17
        have H1 : ((saltuslaw16_alive.f kj10).bind fun t182 => (if t182 = true then (if t178 = 1 then (some x10_10) else (some false)) else (some false))) = some r := by rw [if_neg (show ¬ (false = true) by decide)] at H; exact H
        clear H
        have H := H1
        clear H1
        replace H := Option.bind_eq_some_iff.mp H
        obtain ⟨t182, A400, H⟩ := H
        (try dsimp only at H)
        have A40 := Aside0.mk A400
        clear A400
        by_cases c41 : t182 = true
        ·subst c41
         have H1 : (if t178 = 1 then (some x10_10) else (some false)) = some r := by rw [if_pos rfl] at H; exact H
         clear H
         have H := H1
         clear H1
         by_cases c42 : t178 = 1
         ·rw [if_pos c42] at H
          have c42b0 : (t178 == 1) = true := beq_iff_eq.mpr c42
          have c42b1 : (t178 != 1) = false := bne_eq_false_iff_eq.mpr c42
          clear c42
          obtain rfl := Option.some.inj H
          go_wp2_with (first | (go_at_call 25; (with_reducible refine (saltusref16_Right.calls kj10 _ _ y172 false _ ?side1 ?side2 A16.out).mono ?_); (case side1 => repeat (first | exact (Kd.C_below HR175.out HB.out) | (with_reducible refine Kd.C_alloc ?_ _) | (with_reducible refine Kd.C_drewN ?_ _) | (with_reducible refine Kd.C_drew ?_))); (case side2 => exact HC175.out); rintro e w43 ⟨rfl, hb⟩; have n0_ := Aside0.mk (Kd.R_below (by (with_reducible repeat (first | apply Kd.R_alloc | apply Kd.R_drewN | apply Kd.R_drew)); exact HO_8.out) hb); have n1_ := Aside0.mk (below_step (by repeat (first | (with_reducible first | exact HB.out | apply below_alloc | apply pw_below_drewN | apply below_drew1) | exact HB.out)) hb); clear HO_8; clear HB; have HO_8 := n0_; have HB := n1_; clear n0_ n1_; (try clear hb); (try clear hb2); (try clear hk); (try clear hi)) | (go_at_call 26; (with_reducible refine (saltuslaw16_alive.calls kj10  true _ A40.out (Tower.tab_below HT.out (by repeat (first | (with_reducible first | exact HB.out | apply below_alloc | apply pw_below_drewN | apply below_drew1) | exact HB.out)) (Nat.le_refl _))).mono ?_); rintro e w44 ⟨rfl, hb⟩; have n0_ := Aside0.mk (Kd.R_below (by (with_reducible repeat (first | apply Kd.R_alloc | apply Kd.R_drewN | apply Kd.R_drew)); exact HO_8.out) hb); have n1_ := Aside0.mk (below_step (by repeat (first | (with_reducible first | exact HB.out | apply below_alloc | apply pw_below_drewN | apply below_drew1) | exact HB.out)) hb); clear HO_8; clear HB; have HO_8 := n0_; have HB := n1_; clear n0_ n1_; (try clear hb); (try clear hb2); (try clear hk); (try clear hi)))
          repeat (go_quiet (first | (go_at_call 25; (with_reducible refine (saltusref16_Right.calls kj10 _ _ y172 false _ ?side1 ?side2 A16.out).mono ?_); (case side1 => repeat (first | exact (Kd.C_below HR175.out HB.out) | (with_reducible refine Kd.C_alloc ?_ _) | (with_reducible refine Kd.C_drewN ?_ _) | (with_reducible refine Kd.C_drew ?_))); (case side2 => exact HC175.out); rintro e w43 ⟨rfl, hb⟩; have n0_ := Aside0.mk (Kd.R_below (by (with_reducible repeat (first | apply Kd.R_alloc | apply Kd.R_drewN | apply Kd.R_drew)); exact HO_8.out) hb); have n1_ := Aside0.mk (below_step (by repeat (first | (with_reducible first | exact HB.out | apply below_alloc | apply pw_below_drewN | apply below_drew1) | exact HB.out)) hb); clear HO_8; clear HB; have HO_8 := n0_; have HB := n1_; clear n0_ n1_; (try clear hb); (try clear hb2); (try clear hk); (try clear hi)) | (go_at_call 26; (with_reducible refine (saltuslaw16_alive.calls kj10  true _ A40.out (Tower.tab_below HT.out (by repeat (first | (with_reducible first | exact HB.out | apply below_alloc | apply pw_below_drewN | apply below_drew1) | exact HB.out)) (Nat.le_refl _))).mono ?_); rintro e w44 ⟨rfl, hb⟩; have n0_ := Aside0.mk (Kd.R_below (by (with_reducible repeat (first | apply Kd.R_alloc | apply Kd.R_drewN | apply Kd.R_drew)); exact HO_8.out) hb); have n1_ := Aside0.mk (below_step (by repeat (first | (with_reducible first | exact HB.out | apply below_alloc | apply pw_below_drewN | apply below_drew1) | exact HB.out)) hb); clear HO_8; clear HB; have HO_8 := n0_; have HB := n1_; clear n0_ n1_; (try clear hb); (try clear hb2); (try clear hk); (try clear hi))); try go_wp2_with (first | (go_at_call 25; (with_reducible refine (saltusref16_Right.calls kj10 _ _ y172 false _ ?side1 ?side2 A16.out).mono ?_); (case side1 => repeat (first | exact (Kd.C_below HR175.out HB.out) | (with_reducible refine Kd.C_alloc ?_ _) | (with_reducible refine Kd.C_drewN ?_ _) | (with_reducible refine Kd.C_drew ?_))); (case side2 => exact HC175.out); rintro e w43 ⟨rfl, hb⟩; have n0_ := Aside0.mk (Kd.R_below (by (with_reducible repeat (first | apply Kd.R_alloc | apply Kd.R_drewN | apply Kd.R_drew)); exact HO_8.out) hb); have n1_ := Aside0.mk (below_step (by repeat (first | (with_reducible first | exact HB.out | apply below_alloc | apply pw_below_drewN | apply below_drew1) | exact HB.out)) hb); clear HO_8; clear HB; have HO_8 := n0_; have HB := n1_; clear n0_ n1_; (try clear hb); (try clear hb2); (try clear hk); (try clear hi)) | (go_at_call 26; (with_reducible refine (saltuslaw16_alive.calls kj10  true _ A40.out (Tower.tab_below HT.out (by repeat (first | (with_reducible first | exact HB.out | apply below_alloc | apply pw_below_drewN | apply below_drew1) | exact HB.out)) (Nat.le_refl _))).mono ?_); rintro e w44 ⟨rfl, hb⟩; have n0_ := Aside0.mk (Kd.R_below (by (with_reducible repeat (first | apply Kd.R_alloc | apply Kd.R_drewN | apply Kd.R_drew)); exact HO_8.out) hb); have n1_ := Aside0.mk (below_step (by repeat (first | (with_reducible first | exact HB.out | apply below_alloc | apply pw_below_drewN | apply below_drew1) | exact HB.out)) hb); clear HO_8; clear HB; have HO_8 := n0_; have HB := n1_; clear n0_ n1_; (try clear hb); (try clear hb2); (try clear hk); (try clear hi))))
          go_ret
          exact ⟨by first | rfl | (simp [errW_none, errW_some] <;> rfl) | (simp only [← hji4, ← hji7]; first | rfl | (simp [errW_none, errW_some] <;> rfl)) | (simp [*, errW_none, errW_some] <;> rfl), by repeat (first | (with_reducible first | exact HB.out | apply below_alloc | apply pw_below_drewN | apply below_drew1) | exact HB.out)⟩
         ·rw [if_neg c42] at H
          have c42b0 : (t178 == 1) = false := beq_eq_false_iff_ne.mpr c42
          have c42b1 : (t178 != 1) = true := bne_iff_ne.mpr c42
          exact absurd ((Option.some.inj H).trans hr.out) (by decide)
        ·replace c41 := Bool.eq_false_iff.mpr c41
         subst c41
         have H1 : (some false) = some r := by rw [if_neg (show ¬ (false = true) by decide)] at H; exact H
         clear H
         have H := H1
         clear H1
         exact absurd ((Option.some.inj H).trans hr.out) (by decide)
    ·rw [if_neg c9] at H
     exact absurd H (by simp)
   ·rw [if_neg c8] at H
    exact absurd H (by simp)
  ·rw [if_neg c6] at H
   exact absurd H (by simp)
 ·rw [if_neg c5] at H
  exact absurd H (by simp)
end Go.Proofs.YtolbhliepkcihaaDoor.QSF
end
section
namespace Go.Proofs.YtolbhliepkcihaaDoor.SkipPure
open Go.RowKit Go.Proofs.YtolbhliepkcihaaDoor.Kinds Go.Proofs.YtolbhliepkcihaaDoor.QSF Go.Proofs.YtolbhliepkcihaaDoorW.PrintWords Go.Proofs.YtolbhliepkcihaaDoorW.PrintLast Go.Proofs.YtolbhliepkcihaaDoorW.PrintMore Go.Proofs.YtolbhliepkcihaaDoor.Sha Go.Proofs.YtolbhliepkcihaaDoor.Mac Go.Proofs.YtolbhliepkcihaaDoor.Codec Go.Proofs.YtolbhliepkcihaaDoor.Tower
abbrev Item := S46
abbrev Hop := S48
def it (l : List Item) (i : Nat) : Item := rd_T46 l (i : Int)
def ky (l : List Item) (i : Nat) : Int := (it l i).f0
theorem w_succ (i n : Nat) (h : i < n) (hn : n ≤ 1000000000) : wrap64 ((i : Int) + 1) = ((i + 1 : Nat) : Int) := by unfold wrap64; omega
theorem mn_nat (a b : Nat) : mn (a : Int) (b : Int) = ((min a b : Nat) : Int) := by unfold mn; split <;> omega
/-! ### a tower's height, by halving -/
/-! ### a list that may be -/
def okAt (l : List Item) (i : Nat) : Prop := (it l i).f1.size ≤ 64 ∧ (0 < i → ky l (i - 1) < ky l i)
def RightP (l : List Item) : Prop := (∀ i, i < l.length → okAt l i) ∧ l.length ≤ 64
theorem right_l0 (l : List Item) (hn : l.length ≤ 100000) (d : Nat) : ∀ i, i + d = l.length → (∀ j, j < i → okAt l j) →
  (RightP l ∧ Ev (fun k => skip_Right.l0 k l l (l.length : Int) (i : Int)) true) ∨ (¬RightP l ∧ Ev (fun k => skip_Right.l0 k l l (l.length : Int) (i : Int)) false) := by
 induction d with
 | zero =>
  intro i hi hp
  obtain rfl : i = l.length := by omega
  by_cases h : l.length ≤ 64
  ·refine .inl ⟨⟨hp, h⟩, Ev.step (fun k => ?_) (Ev.now true)⟩
   rw [skip_Right.l0, if_neg (by omega), decide_eq_true (show (l.length : Int) ≤ 64 by omega)]
  ·refine .inr ⟨fun hr => h hr.2, Ev.step (fun k => ?_) (Ev.now false)⟩
   rw [skip_Right.l0, if_neg (by omega), decide_eq_false (show ¬ (l.length : Int) ≤ 64 by omega)]
 | succ d ih =>
  intro i hi hp
  by_cases hs : (it l i).f1.size ≤ 64
  ·by_cases h0 : i = 0
   ·subst h0
    have hok : okAt l 0 := ⟨hs, fun h => absurd h (by omega)⟩
    have st : ∀ k, skip_Right.l0 (k + 1) l l (l.length : Int) ((0 : Nat) : Int) = skip_Right.l0 k l l (l.length : Int) ((0 + 1 : Nat) : Int) := fun k => by
     rw [skip_Right.l0, if_pos (by omega), if_pos (by omega), if_pos (by omega), if_neg (show ¬ ((((rd_T46 l ((0 : Nat) : Int)).f1).size : Int) > 64) by have := hs; unfold it at this; omega), if_neg (by omega), w_succ 0 l.length (by omega) (by omega)]
    rcases ih 1 (by omega) (fun j hj => by
     obtain rfl : j = 0 := (by omega)
     exact hok) with ⟨h1, h2⟩ | ⟨h1, h2⟩
    ·exact .inl ⟨h1, Ev.step st h2⟩
    ·exact .inr ⟨h1, Ev.step st h2⟩
   ·have ew : wrap64 ((i : Int) - 1) = ((i - 1 : Nat) : Int) := by unfold wrap64; omega
    by_cases hk : ky l (i - 1) < ky l i
    ·have hok : okAt l i := ⟨hs, fun _ => hk⟩
     have st : ∀ k, skip_Right.l0 (k + 1) l l (l.length : Int) (i : Int) = skip_Right.l0 k l l (l.length : Int) ((i + 1 : Nat) : Int) := fun k => by
      rw [skip_Right.l0, if_pos (by omega), if_pos (by omega), if_pos (by omega), if_neg (show ¬ ((((rd_T46 l (i : Int)).f1).size : Int) > 64) by have := hs; unfold it at this; omega), if_pos (by omega), ew, if_pos (by omega), if_pos (by omega),
       if_neg (show ¬ ((rd_T46 l ((i - 1 : Nat) : Int)).f0 ≥ (rd_T46 l (i : Int)).f0) by have := hk; unfold ky it at this; omega), w_succ i l.length (by omega) (by omega)]
     rcases ih (i + 1) (by omega) (fun j hj => by
      by_cases e : j = i
      ·subst e; exact hok
      ·exact hp j (by omega)) with ⟨h1, h2⟩ | ⟨h1, h2⟩
     ·exact .inl ⟨h1, Ev.step st h2⟩
     ·exact .inr ⟨h1, Ev.step st h2⟩
    ·refine .inr ⟨fun hr => hk ((hr.1 i (by omega)).2 (by omega)), Ev.step (fun k => ?_) (Ev.now false)⟩
     rw [skip_Right.l0, if_pos (by omega), if_pos (by omega), if_pos (by omega), if_neg (show ¬ ((((rd_T46 l (i : Int)).f1).size : Int) > 64) by have := hs; unfold it at this; omega), if_pos (by omega), ew, if_pos (by omega), if_pos (by omega),
       if_pos (show ((rd_T46 l ((i - 1 : Nat) : Int)).f0 ≥ (rd_T46 l (i : Int)).f0) by have := hk; unfold ky it at this; omega)]
  ·refine .inr ⟨fun hr => hs (hr.1 i (by omega)).1, Ev.step (fun k => ?_) (Ev.now false)⟩
   rw [skip_Right.l0, if_pos (by omega), if_pos (by omega), if_pos (by omega), if_pos (show ((((rd_T46 l (i : Int)).f1).size : Int) > 64) by have := hs; unfold it at this; omega)]
theorem right_ev (l : List Item) (hn : l.length ≤ 100000) : (RightP l ∧ Ev (fun k => skip_Right.f k l) true) ∨ (¬RightP l ∧ Ev (fun k => skip_Right.f k l) false) :=
 right_l0 l hn l.length 0 (by omega) (fun j hj => absurd hj (by omega))
theorem asc (l : List Item) (n : Nat) (h : ∀ j, j < n → okAt l j) (b : Nat) : ∀ a, a < b → b < n → ky l a < ky l b := by
 induction b with
 | zero => intro a ha; omega
 | succ b ih =>
  intro a ha hb
  have h1 := (h (b + 1) hb).2 (by omega)
  rw [show b + 1 - 1 = b from rfl] at h1
  by_cases e : a = b
  ·subst e; exact h1
  ·have := ih a (by omega) (by omega)
   omega
theorem it_take (l : List Item) (i j : Nat) (h : j < i) (_ : i ≤ l.length) : rd_T46 (l.take i) (j : Int) = it l j := by
 unfold it rd_T46
 rw [Int.toNat_natCast, List.getD_eq_getElem?_getD, List.getD_eq_getElem?_getD, List.getElem?_take, if_pos h]
theorem refright_l1 (l : List Item) (hn : l.length ≤ 100000) (i : Nat) (hi : i < l.length) (x : Int) (v : ByteArray) (e : Nat) : ∀ j, j + e = i →
  ((∀ q, j ≤ q → q < i → ky l q < x) → ∀ r, Ev (fun k => saltusref16_Right.l0 k l l (l.length : Int) ((i + 1 : Nat) : Int)) r → Ev (fun k => saltusref16_Right.l1 k l l (l.length : Int) (i : Int) (l.take i) ((l.take i).length : Int) (j : Int) x v) r) ∧
  ((∃ q, j ≤ q ∧ q < i ∧ ¬ky l q < x) → Ev (fun k => saltusref16_Right.l1 k l l (l.length : Int) (i : Int) (l.take i) ((l.take i).length : Int) (j : Int) x v) false) := by
 have hz : (l.take i).length = i := by rw [List.length_take]; omega
 induction e with
 | zero =>
  intro j hj
  obtain rfl : j = i := by omega
  refine ⟨fun _ r hr => Ev.step (fun k => ?_) hr, fun ⟨q, h1, h2, _⟩ => by omega⟩
  rw [saltusref16_Right.l1, if_neg (by omega), w_succ j l.length hi (by omega)]
 | succ e ih =>
  intro j hj
  obtain ⟨ih1, ih2⟩ := ih (j + 1) (by omega)
  by_cases hk : ky l j < x
  ·have st : ∀ k, saltusref16_Right.l1 (k + 1) l l (l.length : Int) (i : Int) (l.take i) ((l.take i).length : Int) (j : Int) x v = saltusref16_Right.l1 k l l (l.length : Int) (i : Int) (l.take i) ((l.take i).length : Int) ((j + 1 : Nat) : Int) x v := fun k => by
    rw [saltusref16_Right.l1, if_pos (by omega), if_pos (by omega), if_pos (by omega), it_take l i j (by omega) (by omega), if_neg (show ¬ ((it l j).f0 ≥ x) by have := hk; unfold ky at this; omega), w_succ j l.length (by omega) (by omega)]
   refine ⟨fun h r hr => Ev.step st (ih1 (fun q h1 h2 => h q (by omega) h2) r hr), fun ⟨q, h1, h2, h3⟩ => Ev.step st (ih2 ⟨q, ?_, h2, h3⟩)⟩
   by_cases e : q = j
   ·subst e; exact absurd hk h3
   ·omega
  ·refine ⟨fun h => absurd (h j (Nat.le_refl _) (by omega)) hk, fun _ => Ev.step (fun k => ?_) (Ev.now false)⟩
   rw [saltusref16_Right.l1, if_pos (by omega), if_pos (by omega), if_pos (by omega), it_take l i j (by omega) (by omega), if_pos (show ((it l j).f0 ≥ x) by have := hk; unfold ky at this; omega)]
theorem refright_l0 (l : List Item) (hn : l.length ≤ 100000) (d : Nat) : ∀ i, i + d = l.length → (∀ j, j < i → okAt l j) →
  (RightP l ∧ Ev (fun k => saltusref16_Right.l0 k l l (l.length : Int) (i : Int)) true) ∨ (¬RightP l ∧ Ev (fun k => saltusref16_Right.l0 k l l (l.length : Int) (i : Int)) false) := by
 induction d with
 | zero =>
  intro i hi hp
  obtain rfl : i = l.length := by omega
  by_cases h : l.length ≤ 64
  ·refine .inl ⟨⟨hp, h⟩, Ev.step (fun k => ?_) (Ev.now true)⟩
   rw [saltusref16_Right.l0, if_neg (by omega), decide_eq_true (show (l.length : Int) ≤ 64 by omega)]
  ·refine .inr ⟨fun hr => h hr.2, Ev.step (fun k => ?_) (Ev.now false)⟩
   rw [saltusref16_Right.l0, if_neg (by omega), decide_eq_false (show ¬ (l.length : Int) ≤ 64 by omega)]
 | succ d ih =>
  intro i hi hp
  by_cases hs : (it l i).f1.size ≤ 64
  ·have st : ∀ k, saltusref16_Right.l0 (k + 1) l l (l.length : Int) (i : Int) = saltusref16_Right.l1 k l l (l.length : Int) (i : Int) (l.take i) ((l.take i).length : Int) ((0 : Nat) : Int) (ky l i) (it l i).f1 := fun k => by
    rw [saltusref16_Right.l0, if_pos (by omega), if_pos (by omega), if_pos (by omega), if_neg (show ¬ ((((rd_T46 l (i : Int)).f1).size : Int) > 64) by have := hs; unfold it at this; omega), if_pos (by omega), Int.toNat_natCast, Option.bind_some]
    rfl
   obtain ⟨g1, g2⟩ := refright_l1 l hn i (by omega) (ky l i) (it l i).f1 i 0 (by omega)
   by_cases hk : 0 < i → ky l (i - 1) < ky l i
   ·have hok : okAt l i := ⟨hs, hk⟩
    have hp2 : ∀ j, j < i + 1 → okAt l j := fun j hj => by
     by_cases e : j = i
     ·subst e; exact hok
     ·exact hp j (by omega)
    have hall : ∀ q, 0 ≤ q → q < i → ky l q < ky l i := fun q _ hq => asc l (i + 1) hp2 i q hq (by omega)
    rcases ih (i + 1) (by omega) hp2 with ⟨h1, h2⟩ | ⟨h1, h2⟩
    ·exact .inl ⟨h1, Ev.step st (g1 hall true h2)⟩
    ·exact .inr ⟨h1, Ev.step st (g1 hall false h2)⟩
   ·refine .inr ⟨fun hr => hk (hr.1 i (by omega)).2, Ev.step st (g2 ⟨i - 1, by omega, ?_, fun h => hk fun _ => h⟩)⟩
    rcases Nat.eq_zero_or_pos i with e | e
    ·exact absurd (fun h => absurd h (by omega)) hk
    ·omega
  ·refine .inr ⟨fun hr => hs (hr.1 i (by omega)).1, Ev.step (fun k => ?_) (Ev.now false)⟩
   rw [saltusref16_Right.l0, if_pos (by omega), if_pos (by omega), if_pos (by omega), if_pos (show ((((rd_T46 l (i : Int)).f1).size : Int) > 64) by have := hs; unfold it at this; omega)]
theorem refright_ev (l : List Item) (hn : l.length ≤ 100000) : (RightP l ∧ Ev (fun k => saltusref16_Right.f k l) true) ∨ (¬RightP l ∧ Ev (fun k => saltusref16_Right.f k l) false) :=
 refright_l0 l hn l.length 0 (by omega) (fun j hj => absurd hj (by omega))
end Go.Proofs.YtolbhliepkcihaaDoor.SkipPure
end
