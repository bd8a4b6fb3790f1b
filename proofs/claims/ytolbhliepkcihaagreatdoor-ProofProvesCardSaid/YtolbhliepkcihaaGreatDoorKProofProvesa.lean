/- Joined by a program of this session (wip/pack.py) for this claim: Laid, ItemRow, Build, Join, LabSpec, LabStub, LabRef0, QLAx0, QLAx1, QLAx2, QLAx3, QLFx0, QLFx1, LabPure, LabJoin, LabIdx, LabJoin2, ShelfF, LabGrp, LabDel, LabRow0, LabRow1, QSFx0, QSFx1, QSFx2. -/
import Derived.Test.YtolbhliepkcihaaGreatDoorRows
import Derived.Test.YtolbhliepkcihaaGreatDoorBaseH
import Derived.ProofKit
import Derived.LaidMore
import Derived.OpenShut
import Derived.Stop.Joined
import Derived.Deep.Slices
import Derived.ChangeSame
import Derived.Test.YtolbhliepkcihaaGreatDoorBaseF
import Derived.Test.YtolbhliepkcihaaGreatDoorBaseC
import Derived.Shelf.Strings.OnBuilder
import Derived.Lib.Builder
import Derived.Lib.AppendStr
import Derived.Laws.Externs
import Derived.Test.YtolbhliepkcihaaGreatDoorProg
import Derived.Below
import Derived.Deep.Draws
import Derived.Deep.AppendLies
import Derived.Maps.AppendAt
import Derived.OwnWalk
import Derived.Laws.BytesArg
import Derived.Laws.MakeOwn
import Derived.Laws.OwnMore
import Derived.Deep.OwnRows
import Derived.Tactics
import Derived.Lib.ConvBytes
import Derived.Laws.Slices
import Derived.WalkKit
import Derived.KernelRfl
import Derived.RowKit3
import Derived.Deep.LoopGhost
import Derived.Deep.QuietTactic
import Derived.BigQuiet
import Derived.WideLaws
import Derived.Deep.DeepCutAuto
import Derived.Deep.CutBlock
import Derived.Deep.RegionHeld3
import Derived.Laws.Rows
import Derived.ArgAppend
import Derived.Laws.IdiomCopy
import Derived.OrdersHeld
import Derived.Laws.BitsLemmas
import Derived.RowKit
import Derived.Test.YtolbhliepkcihaaGreatDoorPWa
import Derived.Sort.OwnSortedInts
import Derived.Lib.SliceRun
section
namespace Go.Proofs.YtolbhliepkcihaaGreatDoor
open Go.ChangeShapes Go.WideShapes Go.ChangeAt Go.RowKit
def laidL : List (String × DataW Unit) := [("math/bits.deBruijn64tab", Rows.laid_math_bits_deBruijn64tab)]
theorem gTab : Tryz.prog.globalNamed "math/bits.deBruijn64tab" = some 0 := by kernel_rfl
theorem tTab : (Tryz.prog.globals[0]?).map (·.type) = some 76 := by kernel_rfl
theorem door_met (os : Os) (args : Array Value) : laidMetH Tryz.prog laidL ((World.doorLaid Tryz.prog 14 os).forCall (fun _ _ => 0) ⟨#[], args, []⟩).memory :=
 laidMetH_of_parts3 (fuel := 8) (laidMet_of_run' 8 (by kernel_rfl) (by kernel_rfl)) (by kernel_rfl) (by kernel_rfl)
theorem tab_datum : (Rows.laid_math_bits_deBruijn64tab : DataW Unit) = .agg (Lib.deBruijn64tab.map fun n : Nat => .lit (.int .u8 (n : Int))) := rfl
theorem of_laid {W : World} (h : laidMetH Tryz.prog laidL W) : Tower.TabW W := by
 rw [MakeChecks.laidMetH_plain _ _ _ (by kernel_rfl)] at h; obtain ⟨ps, ⟨g0, t0, cs0, f0, p0, q0, hg0, ht0, hv0, hd0, _, _⟩, _, _⟩ := h; obtain rfl := Option.some.inj (gTab.symm.trans hg0); obtain rfl := Option.some.inj (tTab.symm.trans ht0); obtain ⟨xs, m1, rfl, hx1, hlen, hn3, hel⟩ := DataW.trod_array Tryz.underlying76 hd0; simp only [Prod.mk.injEq] at hx1
 have c5 : Tryz.prog.cellsOf 5 = 1 := by kernel_rfl
 have hl := hx1.1; rw [tab_datum] at hl
 injection hl with hl
 intro j hj; have hxj : xs[j]? = some (xs[j]'(by omega)) := List.getElem?_eq_getElem (by omega); have h1 := congrArg (·[j]?) hl; simp only [List.getElem?_map, hxj, Option.map_some] at h1
 have ht : Lib.deBruijn64tab[j]? = some (Lib.deBruijn64tab.getD j 0) := by
  have hz : Lib.deBruijn64tab.length = 64 := rfl; rw [List.getD_eq_getElem?_getD, List.getElem?_eq_getElem (by omega)]; rfl
 rw [ht, Option.map_some] at h1; generalize Lib.deBruijn64tab.getD j 0 = tv at *; clear ht hl hlen; have h2 := Option.some.inj h1; obtain ⟨k, e1, e2, _⟩ := DataW.trod_int Tryz.underlying5 ((hel j hj).trans hxj); rw [e2] at h2
 have h2 : (tv : Int) = k := by
  clear hx1 hd0 hel h1 hxj e1
  simpa using h2
 subst h2; rw [c5, Nat.mul_one] at e1; have h3 := World.var?_cell hg0 hv0 j; rw [h3]
 have h4 : (List.take 1 (List.drop j cs0.toList))[0]? = some (Value.int .u8 (tv : Int)) := by rw [e1]; rfl
 rw [List.getElem?_take, if_pos (by decide), List.getElem?_drop] at h4
 simpa using h4
end Go.Proofs.YtolbhliepkcihaaGreatDoor
end
section
namespace Go.Proofs.YtolbhliepkcihaaGreatDoor
open Go.ChangeShapes Go.WideShapes Go.Deep Go.RowKit Kinds YtolbhliepkcihaaGreatDoorW.PrintWords
theorem u64_wf {n : Int} (h : (Lit.int .u64 n).wf = true) : 0 ≤ n ∧ n ≤ 18446744073709551615 := by simpa [Lit.wf, IntKind.min, IntKind.max, IntKind.signed, IntKind.bits] using h
theorem row_items {H : Type} {enc : TypeId × Value → H} {W : World} {base : Nat} {spare : Nat → Bool} {held : Bool} {fuel : Nat} {A : Option Addr} {len cap : Nat} {x : DataW H × List MemPlace}
  (h : DataW.trod enc Tryz.prog W base spare held fuel 22 (Value.cells (.slice A len cap)).toList = some x) :
  ∃ l : List S44, l.length = len ∧ len ≤ cap ∧ Kd.C k44 W A l.length l ∧ ∀ y, y ∈ l → 0 ≤ y.f0 ∧ y.f0 ≤ 18446744073709551615 ∧ y.f1.size ≤ 9223372036854775807 := by
 rcases open_slice Tryz.underlying22 h with ⟨hcs, _⟩ | ⟨a, len', cap', m, n, D, Pl, hcs, _, hl, hm, hmm, _, hi⟩
 ·simp [Value.cells] at hcs; obtain ⟨rfl, rfl, rfl⟩ := hcs; exact ⟨[], rfl, Nat.le_refl _, Kd.C_nil _ _, fun y hy => by cases hy⟩
 ·simp [Value.cells] at hcs; obtain ⟨rfl, rfl, rfl⟩ := hcs
  have c2 : Tryz.prog.cellsOf 44 = 2 := by kernel_rfl
  have cu : Tryz.prog.cellsOf 23 = 1 := by kernel_rfl
  have cs1 : Tryz.prog.cellsOf 9 = 1 := by kernel_rfl
  have hlm : len ≤ m := by
   rw [hmm]
   split
   ·exact hl
   ·exact Nat.le_refl _
  have each : ∀ i, i < len → ∃ y : S44, (W.cell? (a.add (i * 2)) = some (.int .u64 y.f0) ∧ W.cell? (a.add (i * 2 + 1)) = some (.string y.f1)) ∧ (0 ≤ y.f0 ∧ y.f0 ≤ 18446744073709551615 ∧ y.f1.size ≤ 9223372036854775807) := by
   intro i hil; obtain ⟨cs', hc, ht⟩ := hi i (by omega); rw [c2] at hc; obtain ⟨_, hcl, hat⟩ := World.cells?_some hc; obtain ⟨xs, n', _, _, _, hlen, hf⟩ := DataW.trod_struct Tryz.underlying44 ht; have h0 := hf 0 _ rfl; have h1 := hf 1 _ rfl; have hx0 : xs[0]? = some (xs[0]'(by rw [hlen]; decide)) := List.getElem?_eq_getElem _; have hx1 : xs[1]? = some (xs[1]'(by rw [hlen]; decide)) := List.getElem?_eq_getElem _; obtain ⟨k, e0, _, wk⟩ := DataW.trod_int Tryz.underlying23 (h0.trans hx0); obtain ⟨s, e1, _, ws⟩ := DataW.trod_string Tryz.underlying9 (h1.trans hx1); have a0 := hat 0 (by decide); have a1 := hat 1 (by decide); replace e0 : List.take (Tryz.prog.cellsOf 23) (List.drop 0 cs') = [Value.int .u64 k] := e0; replace e1 : List.take (Tryz.prog.cellsOf 9) (List.drop 1 cs') = [Value.string s] := e1; rw [cu] at e0; rw [cs1] at e1
   have g0 : cs'[0]? = some (Value.int .u64 k) := by
    have h := congrArg (·[0]?) e0
    simpa using h
   have g1 : cs'[1]? = some (Value.string s) := by
    have h := congrArg (·[0]?) e1
    simpa [List.getElem?_take, List.getElem?_drop] using h
   unfold maxLen at ws
   have ad : ∀ j, (a.add (i * 2)).add j = a.add (i * 2 + j) := fun j => Deep.add_add a (i * 2) j
   rw [g0, ad] at a0; rw [g1, ad] at a1; exact ⟨⟨k, s⟩, ⟨a0, a1⟩, (u64_wf wk).1, (u64_wf wk).2, ws⟩
  haveI : Inhabited S44 := ⟨z44⟩
  obtain ⟨X, hX⟩ := choose_lt (α := S44) (p := fun i y => (W.cell? (a.add (i * 2)) = some (.int .u64 y.f0) ∧ W.cell? (a.add (i * 2 + 1)) = some (.string y.f1)) ∧ (0 ≤ y.f0 ∧ y.f0 ≤ 18446744073709551615 ∧ y.f1.size ≤ 9223372036854775807)) each
  have hz : ((List.range len).map X).length = len := by simp
  unfold maxLen at hm; refine ⟨(List.range len).map X, hz, hl, ?_, fun y hy => ?_⟩
  ·rw [hz]; refine ⟨hz, by omega, fun _ => ⟨a, rfl, fun j p hj => ?_⟩⟩
   have hjl : j < len := by
    have := (List.getElem?_eq_some_iff.1 hj).1
    omega
   have hp : X j = p := by
    rw [List.getElem?_map, List.getElem?_range hjl] at hj
    simpa using hj
   subst hp; refine ⟨[.int .u64 (X j).f0, .string (X j).f1], rfl, k44_mk W (X j), fun i u hu => ?_⟩
   match i, hu with
   | 0, hu =>
    have hu : Value.int .u64 (X j).f0 = u := by simpa using hu
    subst hu; exact (hX j hjl).1.1
   | 1, hu =>
    have hu : Value.string (X j).f1 = u := by simpa using hu
    subst hu; exact (hX j hjl).1.2
  ·obtain ⟨i, hi2, rfl⟩ := List.mem_map.1 hy; exact (hX i (List.mem_range.1 hi2)).2
end Go.Proofs.YtolbhliepkcihaaGreatDoor
end
section
namespace Go.Proofs.YtolbhliepkcihaaGreatDoor.Build
open Go.RowKit YtolbhliepkcihaaGreatDoorW.PrintWords Sha Mac Codec
theorem b_info : (Tryz.prog.info? 103).map (·.size) = some 2 := by kernel_rfl
theorem b_lies : liesAt Tryz.prog Tryz.prog.depth 103 (2 / Tryz.prog.cellsOf 103) 0 103 1 = true := by kernel_rfl
theorem u8_info : (Tryz.prog.info? 5).map (fun i => (i.zero, i.size, i.bytes)) = some (some (.int .u8 0), 1, 1) := by kernel_rfl
set_option maxHeartbeats 1000000 in
set_option maxRecDepth 100000 in
theorem check_used (b : Nat) (w : World) (h0 : w.cell? ⟨b, 0, none⟩ = some (.pointer (some ⟨b, 0, none⟩))) :
  Calls Tryz.prog 92 #[.pointer (some ⟨b, 0, none⟩)] w fun e w' => e = .returned (.tuple #[]) ∧ w' = w := by
 obtain ⟨j, hj, _⟩ := Option.map_eq_some_iff.1 b_info; have hq := Lib.run_neq_ptr_same (P := Tryz.prog) w ⟨b, 0, none⟩ Tryz.underlying101 hj
 go_enter Tryz.func92, Tryz.ntmps92
 go_wp2
 go_end0
 exact ⟨rfl, rfl⟩
set_option maxHeartbeats 1000000 in
set_option maxRecDepth 100000 in
theorem check_fresh (b : Nat) (w : World) (h0 : w.cell? ⟨b, 0, none⟩ = some (.pointer none)) (hsh : w.shape? b = some (103, 2)) (hfz : w.frozen? ⟨b, 0, none⟩ = false) :
  Calls Tryz.prog 92 #[.pointer (some ⟨b, 0, none⟩)] w fun e w' => e = .returned (.tuple #[]) ∧ w' = w.setCell ⟨b, 0, none⟩ (.pointer (some ⟨b, 0, none⟩)) := by
 obtain ⟨j, hj, hjs⟩ := Option.map_eq_some_iff.1 b_info
 go_enter Tryz.func92, Tryz.ntmps92
 go_wp2; rw [Lib.run_to_unsafe w ⟨b, 0, none⟩ Tryz.underlying101 Tryz.underlying140 hj (by rw [hjs]; decide) hsh (Nat.zero_lt_succ 1)]; simp only [Result.andThen]; rw [Oper.upon_value]; go_wp2; rw [run_callFunc_extern Tryz.func105 (by kernel_rfl) (by kernel_rfl) (by kernel_rfl) (e := Extern.AbiNoEscape.same) (by kernel_rfl)]; rw [Lib.run_noEscape]; simp only [Result.andThen]; rw [Oper.upon_value]; go_wp2; rw [Lib.run_from_unsafe w ⟨b, 0, none⟩ Tryz.underlying140 Tryz.underlying101 hj hsh b_lies]; simp only [Result.andThen]; rw [Oper.upon_value]; go_wp2
 go_end0
 exact ⟨rfl, rfl⟩
theorem check_any (B b : Nat) (bs : List Value) (w : World) (h : Lib.IsBuilder 103 5 B b bs w) :
  Calls Tryz.prog 92 #[.pointer (some ⟨b, 0, none⟩)] w fun e w' => e = .returned (.tuple #[]) ∧ (Lib.BuilderAt 103 5 B b (.pointer (some ⟨b, 0, none⟩)) bs w' ∧ Below B w w') := by
 rcases h with h | h
 ·refine (check_fresh b w h.cell0 h.shape h.frozen0).mono ?_
  rintro e w' ⟨rfl, rfl⟩
  exact ⟨rfl, h.used _, (Below.refl B w).setCell (p := ⟨b, 0, none⟩) h.1 _⟩
 ·refine (check_used b w h.cell0).mono ?_
  rintro e w' ⟨rfl, rfl⟩
  exact ⟨rfl, h, Below.refl B _⟩
set_option maxHeartbeats 2000000 in
set_option maxRecDepth 100000 in
theorem write_any (B b : Nat) (bs : List Value) (s : ByteArray) (w : World) (h : Lib.IsBuilder 103 5 B b bs w) (hlen : bs.length + s.size ≤ 140737488355328) (hBw : B ≤ w.heap.size) :
  Calls Tryz.prog 73 #[.pointer (some ⟨b, 0, none⟩), .string s] w fun e w' => e = .returned (.tuple #[.int .i64 s.size, .nilIface]) ∧ (Lib.BuilderAt 103 5 B b (.pointer (some ⟨b, 0, none⟩)) (bs ++ Lib.strCells s) w' ∧ Below B w w') := by
 obtain ⟨i0, hi, hz0, hz1, hz2⟩ := info_parts u8_info
 go_enter Tryz.func73, Tryz.ntmps73
 go_wp2_with (go_at_call 92; refine (check_any B b bs _ h).mono ?_)
 rintro e w1 ⟨rfl, h1, hb1⟩
 obtain ⟨hB, v, hbk, hown, hne⟩ := h1
 have c0 : w1.cell? ⟨b, 0, none⟩ = some (.pointer (some ⟨b, 0, none⟩)) := by rw [Lib.cell_of_heap hbk]; rfl
 have c1 : w1.cell? ⟨b, 1, none⟩ = some v := by rw [Lib.cell_of_heap hbk]; rfl
 go_wp2_with (at_builtin; refine Lib.wpList_append_own_string _ rfl _ _ 74 9 rfl B 5 i0 Tryz.underlying74 Tryz.underlying9 hi hz0 hz1 hz2 _ _ _ rfl hown s rfl ?c3 ?c4 ?c5 ?_)
 case c3 => unfold maxLen; omega
 case c4 => omega
 case c5 => have := hb1.size; omega
 intro v' w2 hown' hgrow _
 have hlt : b < w1.heap.size := by
  rcases Nat.lt_or_ge b w1.heap.size with h' | h'
  ·exact h'
  ·simp [Array.getElem?_eq_none h'] at hbk
 have hb2 : w2.heap[b]? = some (.cells #[.pointer (some ⟨b, 0, none⟩), v] 103 (0, 0)) := by
  rw [hgrow.block b hlt (fun e => hne e.symm)]; exact hbk
 have d0 : w2.cell? ⟨b, 0, none⟩ = some (.pointer (some ⟨b, 0, none⟩)) := by rw [Lib.cell_of_heap hb2]; rfl
 have d1 : w2.cell? ⟨b, 1, none⟩ = some v := by rw [Lib.cell_of_heap hb2]; rfl
 have f1 : w2.frozen? ⟨b, 1, none⟩ = false := Lib.frozen_of_heap hb2 1
 obtain ⟨ao, n', cap, rfl⟩ : ∃ ao n' cap, v' = .slice ao n' cap := by
  rcases hown'.2 with ⟨hv, _⟩ | ⟨g, cap, cur, hv, _⟩
  ·exact ⟨_, _, _, hv⟩
  ·exact ⟨_, _, _, hv⟩
 go_wp2
 go_ret2
 refine ⟨rfl, ?_, ?_⟩
 ·exact Lib.BuilderAt.put (T := 103) (e := 5) hB hb2 (bs' := bs ++ Lib.strCells s) (by simpa [Lib.strCells_length] using hown') (by decide)
 ·exact (hb1.grown hgrow (by have := hb1.size; omega) (fun k hk => (hown.lt k hk).1)).setCell (p := ⟨b, 1, none⟩) hB _
end Go.Proofs.YtolbhliepkcihaaGreatDoor.Build
end
section
namespace Go.Proofs.YtolbhliepkcihaaGreatDoor.Build
open Go.RowKit YtolbhliepkcihaaGreatDoorW.PrintWords Kinds Sha Mac Codec
def catS : List ByteArray → ByteArray
 | [] => ⟨#[]⟩
 | s :: l => s ++ catS l
theorem cat_app : ∀ a b : List ByteArray, catS (a ++ b) = catS a ++ catS b
 | [], b => (ByteArray.empty_append (b := catS b)).symm
 | s :: a, b => by
  show s ++ catS (a ++ b) = s ++ catS a ++ catS b
  rw [cat_app a b, ByteArray.append_assoc]
theorem cat_one (s : ByteArray) : catS [s] = s := ByteArray.append_empty (b := s)
theorem cat_take (l : List ByteArray) (k : Nat) (h : k < l.length) : catS (l.take (k + 1)) = catS (l.take k) ++ l[k] := by
 rw [List.take_succ_eq_append_getElem h, cat_app, cat_one]
theorem cat_mono (l : List ByteArray) (k : Nat) : (catS (l.take k)).size ≤ (catS l).size := by
 have h := cat_app (l.take k) (l.drop k); rw [List.take_append_drop] at h; rw [h, ByteArray.size_append]
 omega
theorem cells_app (a b : ByteArray) : Lib.strCells (a ++ b) = Lib.strCells a ++ Lib.strCells b := by
 rw [Lib.strCells_eq, Lib.strCells_eq, Lib.strCells_eq, ← Lib.byteCells_append]; rfl
theorem cells_nil : Lib.strCells ⟨#[]⟩ = [] := rfl
theorem below_grows {B : Nat} {w w' : World} (h : Below B w w') (row : Option Nat) (hB : w.heap.size ≤ B) : w.grownBy w' row := ⟨h.os, h.tape, h.output, h.size, fun i hi _ => h.block i (by omega)⟩
theorem bat_below {T e : TypeId} {B b : Nat} {p : Value} {bs : List Value} {w w' : World} (h : Lib.BuilderAt T e B b p bs w) (hb : Below w.heap.size w w') : Lib.BuilderAt T e B b p bs w' := by
 have hlt := h.lt; obtain ⟨hB, v, h1, h2, h3⟩ := h; refine ⟨hB, v, (hb.block b hlt).trans h1, h2.kept (row := none) (below_grows hb none (Nat.le_refl _)) (by cases v.ownBlock <;> simp), h3⟩
theorem str_at {w : World} {A : Option Addr} {l : List ByteArray} (h : Kd.C Kd.string w A l.length l) (h0 : 0 < l.length) : ∃ ad, A = some ad ∧ ∀ k, (hk : k < l.length) → w.cell? (ad.add k) = some (.string l[k]) := by
 obtain ⟨ad, e, _⟩ := h.2.2 h0; refine ⟨ad, e, fun k hk => ?_⟩; obtain ⟨ad', c, e', _, hK, hc⟩ := Kd.C_get h (⟨#[]⟩ : ByteArray) (k : Int) (by omega) (by omega); rw [e] at e'; cases e'; obtain rfl := hK; have h1 := hc 0 _ rfl
 have h2 : l.getD k (⟨#[]⟩ : ByteArray) = l[k] := by rw [List.getD_eq_getElem?_getD, List.getElem?_eq_getElem hk]; rfl
 have h3 : (k : Int).toNat * Kd.string.sz + 0 = k := by show (k : Int).toNat * 1 + 0 = k; omega
 rw [h3, Int.toNat_natCast, h2] at h1; exact h1
theorem add_succ_at (a : Addr) (k : Nat) : a.add (k + 1) = ⟨a.block, a.off + 1 + k, none⟩ := by unfold Addr.add; rw [if_neg (by omega)]; congr 1; omega
theorem add0 (a : Addr) : a.add 0 = a := by unfold Addr.add; simp
/-! ### strings.Join, no separator -/
set_option maxRecDepth 100000 in
theorem sjoin_none (A : Option Addr) (c : Nat) (w : World) : Calls Tryz.prog 55 #[.slice A 0 c, .string ⟨#[]⟩] w fun e w' => e = .returned (.string ⟨#[]⟩) ∧ Below w.heap.size w w' := by
 go_enter Tryz.func55, Tryz.ntmps55
 go_wp2; go_ret; exact ⟨rfl, Below.refl _ _⟩
set_option maxRecDepth 100000 in
theorem sjoin_one (ad : Addr) (c : Nat) (s : ByteArray) (w : World) (hx : w.cell? ad = some (.string s)) : Calls Tryz.prog 55 #[.slice (some ad) 1 c, .string ⟨#[]⟩] w fun e w' => e = .returned (.string s) ∧ Below w.heap.size w w' := by
 go_enter Tryz.func55, Tryz.ntmps55
 go_wp2; go_ret; exact ⟨rfl, Below.refl _ _⟩
set_option maxRecDepth 100000 in
set_option maxHeartbeats 4000000 in
theorem sjoin_many (ad : Addr) (c : Nat) (l : List ByteArray) (w : World) (h2 : 2 ≤ l.length) (hc : l.length ≤ c) (hn : l.length ≤ 1000000) (hz : (catS l).size ≤ 1000000000000) (hx : ∀ k, (hk : k < l.length) → w.cell? (ad.add k) = some (.string l[k])) :
  Calls Tryz.prog 55 #[.slice (some ad) l.length c, .string ⟨#[]⟩] w fun e w' => e = .returned (.string (catS l)) ∧ Below w.heap.size w w' := by
 have HX := Lib.hid hx
 have d0 : ((l.length : Int) == 0) = false := by rw [beq_eq_false_iff_ne]; omega
 have d1 : ((l.length : Int) == 1) = false := by rw [beq_eq_false_iff_ne]; omega
 have e0 : (l.length == 0) = false := by rw [beq_eq_false_iff_ne]; omega
 have e1 : (l.length == 1) = false := by rw [beq_eq_false_iff_ne]; omega
 have hc1 : ¬ c = 1 := by omega
 have H2 := qf h2; have HZ := qf hz; clear hx h2 hz
 go_enter Tryz.func55, Tryz.ntmps55
 go_wp2
 go_loop [5, 41] (fun nv iv => ∃ k : Nat, k ≤ l.length ∧ iv = .int .i64 k ∧ nv = .int .i64 ((catS (l.take k)).size : Nat)) (fun _ iv => l.length - (intOf iv).toNat)
 case atStart => exact ⟨0, Nat.zero_le _, rfl, rfl⟩
 case round =>
  obtain ⟨k, hk, rfl, rfl⟩ := hrel; have hm := cat_mono l k; have hzz := HZ.out
  by_cases hlt : k < l.length
  ·have hcx := HX.out k hlt; have hct := cat_take l k hlt; have hm2 := cat_mono l (k + 1)
   have hs2 : (catS (l.take (k + 1))).size = (catS (l.take k)).size + l[k].size := by rw [hct, ByteArray.size_append]
   have HS := Lib.hid hs2
   have hle : (catS (l.take k)).size + l[k].size ≤ 1000000000000 := by omega
   clear hct hs2 hm2 hzz hm; generalize (catS (l.take k)).size = z at *; generalize l[k] = x at *; go_wp2
   go_round
   case rel => exact ⟨k + 1, by omega, by go_num, by rw [HS.out]; go_num⟩
   case measure => simp [intOf]; omega
  ·obtain rfl : k = l.length := by omega
   rw [List.take_length] at *; have hx0 := HX.out 0 (by have := H2.out; omega); rw [add0] at hx0; have hBU : (w.alloc (.cells #[.pointer none, .slice none 0 0] 103)).heap[w.heap.size]? = some (.cells #[.pointer none, .slice none 0 0] 103 (0, 0)) := heap_alloc_new w _; have HG := Lib.hid (Tryz.Builder_Grow_fresh w.heap.size w.heap.size (catS l).size (w.alloc (.cells #[.pointer none, .slice none 0 0] 103)) (Nat.le_refl _) hBU (by simp) (by omega)); have HA := qf ((Below.refl w.heap.size w).alloc (Nat.le_refl _) (.cells #[.pointer none, .slice none 0 0] 103)); clear hBU hm hk hlt
   go_wp2_with fail
   refine (HG.out).mono ?_
   rintro e w1 ⟨rfl, hu1, hb1⟩
   have HB := qf (HA.out.trans hb1); have hc0 := (HB.out.cell (qd _ _ hx0)).trans hx0; have HU := qf hu1
   have hlx : 0 < l.length := by have := H2.out; omega
   have hsz0 : l[0].size ≤ (catS l).size := by
    have h1 := cat_mono l 1; rw [cat_take l 0 hlx, ByteArray.size_append] at h1
    omega
   clear hb1 hu1 HG HA
   go_wp2_with fail
   refine (write_any w.heap.size w.heap.size [] l[0] w1 (.inr HU.out) (by simp; omega) (by have := HB.out.size; omega)).mono ?_
   rintro e w2 ⟨rfl, hu2, hb2⟩
   replace HB := qf (HB.out.trans hb2); replace HU := qf hu2; clear hb2 hu2 hc0 hx0 hsz0; go_wp2
   go_loopw [65] (fun iv wr => ∃ k : Nat, k + 1 ≤ l.length ∧ iv = .int .i64 k ∧ Aside0 (Lib.BuilderAt 103 5 w.heap.size w.heap.size (.pointer (some ⟨w.heap.size, 0, none⟩)) (Lib.strCells (catS (l.take (k + 1)))) wr) ∧ Aside0 (Below w.heap.size w wr)) (fun iv _ => l.length - (intOf iv).toNat)
   case atStart =>
    refine ⟨0, by omega, rfl, ⟨?_⟩, HB⟩; rw [show l.take (0 + 1) = [l[0]] from by rw [List.take_succ_eq_append_getElem hlx]; rfl, cat_one]; exact HU.out
   case round =>
    obtain ⟨k, hk, rfl, HU, HB⟩ := hrel
    by_cases hlt : k + 1 < l.length
    ·have hcx := HX.out (k + 1) hlt; have hcx2 := (HB.out.cell (qd _ _ hcx)).trans hcx
     have hcx3 : wr.cell? ⟨ad.block, ad.off + 1 + k, none⟩ = some (.string l[k + 1]) := by rw [← add_succ_at]; exact hcx2
     clear hcx hcx2; have hct := cat_take l (k + 1) hlt; have hm2 := cat_mono l (k + 1 + 1)
     have hs2 : (catS (l.take (k + 1 + 1))).size = (catS (l.take (k + 1))).size + l[k + 1].size := by rw [hct, ByteArray.size_append]
     have hle : (catS (l.take (k + 1))).size + l[k + 1].size ≤ 1000000000000 := by have := HZ.out; omega
     have HT : Hid (Lib.strCells (catS (l.take (k + 1 + 1))) = Lib.strCells (catS (l.take (k + 1))) ++ Lib.strCells l[k + 1]) := Lib.hid (by rw [hct, cells_app]); have hbs : (Lib.strCells (catS (l.take (k + 1)))).length = (catS (l.take (k + 1))).size := Lib.strCells_length _; clear hct hs2 hm2; have W1 := Lib.hid (fun (W : World) (h : Lib.BuilderAt 103 5 w.heap.size w.heap.size (.pointer (some ⟨w.heap.size, 0, none⟩)) (Lib.strCells (catS (l.take (k + 1)))) W) (hB : Below w.heap.size w W) => write_any w.heap.size w.heap.size _ ⟨#[]⟩ W (.inr h) (by rw [hbs]; show _ + 0 ≤ _; omega) hB.size); have W2 := Lib.hid (fun (W : World) (h : Lib.BuilderAt 103 5 w.heap.size w.heap.size (.pointer (some ⟨w.heap.size, 0, none⟩)) (Lib.strCells (catS (l.take (k + 1)))) W) (hB : Below w.heap.size w W) => write_any w.heap.size w.heap.size _ l[k + 1] W (.inr h) (by rw [hbs]; omega) hB.size); clear hbs hle; generalize l[k + 1] = x at *; generalize Lib.strCells (catS (l.take (k + 1))) = bs at *
     go_wp2_with fail
     refine (W1.out _ HU.out HB.out).mono ?_
     rintro e w3 ⟨rfl, hu3, hb3⟩
     rw [cells_nil, List.append_nil] at hu3; replace HU := qf hu3; replace HB := qf (HB.out.trans hb3); clear hu3 hb3
     go_wp2_with fail
     refine (W2.out _ HU.out HB.out).mono ?_
     rintro e w4 ⟨rfl, hu4, hb4⟩
     replace HB := qf (HB.out.trans hb4); go_wp2
     go_roundw
     case rel => exact ⟨k + 1, by omega, by go_num, ⟨by rw [HT.out]; exact hu4⟩, HB⟩
     case measure => simp [intOf]; omega
    ·have hkl : k + 1 = l.length := by omega
     have hkk : k = l.length - 1 := by omega
     have HU' := HU.out; rw [hkl, List.take_length, Lib.strCells_eq] at HU'; have HS := Lib.hid (Tryz.Builder_String_any w.heap.size w.heap.size (catS l).data.toList wr (.inr HU') HB.out.size)
     have hii : ((k : Nat) : Int) = ((l.length - 1 : Nat) : Int) := by rw [hkk]
     have hdd : decide ((k : Int) < ((l.length - 1 : Nat) : Int)) = false := decide_eq_false (by omega); have hde : decide (k < l.length - 1) = false := decide_eq_false (by omega); clear HU HU' hkl hkk hii hk
     go_wp2_with fail
     refine (HS.out).mono ?_
     rintro e w3 ⟨rfl, hb3⟩
     go_wp2; go_ret; exact ⟨rfl, HB.out.trans hb3⟩
theorem sjoin_any (A : Option Addr) (c : Nat) (l : List ByteArray) (w : World) (hr : Kd.C Kd.string w A l.length l) (hc : l.length ≤ c) (hn : l.length ≤ 1000000) (hz : (catS l).size ≤ 1000000000000) :
  Calls Tryz.prog 55 #[.slice A l.length c, .string ⟨#[]⟩] w fun e w' => e = .returned (.string (catS l)) ∧ Below w.heap.size w w' := by
 by_cases h0 : 0 < l.length
 ·obtain ⟨ad, rfl, hx⟩ := str_at hr h0
  by_cases h1 : l.length = 1
  ·obtain ⟨s, rfl⟩ := List.length_eq_one_iff.1 h1; have h := hx 0 h0; rw [add0] at h; rw [cat_one]; exact sjoin_one ad c s w h
  ·exact sjoin_many ad c l w (by omega) hc hn hz hx
 ·obtain rfl : l = [] := List.eq_nil_of_length_eq_zero (by omega); exact sjoin_none A c w
theorem is_below {T e : TypeId} {B b : Nat} {bs : List Value} {w w' : World} (h : Lib.IsBuilder T e B b bs w) (hb : Below w.heap.size w w') : Lib.IsBuilder T e B b bs w' := h.imp (bat_below · hb) (bat_below · hb)
/-! ### codec.Join -/
abbrev Fd := S84
def fieldS (f : Fd) : ByteArray := if f.f0 = true then textS f.f2 else numS f.f1.toNat
def okF (f : Fd) : Prop := f.f2.size ≤ 4096 ∧ 0 ≤ f.f1 ∧ f.f1 < 18446744073709551616
theorem fd_take (l : List Fd) (k : Nat) (h : k < l.length) : catS ((l.take (k + 1)).map fieldS) = catS ((l.take k).map fieldS) ++ fieldS l[k] := by
 rw [List.take_succ_eq_append_getElem h, List.map_append, cat_app]
 show _ ++ catS [fieldS l[k]] = _
 rw [cat_one]
theorem field_size (f : Fd) (h : okF f) : (fieldS f).size ≤ 4098 := by
 unfold fieldS
 split
 ·rw [textS_size]; have := h.1; omega
 ·rw [numS_size]; decide
theorem fd_size (l : List Fd) (hl : ∀ f, f ∈ l → okF f) : ∀ k, k ≤ l.length → (catS ((l.take k).map fieldS)).size ≤ k * 4098
 | 0, _ => Nat.le_refl 0
 | k + 1, h => by
  have ih := fd_size l hl k (by omega); have h1 := field_size l[k] (hl _ (List.getElem_mem _)); rw [fd_take l k (by omega), ByteArray.size_append]
  omega
theorem rd_fd (l : List Fd) (i : Nat) (h : i < l.length) : rd_T84 l (i : Int) = l[i] := by
 unfold rd_T84; rw [Int.toNat_natCast, List.getD_eq_getElem?_getD, List.getElem?_eq_getElem h]; rfl
set_option maxRecDepth 100000 in
set_option maxHeartbeats 4000000 in
theorem join_any (A : Option Addr) (c : Nat) (l : List Fd) (w : World) (hr : Kd.C k84 w A l.length l) (_ : l.length ≤ c) (hn : l.length ≤ 1000000) (hl : ∀ f, f ∈ l → okF f) :
  Calls Tryz.prog 54 #[.slice A l.length c] w fun e w' => e = .returned (.tuple #[.string (catS (l.map fieldS)), .int .i64 0]) ∧ Below w.heap.size w w' := by
 have HC := qf hr; have HS := Lib.hid (fd_size l hl); have HO := Lib.hid hl; have hBU : (w.alloc (.cells #[.pointer none, .slice none 0 0] 103)).heap[w.heap.size]? = some (.cells #[.pointer none, .slice none 0 0] 103 (0, 0)) := heap_alloc_new w _; have HU0 := qf (Lib.fresh_isBuilder 103 5 w); have HA := qf ((Below.refl w.heap.size w).alloc (Nat.le_refl _) (.cells #[.pointer none, .slice none 0 0] 103)); clear hr hl hBU
 go_enter Tryz.func54, Tryz.ntmps54
 go_wp2
 go_loopw [11] (fun iv wr => ∃ k : Nat, k ≤ l.length ∧ iv = .int .i64 k ∧ Aside0 (Lib.IsBuilder 103 5 w.heap.size w.heap.size (Lib.strCells (catS ((l.take k).map fieldS))) wr) ∧ Aside0 (Below w.heap.size w wr)) (fun iv _ => l.length - (intOf iv).toNat)
 case atStart => exact ⟨0, Nat.zero_le _, rfl, HU0, HA⟩
 case round =>
  obtain ⟨k, hk, rfl, HU, HB⟩ := hrel; clear HU0 HA
  by_cases hlt : k < l.length
  ·obtain ⟨ad, e1, hx0, hx1, hx2⟩ := at_T84 HC.out (k : Int) (by omega) (by omega); cases e1; rw [rd_fd l k hlt, Int.toNat_natCast] at hx0 hx1 hx2; replace hx0 := (HB.out.cell (qd w _ hx0)).trans hx0; replace hx1 := (HB.out.cell (qd w _ hx1)).trans hx1; replace hx2 := (HB.out.cell (qd w _ hx2)).trans hx2; have hok := HO.out _ (List.getElem_mem hlt); have hsz := HS.out k hk; have hfs := field_size _ hok; have HT : Hid (Lib.strCells (catS ((l.take (k + 1)).map fieldS)) = Lib.strCells (catS ((l.take k).map fieldS)) ++ Lib.strCells (fieldS l[k])) := Lib.hid (by rw [fd_take l k hlt, cells_app]); have hbl : (Lib.strCells (catS ((l.take k).map fieldS))).length = (catS ((l.take k).map fieldS)).size := Lib.strCells_length _; have W1 := Lib.hid (fun (W : World) (h : Lib.IsBuilder 103 5 w.heap.size w.heap.size (Lib.strCells (catS ((l.take k).map fieldS))) W) (hB : Below w.heap.size w W) => write_any w.heap.size w.heap.size _ (fieldS l[k]) W h (by rw [hbl]; omega) hB.size); clear hbl hsz hfs
   have hB2 : w.heap.size < wr.heap.size := by
    rcases HU.out with h | h
    ·exact h.lt
    ·exact h.lt
   cases hf : l[k].f0 with
   | true =>
    have hfd : fieldS l[k] = textS l[k].f2 := by unfold fieldS; rw [if_pos hf]
    have G := Lib.hid (codec_Text.calls l[k].f2 (textS l[k].f2) 0 · (if_pos hok.1)); rw [hfd] at W1 HT; rw [hf] at hx0; clear hok hf hfd; generalize textS l[k].f2 = y at *; replace HU := qf (is_below HU.out ((Below.refl _ _).alloc (Nat.le_refl _) (.cells #[.bool true, .int .u64 l[k].f1, .string l[k].f2] 84))); replace HB := qf (HB.out.alloc (Nat.le_of_lt hB2) (.cells #[.bool true, .int .u64 l[k].f1, .string l[k].f2] 84)); generalize l[k].f1 = f1 at *; generalize l[k].f2 = f2 at *
    go_wp2_with fail
    refine (G.out _).mono ?_
    rintro e w3 ⟨rfl, hb3⟩
    replace HU := qf (is_below HU.out hb3); replace HB := qf (HB.out.trans (hb3.mono (by simp; omega))); clear hb3 G
    go_wp2_with fail
    refine (W1.out _ HU.out HB.out).mono ?_
    rintro e w4 ⟨rfl, hu4, hb4⟩
    replace HB := qf (HB.out.trans hb4); clear hb4; go_wp2
    go_roundw
    case rel => exact ⟨k + 1, by omega, by go_num, ⟨by rw [HT.out]; exact .inr hu4⟩, HB⟩
    case measure => simp [intOf]; omega
   | false =>
    have hfd : fieldS l[k] = numS l[k].f1.toNat := by unfold fieldS; rw [if_neg (by rw [hf]; decide)]
    have G := Lib.hid (codec_Number.calls l[k].f1 (numS l[k].f1.toNat) · (if_pos hok.2)); rw [hfd] at W1 HT; rw [hf] at hx0; clear hok hf hfd; generalize numS l[k].f1.toNat = y at *; replace HU := qf (is_below HU.out ((Below.refl _ _).alloc (Nat.le_refl _) (.cells #[.bool false, .int .u64 l[k].f1, .string l[k].f2] 84))); replace HB := qf (HB.out.alloc (Nat.le_of_lt hB2) (.cells #[.bool false, .int .u64 l[k].f1, .string l[k].f2] 84)); generalize l[k].f1 = f1 at *; generalize l[k].f2 = f2 at *
    go_wp2_with fail
    refine (G.out _).mono ?_
    rintro e w3 ⟨rfl, hb3⟩
    replace HU := qf (is_below HU.out hb3); replace HB := qf (HB.out.trans (hb3.mono (by simp; omega))); clear hb3 G
    go_wp2_with fail
    refine (W1.out _ HU.out HB.out).mono ?_
    rintro e w4 ⟨rfl, hu4, hb4⟩
    replace HB := qf (HB.out.trans hb4); clear hb4; go_wp2
    go_roundw
    case rel => exact ⟨k + 1, by omega, by go_num, ⟨by rw [HT.out]; exact .inr hu4⟩, HB⟩
    case measure => simp [intOf]; omega
  ·obtain rfl : k = l.length := by omega
   rw [List.take_length] at HU; have hs : Lib.strCells (catS (l.map fieldS)) = Lib.byteCells (catS (l.map fieldS)).data.toList := rfl; rw [hs] at HU; have HE := Lib.hid (Tryz.Builder_String_any w.heap.size w.heap.size (catS (l.map fieldS)).data.toList wr HU.out HB.out.size); clear hs hk hlt
   go_wp2_with fail
   refine (HE.out).mono ?_
   rintro e w3 ⟨rfl, hb3⟩
   go_wp2
   go_ret2
   exact ⟨rfl, HB.out.trans hb3⟩
end Go.Proofs.YtolbhliepkcihaaGreatDoor.Build
end
section
namespace Go.Proofs.YtolbhliepkcihaaGreatDoor.Lab
open Go.RowKit Kinds Sha Mac Codec Tower Build
structure E where
 h : Nat
 t : ByteArray
def joinT (lv : Nat) (l : List ByteArray) : ByteArray := ofNats [2] ++ numS lv ++ catS l
def more (f : List E → ByteArray) (lv : Nat) : List E → List ByteArray
 | [] => []
 | y :: r => if lv + 1 < y.h then [] else if lv < y.h then f (y :: r) :: more f lv r else more f lv r
def lab : Nat → List E → ByteArray
 | _, [] => ⟨#[]⟩
 | 0, y :: _ => sumS y.t
 | lv + 1, y :: r => sumS (joinT (lv + 1) (lab lv (y :: r) :: more (lab lv) lv r))
def fromL (lv : Nat) (s : List E) : List ByteArray := lab lv s :: more (lab lv) lv s.tail
def rowF (f : List E → ByteArray) (lv : Nat) : List E → List ByteArray
 | [] => []
 | y :: r => if lv < y.h then f (y :: r) :: rowF f lv r else rowF f lv r
def hts (lv : Nat) (s : List E) : List Nat := (s.map (·.h)).filter (fun h => decide (lv < h))
def cutG (now : Nat) : List Nat → List ByteArray → List ByteArray × List (List ByteArray)
 | h :: hs, y :: r => if now < h then ([], (y :: (cutG now hs r).1) :: (cutG now hs r).2) else (y :: (cutG now hs r).1, (cutG now hs r).2)
 | _, _ => ([], [])
theorem cutG_row (lv : Nat) : ∀ s : List E,
  cutG (lv + 1) (hts lv s) (rowF (lab lv) lv s) = (more (lab lv) lv s, (cutG (lv + 1) (hts lv s) (rowF (lab lv) lv s)).2) ∧
  (cutG (lv + 1) (hts lv s) (rowF (lab lv) lv s)).2.map (fun g => sumS (joinT (lv + 1) g)) = rowF (lab (lv + 1)) (lv + 1) s
 | [] => ⟨rfl, rfl⟩
 | y :: r => by
  obtain ⟨h1, h2⟩ := cutG_row lv r
  have e1 : (cutG (lv + 1) (hts lv r) (rowF (lab lv) lv r)).1 = more (lab lv) lv r := by rw [h1]
  by_cases c : lv < y.h
  ·have eh : hts lv (y :: r) = y.h :: hts lv r := by unfold hts; rw [List.map_cons, List.filter_cons_of_pos (by simpa using c)]
   have er : rowF (lab lv) lv (y :: r) = lab lv (y :: r) :: rowF (lab lv) lv r := by rw [rowF, if_pos c]
   by_cases d : lv + 1 < y.h
   ·have ec : cutG (lv + 1) (hts lv (y :: r)) (rowF (lab lv) lv (y :: r)) = ([], (lab lv (y :: r) :: (cutG (lv + 1) (hts lv r) (rowF (lab lv) lv r)).1) :: (cutG (lv + 1) (hts lv r) (rowF (lab lv) lv r)).2) := by
     rw [eh, er, cutG, if_pos d]
    have em : more (lab lv) lv (y :: r) = [] := by rw [more, if_pos d]
    have er2 : rowF (lab (lv + 1)) (lv + 1) (y :: r) = lab (lv + 1) (y :: r) :: rowF (lab (lv + 1)) (lv + 1) r := by rw [rowF, if_pos d]
    rw [ec, em, er2, e1]; refine ⟨rfl, ?_⟩; rw [List.map_cons, h2]; rfl
   ·have ec : cutG (lv + 1) (hts lv (y :: r)) (rowF (lab lv) lv (y :: r)) = (lab lv (y :: r) :: (cutG (lv + 1) (hts lv r) (rowF (lab lv) lv r)).1, (cutG (lv + 1) (hts lv r) (rowF (lab lv) lv r)).2) := by
     rw [eh, er, cutG, if_neg d]
    have em : more (lab lv) lv (y :: r) = lab lv (y :: r) :: more (lab lv) lv r := by rw [more, if_neg d, if_pos c]
    have er2 : rowF (lab (lv + 1)) (lv + 1) (y :: r) = rowF (lab (lv + 1)) (lv + 1) r := by rw [rowF, if_neg d]
    rw [ec, em, er2, e1]; exact ⟨rfl, h2⟩
  ·have eh : hts lv (y :: r) = hts lv r := by unfold hts; rw [List.map_cons, List.filter_cons_of_neg (by simpa using c)]
   have er : rowF (lab lv) lv (y :: r) = rowF (lab lv) lv r := by rw [rowF, if_neg c]
   have em : more (lab lv) lv (y :: r) = more (lab lv) lv r := by rw [more, if_neg (by omega), if_neg c]
   have er2 : rowF (lab (lv + 1)) (lv + 1) (y :: r) = rowF (lab (lv + 1)) (lv + 1) r := by rw [rowF, if_neg (by omega)]
   rw [eh, er, em, er2]; exact ⟨h1, h2⟩
theorem hts_up (lv : Nat) (s : List E) : (hts lv s).filter (fun h => decide (lv + 1 < h)) = hts (lv + 1) s := by
 unfold hts; rw [List.filter_filter]
 congr 1
 funext h
 by_cases c : lv + 1 < h
 ·simp [c, show lv < h by omega]
 ·simp [c]
theorem hts_len (lv : Nat) : ∀ s : List E, (hts lv s).length = (rowF (lab lv) lv s).length
 | [] => rfl
 | y :: r => by
  have ih := hts_len lv r
  by_cases c : lv < y.h
  ·have eh : hts lv (y :: r) = y.h :: hts lv r := by unfold hts; rw [List.map_cons, List.filter_cons_of_pos (by simpa using c)]
   rw [eh, rowF, if_pos c, List.length_cons, List.length_cons, ih]
  ·have eh : hts lv (y :: r) = hts lv r := by unfold hts; rw [List.map_cons, List.filter_cons_of_neg (by simpa using c)]
   rw [eh, rowF, if_neg c, ih]
def itemT (x : S44) : ByteArray := ofNats [0] ++ numS x.f0.toNat ++ textS x.f1
def ent (key : ByteArray) (x : S44) : E := ⟨heightN key x.f0.toNat, itemT x⟩
def head : E := ⟨9, ofNats [1]⟩
def ents (key : ByteArray) (l : List S44) : List E := head :: l.map (ent key)
def rowL (key : ByteArray) (l : List S44) (lv : Nat) : List ByteArray := rowF (lab lv) lv (ents key l)
def rootL (key : ByteArray) (l : List S44) : ByteArray := lab 8 (ents key l)
theorem lab_size (lv : Nat) (y : E) (r : List E) : (lab lv (y :: r)).size = 32 := by
 cases lv with
 | zero => exact sumS_size _
 | succ lv => exact sumS_size _
end Go.Proofs.YtolbhliepkcihaaGreatDoor.Lab
end
section
namespace Go.Proofs.YtolbhliepkcihaaGreatDoor
open Go.RowKit YtolbhliepkcihaaGreatDoorW.PrintWords Kinds Build
def okB (l : List S84) : Bool := l.all fun f => decide (f.f2.size ≤ 4096) && decide (0 ≤ f.f1) && decide (f.f1 < 18446744073709551616)
theorem okB_all (l : List S84) (h : okB l = true) : ∀ f, f ∈ l → okF f := fun f hf => by
 have := List.all_eq_true.1 h f hf; simp only [Bool.and_eq_true, decide_eq_true_eq] at this; exact ⟨this.1.1, this.1.2, this.2⟩
def codec_Join.f (l0 : List S84) : Option (ByteArray × Int) := if l0.length ≤ 1000000 ∧ okB l0 = true then some (catS (l0.map fieldS), 0) else none
theorem codec_Join.calls (A0 : Option Addr) (c0 : Nat) (l0 : List S84) (r1 : ByteArray) (r2 : Int) (w : World) (hr0 : Kd.C k84 w A0 l0.length l0) (hc0 : l0.length ≤ c0) (h : codec_Join.f l0 = some (r1, r2)) :
  Calls Tryz.prog 54 #[.slice A0 l0.length c0] w fun e w' => e = .returned (.tuple #[.string r1, .int .i64 r2]) ∧ Below w.heap.size w w' := by
 unfold codec_Join.f at h
 split at h
 ·rename_i hc; obtain ⟨rfl, rfl⟩ := Prod.mk.inj (Option.some.inj h); exact join_any A0 c0 l0 w hr0 hc0 hc.1 (okB_all l0 hc.2)
 ·cases h
def strings_Join.f (l0 : List ByteArray) (a1 : ByteArray) : Option ByteArray := if l0.length ≤ 1000000 ∧ (catS l0).size ≤ 1000000000000 ∧ a1.size = 0 then some (catS l0) else none
theorem strings_Join.calls (A0 : Option Addr) (c0 : Nat) (l0 : List ByteArray) (a1 : ByteArray) (r : ByteArray) (w : World) (hr0 : Kd.C Kd.string w A0 l0.length l0) (hc0 : l0.length ≤ c0) (h : strings_Join.f l0 a1 = some r) :
  Calls Tryz.prog 55 #[.slice A0 l0.length c0, .string a1] w fun e w' => e = .returned (.string r) ∧ Below w.heap.size w w' := by
 unfold strings_Join.f at h
 split at h
 ·rename_i hc; obtain rfl := Option.some.inj h; obtain rfl : a1 = ⟨#[]⟩ := ByteArray.ext (Array.eq_empty_of_size_eq_zero hc.2.2); exact sjoin_any A0 c0 l0 w hr0 hc0 hc.1 hc.2.1
 ·cases h
end Go.Proofs.YtolbhliepkcihaaGreatDoor
end
section
namespace Go.Proofs.YtolbhliepkcihaaGreatDoor
open Go.RowKit YtolbhliepkcihaaGreatDoorW.PrintWords Kinds Build Lab
def esOf (l : List S44) (hs : List Int) : List E := List.zipWith (fun x h => (⟨h.toNat, itemT x⟩ : E)) l hs
def okIt (l : List S44) : Bool := l.all fun x => decide (x.f1.size ≤ 4096) && decide (0 ≤ x.f0) && decide (x.f0 < 18446744073709551616)
def okHt (l : List Int) : Bool := l.all fun h => decide (0 ≤ h) && decide (h ≤ 8)
def okT (l : List S44) (hs : List Int) : Bool := okIt l && okHt hs && decide (l.length = hs.length) && decide (l.length ≤ 10000)
def sufT (l : List S44) (hs : List Int) (a : Int) : List E := (head :: esOf l hs).drop (a + 1).toNat
def saltusref17_Of.f (l0_0 : List S44) (l0_1 : List Int) (a1 a2 : Int) : Option ByteArray :=
 if okT l0_0 l0_1 = true ∧ -1 ≤ a1 ∧ a1 < (l0_0.length : Int) ∧ 0 ≤ a2 ∧ a2 ≤ 8 then some (lab a2.toNat (sufT l0_0 l0_1 a1)) else none
def saltusref17_From.f (l0_0 : List S44) (l0_1 : List Int) (a1 a2 a3 : Int) : Option (List ByteArray) :=
 if okT l0_0 l0_1 = true ∧ -1 ≤ a1 ∧ a1 < (l0_0.length : Int) ∧ 0 ≤ a2 ∧ a2 ≤ 8 ∧ a3 = a2 + 1 then some (fromL a2.toNat (sufT l0_0 l0_1 a1)) else none
structure OfOK (a2 : Int) : Prop where
 out : ∀ (A0_0 : Option Addr) (c0_0 : Nat) (l0_0 : List S44) (A0_1 : Option Addr) (c0_1 : Nat) (l0_1 : List Int) (a1 : Int) (r : ByteArray) (w : World) (_ : Kd.C k44 w A0_0 l0_0.length l0_0) (_ : l0_0.length ≤ c0_0) (_ : Kd.C (Kd.int .i64) w A0_1 l0_1.length l0_1) (_ : l0_1.length ≤ c0_1) (_ : saltusref17_Of.f l0_0 l0_1 a1 a2 = some r),
  Calls Tryz.prog 31 #[.agg #[.slice A0_0 l0_0.length c0_0, .slice A0_1 l0_1.length c0_1], .int .i64 a1, .int .i64 a2] w fun e w' => e = .returned (.string r) ∧ Below w.heap.size w w'
structure FromOK (a2 : Int) : Prop where
 out : ∀ (A0_0 : Option Addr) (c0_0 : Nat) (l0_0 : List S44) (A0_1 : Option Addr) (c0_1 : Nat) (l0_1 : List Int) (a1 : Int) (a3 : Int) (r : List ByteArray) (w : World) (_ : Kd.C k44 w A0_0 l0_0.length l0_0) (_ : l0_0.length ≤ c0_0) (_ : Kd.C (Kd.int .i64) w A0_1 l0_1.length l0_1) (_ : l0_1.length ≤ c0_1) (_ : saltusref17_From.f l0_0 l0_1 a1 a2 a3 = some r),
  Calls Tryz.prog 43 #[.agg #[.slice A0_0 l0_0.length c0_0, .slice A0_1 l0_1.length c0_1], .int .i64 a1, .int .i64 a2, .int .i64 a3] w fun e w' => ∃ v0_ : Value, e = .returned (v0_) ∧ Kd.R Kd.string 9 w' w.heap.size (fun _ => True) v0_ r ∧ Below w.heap.size w w'
end Go.Proofs.YtolbhliepkcihaaGreatDoor
end
section
namespace Go.Proofs.YtolbhliepkcihaaGreatDoor.QLA
open Go.RowKit Kinds YtolbhliepkcihaaGreatDoorW.PrintWords YtolbhliepkcihaaGreatDoorW.PrintLast YtolbhliepkcihaaGreatDoorW.PrintMore
attribute [local go_sem] max2_int min2_int max_two min_two max_three min_three max_four min_four   -- for this text's walks alone
set_option linter.unusedVariables false
set_option linter.unusedSimpArgs false
def errW : Option Int → Value
 | none => .nilIface
 | some c => .iface 0 (.int .i64 c)
theorem errW_none : errW none = .nilIface := rfl
theorem errW_some (c : Int) : errW (some c) = .iface 0 (.int .i64 c) := rfl
end Go.Proofs.YtolbhliepkcihaaGreatDoor.QLA
end
section
namespace Go.Proofs.YtolbhliepkcihaaGreatDoor.QLA
open Go.RowKit Kinds YtolbhliepkcihaaGreatDoorW.PrintWords YtolbhliepkcihaaGreatDoorW.PrintLast YtolbhliepkcihaaGreatDoorW.PrintMore
attribute [local go_sem] max2_int min2_int max_two min_two max_three min_three max_four min_four   -- for this text's walks alone
set_option linter.unusedVariables false
set_option linter.unusedSimpArgs false
/-! ### saltusref04_Same: function 26 -/
def saltusref04_Same.l0 : Nat → List ByteArray → List ByteArray → Int → Int → Option (Bool)
 | 0, _, _, _, _ => none
 | k + 1, x0, x1, x12, x13 => if x13 < x12 then (if 0 ≤ x13 then (if x13 < (x0.length : Int) then (if x13 < (x1.length : Int) then (if (rdOf ByteArray.empty x0 x13).toList = (rdOf ByteArray.empty x1 x13).toList then (saltusref04_Same.l0 k x0 x1 x12 (wrap64 (x13 + 1))) else (some false)) else (none)) else (none)) else (none)) else (some true)
def saltusref04_Same.f (k : Nat) (l0 : List ByteArray) (l1 : List ByteArray) : Option (Bool) := if (l0.length : Int) = (l1.length : Int) then (saltusref04_Same.l0 k l0 l1 (l0.length : Int) 0) else (some false)
/-! ### saltusref17_Text: function 42 -/
def saltusref17_Text.l0 : Nat → ByteArray → List ByteArray → Int → Int → Option (ByteArray)
 | 0, _, _, _, _ => none
 | k + 1, x5, x14, x15, x16 => if x16 < x15 then (if 0 ≤ x16 then (if x16 < (x14.length : Int) then (if x5.size + (rdOf ByteArray.empty x14 x16).size ≤ 9223372036854775807 then (saltusref17_Text.l0 k (x5 ++ (rdOf ByteArray.empty x14 x16)) x14 x15 (wrap64 (x16 + 1))) else (none)) else (none)) else (none)) else (some x5)
def saltusref17_Text.f (k : Nat) (a0 : Int) (l1 : List ByteArray) : Option (ByteArray) := (some (([2] : List Int) : List Int)).bind fun y103 => ((saltusref02_Low.f (IntKind.u64.wrap (a0)) 8).bind fun t106 => (if (strOfNums y103).size + t106.size ≤ 9223372036854775807 then (saltusref17_Text.l0 k ((strOfNums y103) ++ t106) l1 (l1.length : Int) 0) else (none)))
set_option maxHeartbeats 8000000 in
set_option maxRecDepth 100000 in
theorem saltusref17_Text.calls (k : Nat) (a0 : Int) (A1 : Option Addr) (c1 : Nat) (l1 : List ByteArray) (r : ByteArray) (w : World) (hr1 : Kd.C Kd.string w A1 l1.length l1) (hc1 : l1.length ≤ c1) (h : saltusref17_Text.f k a0 l1 = some r) :
  Calls Tryz.prog 42 #[.int .i64 a0, .slice A1 l1.length c1] w fun e w' => e = .returned (.string r) ∧ Below w.heap.size w w' := by
 have HR1 := qf hr1; have HC1 := qf hc1; clear hr1 hc1; have HB := qf (Below.refl w.heap.size w); have H : ((some (([2] : List Int) : List Int)).bind fun y103 => ((saltusref02_Low.f (IntKind.u64.wrap (a0)) 8).bind fun t106 => (if (strOfNums y103).size + t106.size ≤ 9223372036854775807 then (saltusref17_Text.l0 k ((strOfNums y103) ++ t106) l1 (l1.length : Int) 0) else (none)))) = some r := h; clear h
 obtain ⟨y103, hy103⟩ : ∃ y_ : List Int, y_ = (([2] : List Int)) := ⟨_, rfl⟩
 replace H : ((saltusref02_Low.f (IntKind.u64.wrap (a0)) 8).bind fun t106 => (if (strOfNums y103).size + t106.size ≤ 9223372036854775807 then (saltusref17_Text.l0 k ((strOfNums y103) ++ t106) l1 (l1.length : Int) 0) else (none))) = some r := by first | (rw [hy103]; with_reducible exact H) | (have H2_ := (qv _ _).symm.trans H; rw [hy103]; with_reducible exact H2_) | (have H2_ := (qv _ _).symm.trans H; with_reducible exact H2_) | with_reducible exact H | (rw [hy103]; exact H) | exact H
 have Ny103 := qf hy103; clear hy103; replace H := qi H; obtain ⟨t106, A30, H⟩ := H
 (try dsimp only at H)
 have A3 := qf A30; clear A30
 by_cases c4 : (strOfNums y103).size + t106.size ≤ 9223372036854775807
 ·rw [if_pos c4] at H; have c4b0 := eq_true c4; have c4b1 := qj c4
  try have c4b2 : (9223372036854775807 < (strOfNums y103).size + t106.size) = False := eq_false (Nat.not_lt.2 c4)
  have H' := qf H; clear H
  go_enter Tryz.func42, Tryz.ntmps42
  try go_wp2
  have n0_ := qf (qc HB.out); clear HB; have HB := n0_; clear n0_; refine start_ (n := 7) (S := fun w' => True) (ds := []) (bm 7 0) (by kernel_rfl) rfl rfl trivial (fun hHeld => ?_); generalize w.drew = w5 at HB hHeld ⊢; refine pure_ (i := 2) (N := some 10) (v := ?_) (a' := ?_) (bm 7 4) rfl rfl (by kernel_rfl) (fun _ _ _ h => h) (Or.inl ⟨by rfl, ?_⟩) ?_ ?_; rotate_left; (intro w'; go_simp; with_reducible rfl); rotate_left; (simp only [Act.put, qs, qt, qu, i64_w, i32_w]; rfl); refine pure_ (i := 3) (N := some 11) (v := ?_) (a' := ?_) (bm 7 12) rfl rfl (by kernel_rfl) (fun _ _ _ h => h) (Or.inl ⟨by rfl, ?_⟩) ?_ ?_; rotate_left; (intro w'; go_simp; with_reducible rfl); rotate_left; (simp only [Act.put, qs, qt, qu, i64_w, i32_w]; rfl); refine join_ (σ := Value) 2 (bm 7 31) (fun s_ => [(8, s_), (9, .string (strOfNums y103)), (12, .string t106)]) (fun s_ w' => (Kd.R (Kd.int .u8) 5 w' w.heap.size (fun _ => True) s_ y103) ∧ (Below w.heap.size w w')) ?_ ?_; rotate_left
  ·intro hCont; refine two_ (i := 0) (j := 4) (Ni := some 8) (Nj := some 12) (bm 7 13) (bm 7 28) rfl rfl rfl rfl (by kernel_rfl) (by decide) (by decide) (fun K hK => ?_) (fun K hK => ?_)
   ·skip
    refine Kd.R_lit_step (Kd.int .u8) _ 5 ?hg (N := 8) ?hd (xs := ([2] : List Int)) (inner := [.int .u8 2]) (ok := fun _ => True) (okp := fun _ => True) ?hr ?hp (fun _ hk => hk) trivial (Below.refl _ _) (Nat.le_refl _) (by simp) ?_; (case hd => rfl); (case hg => rfl); (case hr => first | (go_simp; done) | (go_simp; rfl)); (case hp => exact (Reps.one (show Kd.M (Kd.int .u8) _ _ _ 2 [.int .u8 2] from rfl) (Reps.none _ _))); intro v104 w6 ho7 hb hg_ hnew_; clear hg_ hnew_
    (first | rw [← Ny103.out] at ho7 | (simp only [Int.reduceToNat] at ho7; rw [← Ny103.out] at ho7))
    have n0_ := qf (Kd.R_lower ho7 (below_size (by repeat (first | (with_reducible first | exact HB.out | apply qa | apply qb | apply qc) | exact HB.out)))); have n1_ := qf (below_step (by repeat (first | (with_reducible first | exact HB.out | apply qa | apply qb | apply qc) | exact HB.out)) hb); clear HB; have HO105 := n0_; have HB := n1_; clear n0_ n1_ hb ho7; refine hK.out _ _ trivial (fun hHeld => ?_); clear hK K; refine norm_ (a' := ?_) ?_ ?_; rotate_left
    ·show Act.put _ (some 8) _ = _
     simp only [Act.put, qs, qt, qu, i64_w, i32_w]; rfl
    refine two_ (i := 1) (j := 4) (Ni := some 9) (Nj := some 12) (bm 7 15) (bm 7 29) rfl rfl rfl rfl (by kernel_rfl) (by decide) (by decide) (fun K hK => ?_) (fun K hK => ?_)
    ·skip
     have hcv8 := own_string (P := Tryz.prog) Tryz.underlying74 Tryz.underlying5 Tryz.underlying9 (Kd.own_of_R HO105.out); refine value_ (w1 := ?_) (v := ?_) (by rfl) rfl ?_ ?_; rotate_left 2
     ·go_simp
      constructor
      (rfl); (rfl)
     clear hcv8; refine hK.out _ _ trivial (fun hHeld => ?_); clear hK K; refine norm_ (a' := ?_) ?_ ?_; rotate_left
     ·show Act.put _ (some 9) _ = _
      simp only [Act.put, qs, qt, qu, i64_w, i32_w]; rfl
     refine one_ (i := 4) (N := some 12) (bm 7 31) rfl rfl (by kernel_rfl) (by decide) (fun K hK => ?_); refine goes_ Tryz.func64 (by kernel_rfl) rfl #[.int .u64 (IntKind.u64.wrap (a0)), .int .i64 8] (by rfl) rfl rfl (by (try simp only [List.map_toArray, List.map_cons, List.map_nil]); first | done | rfl | (simp only [List.length_drop, qw]; rfl)) ?_
     with_reducible refine (saltusref02_Low.calls (IntKind.u64.wrap (a0)) 8 t106 _ A3.out).mono ?_
     rintro e w9 ⟨rfl, hb⟩
     refine ⟨_, rfl, ?_⟩; have n0_ := qf (Kd.R_below (by (with_reducible repeat (first | apply Kd.R_alloc | apply Kd.R_drewN | apply Kd.R_drew)); exact HO105.out) hb); have n1_ := qf (below_step (by repeat (first | (with_reducible first | exact HB.out | apply qa | apply qb | apply qc) | exact HB.out)) hb); clear HO105 HB; have HO105 := n0_; have HB := n1_; clear n0_ n1_
     (try clear hb)
     (try clear hb2)
     (try clear hk)
     (try clear hi)
     refine hK.out _ _ trivial (fun hHeld => ?_); clear hK K; refine norm_ (a' := ?_) ?_ ?_; rotate_left
     ·show Act.put _ (some 12) _ = _
      simp only [Act.put, qs, qt, qu, i64_w, i32_w]; rfl
     exact norm_ (by simp only [putAll, Act.put, qs, qt, qu]) (hCont (v104) _ ⟨(by (with_reducible repeat (first | apply Kd.R_alloc | apply Kd.R_drewN | apply Kd.R_drew)); exact HO105.out), (by repeat (first | (with_reducible first | exact HB.out | apply qa | apply qb | apply qc) | exact HB.out))⟩)
    ·skip
     refine goes_ Tryz.func64 (by kernel_rfl) rfl #[.int .u64 (IntKind.u64.wrap (a0)), .int .i64 8] (by rfl) rfl rfl (by (try simp only [List.map_toArray, List.map_cons, List.map_nil]); first | done | rfl | (simp only [List.length_drop, qw]; rfl)) ?_
     with_reducible refine (saltusref02_Low.calls (IntKind.u64.wrap (a0)) 8 t106 _ A3.out).mono ?_
     rintro e w8 ⟨rfl, hb⟩
     refine ⟨_, rfl, ?_⟩; have n0_ := qf (Kd.R_below (by (with_reducible repeat (first | apply Kd.R_alloc | apply Kd.R_drewN | apply Kd.R_drew)); exact HO105.out) hb); have n1_ := qf (below_step (by repeat (first | (with_reducible first | exact HB.out | apply qa | apply qb | apply qc) | exact HB.out)) hb); clear HO105 HB; have HO105 := n0_; have HB := n1_; clear n0_ n1_
     (try clear hb)
     (try clear hb2)
     (try clear hk)
     (try clear hi)
     refine hK.out _ _ trivial (fun hHeld => ?_); clear hK K; refine norm_ (a' := ?_) ?_ ?_; rotate_left
     ·show Act.put _ (some 12) _ = _
      simp only [Act.put, qs, qt, qu, i64_w, i32_w]; rfl
     refine one_ (i := 1) (N := some 9) (bm 7 31) rfl rfl (by kernel_rfl) (by decide) (fun K hK => ?_); have hcv9 := own_string (P := Tryz.prog) Tryz.underlying74 Tryz.underlying5 Tryz.underlying9 (Kd.own_of_R HO105.out); refine value_ (w1 := ?_) (v := ?_) (by rfl) rfl ?_ ?_; rotate_left 2
     ·go_simp
      constructor
      (rfl); (rfl)
     clear hcv9; refine hK.out _ _ trivial (fun hHeld => ?_); clear hK K; refine norm_ (a' := ?_) ?_ ?_; rotate_left
     ·show Act.put _ (some 9) _ = _
      simp only [Act.put, qs, qt, qu, i64_w, i32_w]; rfl
     exact norm_ (by simp only [putAll, Act.put, qs, qt, qu]) (hCont (v104) _ ⟨(by (with_reducible repeat (first | apply Kd.R_alloc | apply Kd.R_drewN | apply Kd.R_drew)); exact HO105.out), (by repeat (first | (with_reducible first | exact HB.out | apply qa | apply qb | apply qc) | exact HB.out))⟩)
   ·skip
    refine goes_ Tryz.func64 (by kernel_rfl) rfl #[.int .u64 (IntKind.u64.wrap (a0)), .int .i64 8] (by rfl) rfl rfl (by (try simp only [List.map_toArray, List.map_cons, List.map_nil]); first | done | rfl | (simp only [List.length_drop, qw]; rfl)) ?_
    with_reducible refine (saltusref02_Low.calls (IntKind.u64.wrap (a0)) 8 t106 _ A3.out).mono ?_
    rintro e w6 ⟨rfl, hb⟩
    refine ⟨_, rfl, ?_⟩; have n0_ := qf (below_step (by repeat (first | (with_reducible first | exact HB.out | apply qa | apply qb | apply qc) | exact HB.out)) hb); clear HB; have HB := n0_; clear n0_
    (try clear hb)
    (try clear hb2)
    (try clear hk)
    (try clear hi)
    refine hK.out _ _ trivial (fun hHeld => ?_); clear hK K; refine norm_ (a' := ?_) ?_ ?_; rotate_left
    ·show Act.put _ (some 12) _ = _
     simp only [Act.put, qs, qt, qu, i64_w, i32_w]; rfl
    refine one_ (i := 0) (N := some 8) (bm 7 29) rfl rfl (by kernel_rfl) (by decide) (fun K hK => ?_); refine Kd.R_lit_step (Kd.int .u8) _ 5 ?hg (N := 8) ?hd (xs := ([2] : List Int)) (inner := [.int .u8 2]) (ok := fun _ => True) (okp := fun _ => True) ?hr ?hp (fun _ hk => hk) trivial (Below.refl _ _) (Nat.le_refl _) (by simp) ?_; (case hd => rfl); (case hg => rfl); (case hr => first | (go_simp; done) | (go_simp; rfl)); (case hp => exact (Reps.one (show Kd.M (Kd.int .u8) _ _ _ 2 [.int .u8 2] from rfl) (Reps.none _ _))); intro v104 w7 ho8 hb hg_ hnew_; clear hg_ hnew_
    (first | rw [← Ny103.out] at ho8 | (simp only [Int.reduceToNat] at ho8; rw [← Ny103.out] at ho8))
    have n0_ := qf (Kd.R_lower ho8 (below_size (by repeat (first | (with_reducible first | exact HB.out | apply qa | apply qb | apply qc) | exact HB.out)))); have n1_ := qf (below_step (by repeat (first | (with_reducible first | exact HB.out | apply qa | apply qb | apply qc) | exact HB.out)) hb); clear HB; have HO105 := n0_; have HB := n1_; clear n0_ n1_ hb ho8; refine hK.out _ _ trivial (fun hHeld => ?_); clear hK K; refine norm_ (a' := ?_) ?_ ?_; rotate_left
    ·show Act.put _ (some 8) _ = _
     simp only [Act.put, qs, qt, qu, i64_w, i32_w]; rfl
    refine one_ (i := 1) (N := some 9) (bm 7 31) rfl rfl (by kernel_rfl) (by decide) (fun K hK => ?_); have hcv9 := own_string (P := Tryz.prog) Tryz.underlying74 Tryz.underlying5 Tryz.underlying9 (Kd.own_of_R HO105.out); refine value_ (w1 := ?_) (v := ?_) (by rfl) rfl ?_ ?_; rotate_left 2
    ·go_simp
     constructor
     (rfl); (rfl)
    clear hcv9; refine hK.out _ _ trivial (fun hHeld => ?_); clear hK K; refine norm_ (a' := ?_) ?_ ?_; rotate_left
    ·show Act.put _ (some 9) _ = _
     simp only [Act.put, qs, qt, qu, i64_w, i32_w]; rfl
    exact norm_ (by simp only [putAll, Act.put, qs, qt, qu]) (hCont (v104) _ ⟨(by (with_reducible repeat (first | apply Kd.R_alloc | apply Kd.R_drewN | apply Kd.R_drew)); exact HO105.out), (by repeat (first | (with_reducible first | exact HB.out | apply qa | apply qb | apply qc) | exact HB.out))⟩)
  rintro v104 w10 ⟨h0_, h1_⟩
  have n0_ : Aside0 (Kd.R (Kd.int .u8) 5 w10 w.heap.size (fun _ => True) v104 y103) := ⟨h0_⟩; have n1_ : Aside0 (Below w.heap.size w w10) := ⟨h1_⟩; clear HB h0_ h1_; have HO105 := n0_; have HB := n1_; clear n0_ n1_; have hHeld := trivial; refine norm_ (a' := ?_) ?_ ?_; rotate_left; (simp only [putAll, Act.put, qs, qt, qu]; rfl); refine pure_ (i := 5) (N := some 13) (v := ?_) (a' := ?_) (bm 7 63) rfl rfl (by kernel_rfl) (fun _ _ _ h => h) (Or.inl ⟨by rfl, ?_⟩) ?_ ?_; rotate_left; (intro w'; go_simp; with_reducible rfl); rotate_left; (simp only [Act.put, qs, qt, qu, i64_w, i32_w]; rfl); refine pure_ (i := 6) (N := some 5) (v := ?_) (a' := ?_) (bm 7 127) rfl rfl (by kernel_rfl) (fun _ _ _ h => h) (Or.inl ⟨by rfl, ?_⟩) ?_ ?_; rotate_left; (intro w'; go_simp; with_reducible rfl); rotate_left; (simp only [Act.put, qs, qt, qu, i64_w, i32_w]; rfl); refine done_ (by kernel_rfl) ?_
  try go_wp2
  go_loopg [5, 16] k (fun kq v5 v16 w' => ∃ (x5_1 : ByteArray) (x16_1 : Int), v5 = .string x5_1 ∧ v16 = .int .i64 x16_1 ∧ Aside0 (saltusref17_Text.l0 kq x5_1 l1 (l1.length : Int) x16_1 = some r) ∧ Aside0 (kq ≤ k) ∧ Aside0 (Below w.heap.size w w'))
  case atStart => exact ⟨((strOfNums y103) ++ t106), (0), (by first | rfl | (simp; done) | (simp [*]; done)), (by first | rfl | (simp; done) | (simp [*]; done)), H', ⟨Nat.le_refl _⟩, ⟨by repeat (first | (with_reducible first | exact HB.out | apply qa | apply qb | apply qc) | exact HB.out)⟩⟩
  case round =>
   clear H'; (try clear c1); (try clear p2); (try clear c4); (try clear c4b0); (try clear c4b1); (try clear c4b2); (try clear c6); (try clear hcv8); (try clear hcv9); obtain ⟨x5_1, x16_1, rfl, rfl, HA, HK1, HB⟩ := hrel
   cases gk with
   | zero => exact absurd HA.out (by simp [saltusref17_Text.l0])
   | succ k1 =>
    have H := HA.out; clear HA; simp only [saltusref17_Text.l0] at H
    by_cases c11 : x16_1 < (l1.length : Int)
    ·rw [if_pos c11] at H; have c11b0 := qj c11; clear c11
     by_cases c12 : 0 ≤ x16_1
     ·rw [if_pos c12] at H; have c12b0 := qj c12; clear c12
      by_cases c13 : x16_1 < (l1.length : Int)
      ·rw [if_pos c13] at H; have c13b0 := qj c13; clear c13
       by_cases c14 : x5_1.size + (rdOf ByteArray.empty l1 x16_1).size ≤ 9223372036854775807
       ·rw [if_pos c14] at H; have c14b0 := eq_true c14; have c14b1 := qj c14
        try have c14b2 : (9223372036854775807 < x5_1.size + (rdOf ByteArray.empty l1 x16_1).size) = False := eq_false (Nat.not_lt.2 c14)
        have H' := qf H; clear H; have p107 : 0 ≤ (x16_1 : Int) := qe (by with_reducible assumption); have q107 : x16_1 < (l1.length : Int) := qe (by with_reducible assumption); obtain ⟨ad107, e107, hx107_0⟩ := Kd.at_string HR1.out x16_1 p107 q107; cases e107; replace hx107_0 := (HB.out.cell (qd w _ hx107_0)).trans hx107_0; replace p107 := eq_true p107; replace q107 := eq_true q107; go_wp2
        go_roundg k1
        case measure => have := HK1.out; omega
        case rel => exact ⟨(x5_1 ++ (rdOf ByteArray.empty l1 x16_1)), (wrap64 (x16_1 + 1)), (by first | rfl | (simp; done) | (simp [*]; done)), (by first | rfl | (simp; done) | (simp [*]; done)), H', ⟨by have := HK1.out; omega⟩, ⟨by repeat (first | (with_reducible first | exact HB.out | apply qa | apply qb | apply qc) | exact HB.out)⟩⟩
       ·rw [if_neg c14] at H; exact absurd H (by simp)
      ·rw [if_neg c13] at H; exact absurd H (by simp)
     ·rw [if_neg c12] at H; exact absurd H (by simp)
    ·rw [if_neg c11] at H; have c11b0 := decide_eq_false c11; clear c11; obtain rfl := Option.some.inj H; go_wp2; go_ret; exact ⟨by first | rfl | (simp [errW_none, errW_some] <;> rfl) | (simp [*, errW_none, errW_some] <;> rfl), by repeat (first | (with_reducible first | exact HB.out | apply qa | apply qb | apply qc) | exact HB.out)⟩
 ·rw [if_neg c4] at H; exact absurd H (by simp)
end Go.Proofs.YtolbhliepkcihaaGreatDoor.QLA
end
section
namespace Go.Proofs.YtolbhliepkcihaaGreatDoor.QLA
open Go.RowKit Kinds YtolbhliepkcihaaGreatDoorW.PrintWords YtolbhliepkcihaaGreatDoorW.PrintLast YtolbhliepkcihaaGreatDoorW.PrintMore
attribute [local go_sem] max2_int min2_int max_two min_two max_three min_three max_four min_four   -- for this text's walks alone
set_option linter.unusedVariables false
set_option linter.unusedSimpArgs false
/-! ### saltusref17_Item: function 65 -/
def saltusref17_Item.f (a0_0 : Int) (a0_1 : ByteArray) : Option (ByteArray) := (some (([0] : List Int) : List Int)).bind fun y109 => ((saltusref02_Low.f a0_0 8).bind fun t112 => (if (strOfNums y109).size + t112.size ≤ 9223372036854775807 then ((saltusref02_One.f true 0 a0_1).bind fun t113 => (if ((strOfNums y109) ++ t112).size + t113.size ≤ 9223372036854775807 then (some (((strOfNums y109) ++ t112) ++ t113)) else (none))) else (none)))
def saltusref17_Item.T1 : Bool × List (List Nat × List Nat) := (true, [([], []), ([0], [0]), ([], []), ([2], [2]), ([3], [3]), ([1, 4], [1, 4]), ([], []), ([6], [6]), ([7], [7]), ([8, 4], [8]), ([5, 9], [5, 9]), ([10, 9, 0, 1, 2, 3, 4, 5, 6, 7, 8, 9, 10], [10])])
def saltusref17_Item.B1 : List Nat := [0, 1, 0, 4, 12, 31, 0, 64, 192, 476, 1023, 2047]
theorem saltusref17_Item.tab1 : rtab .any (opsOf Tryz.f65 1) = saltusref17_Item.T1 := by kernel_rfl
theorem saltusref17_Item.bits1 : waitsOk saltusref17_Item.T1.2 saltusref17_Item.B1 = true := by kernel_rfl
set_option maxHeartbeats 8000000 in
set_option maxRecDepth 100000 in
theorem saltusref17_Item.calls (a0_0 : Int) (a0_1 : ByteArray) (r : ByteArray) (w : World) (h : saltusref17_Item.f a0_0 a0_1 = some r) :
  Calls Tryz.prog 65 #[.agg #[.int .u64 a0_0, .string a0_1]] w fun e w' => e = .returned (.string r) ∧ Below w.heap.size w w' := by
 have hu44 := Tryz.underlying44; have hu84 := Tryz.underlying84; have HB := qf (Below.refl w.heap.size w); have H : ((some (([0] : List Int) : List Int)).bind fun y109 => ((saltusref02_Low.f a0_0 8).bind fun t112 => (if (strOfNums y109).size + t112.size ≤ 9223372036854775807 then ((saltusref02_One.f true 0 a0_1).bind fun t113 => (if ((strOfNums y109) ++ t112).size + t113.size ≤ 9223372036854775807 then (some (((strOfNums y109) ++ t112) ++ t113)) else (none))) else (none)))) = some r := h; clear h
 obtain ⟨y109, hy109⟩ : ∃ y_ : List Int, y_ = (([0] : List Int)) := ⟨_, rfl⟩
 replace H : ((saltusref02_Low.f a0_0 8).bind fun t112 => (if (strOfNums y109).size + t112.size ≤ 9223372036854775807 then ((saltusref02_One.f true 0 a0_1).bind fun t113 => (if ((strOfNums y109) ++ t112).size + t113.size ≤ 9223372036854775807 then (some (((strOfNums y109) ++ t112) ++ t113)) else (none))) else (none))) = some r := by first | (rw [hy109]; with_reducible exact H) | (have H2_ := (qv _ _).symm.trans H; rw [hy109]; with_reducible exact H2_) | (have H2_ := (qv _ _).symm.trans H; with_reducible exact H2_) | with_reducible exact H | (rw [hy109]; exact H) | exact H
 have Ny109 := qf hy109; clear hy109; replace H := qi H; obtain ⟨t112, A20, H⟩ := H
 (try dsimp only at H)
 have A2 := qf A20; clear A20
 by_cases c3 : (strOfNums y109).size + t112.size ≤ 9223372036854775807
 ·rw [if_pos c3] at H; have c3b0 := eq_true c3; have c3b1 := qj c3
  try have c3b2 : (9223372036854775807 < (strOfNums y109).size + t112.size) = False := eq_false (Nat.not_lt.2 c3)
  replace H := qi H; obtain ⟨t113, A40, H⟩ := H
  (try dsimp only at H)
  have A4 := qf A40; clear A40
  by_cases c5 : ((strOfNums y109) ++ t112).size + t113.size ≤ 9223372036854775807
  ·rw [if_pos c5] at H; have c5b0 := eq_true c5; have c5b1 := qj c5
   try have c5b2 : (9223372036854775807 < ((strOfNums y109) ++ t112).size + t113.size) = False := eq_false (Nat.not_lt.2 c5)
   have c5m : (9223372036854775807 < ((strOfNums y109).size + t112.size) + t113.size) = False := by have h_ := c5; simp only [ByteArray.size_extract, ByteArray.size_append, Nat.min_self] at h_; exact eq_false (by omega)
   obtain rfl := Option.some.inj H
   go_enter Tryz.func65, Tryz.ntmps65
   try go_wp2_with (first | ((with_reducible refine gate_dst (N := 1) rfl ?_); refine box_event ?hg (N := 1) ?hd (cs := #[.int .u64 a0_0, .string a0_1]) (t := 44) ?hr ?_; (case hd => rfl); (case hg => rfl); (case hr => first | (go_simp; done) | (go_simp; rfl)); intro gb108 hg w6 hbox hb; have n0_ := qf (below_step (by repeat (first | (with_reducible first | exact HB.out | apply qa | apply qb | apply qc) | exact HB.out)) hb); have n1_ := qf (hbox); have n2_ := qf ((by rw [hg]; exact (below_size (by repeat (first | (with_reducible first | exact HB.out | apply qa | apply qb | apply qc) | exact HB.out))) : w.heap.size ≤ gb108)); have n3_ := qf ((by rw [hg]; exact (below_size (by repeat (first | (with_reducible first | exact HB.out | apply qa | apply qb | apply qc) | exact HB.out))) : w.heap.size ≤ gb108)); clear HB; have HB := n0_; have BK108 := n1_; have GW108 := n2_; have GE108 := n3_; clear n0_ n1_ n2_ n3_ hb hbox hg))
   have n0_ := qf (blk_drew BK108.out); have n1_ := qf (qc HB.out); clear BK108 HB; have BK108 := n0_; have HB := n1_; clear n0_ n1_; refine start_ (n := 12) (S := fun w' => w'.cell? ⟨gb108, 0, none⟩ = some (.int .u64 a0_0) ∧ w'.cell? ⟨gb108, 1, none⟩ = some (.string a0_1)) (ds := []) (bm 12 0) (by kernel_rfl) rfl rfl ⟨(blk_cell BK108.out 0).trans rfl, (blk_cell BK108.out 1).trans rfl⟩ (fun hHeld => ?_); refine with_tabW saltusref17_Item.tab1 saltusref17_Item.bits1 (fun HT_ HW_ => ?_); generalize w6.drew = w7 at BK108 HB hHeld ⊢; refine qz 2 5 ?_ (bm 12 4) rfl rfl HT_ (by kernel_rfl) (fun _ _ _ h => h) (by rfl) ?_ ?_ ?_ ?_; rotate_left; (intro w'; go_simp; with_reducible rfl); rotate_left; (simp only [Act.put, qs, qt, qu, i64_w, i32_w]; rfl); refine qz 6 9 ?_ (bm 12 68) rfl rfl HT_ (by kernel_rfl) (fun _ _ _ h => h) (by rfl) ?_ ?_ ?_ ?_; rotate_left; (intro w'; go_simp; with_reducible rfl); rotate_left; (simp only [Act.put, qs, qt, qu, i64_w, i32_w]; rfl); refine take_ (i := 3) (N := some 6) (v := ?_) (a' := ?_) (bm 12 76) rfl rfl (take_ofW HT_.out HW_.out (by kernel_rfl)) (fun _ _ _ h => h) (Or.inl ⟨by rfl, ?_⟩) hHeld ?_ ?_; rotate_left
   ·rintro w' ⟨s0, s1⟩
    go_simp; with_reducible rfl
   rotate_left; (simp only [Act.put, qs, qt, qu, i64_w, i32_w]; rfl); refine take_ (i := 7) (N := some 10) (v := ?_) (a' := ?_) (bm 12 204) rfl rfl (take_ofW HT_.out HW_.out (by kernel_rfl)) (fun _ _ _ h => h) (Or.inl ⟨by rfl, ?_⟩) hHeld ?_ ?_; rotate_left
   ·rintro w' ⟨s0, s1⟩
    go_simp; with_reducible rfl
   rotate_left; (simp only [Act.put, qs, qt, qu, i64_w, i32_w]; rfl); refine qz 8 11 ?_ (bm 12 460) rfl rfl HT_ (by kernel_rfl) (fun _ _ _ h => h) (by rfl) ?_ ?_ ?_ ?_; rotate_left; (intro w'; go_simp; with_reducible rfl); rotate_left; (simp only [Act.put, qs, qt, qu, i64_w, i32_w]; rfl); refine join_ (σ := Value) 2 (bm 12 1023) (fun s_ => [(3, s_), (4, .string (strOfNums y109)), (7, .string t112), (12, .string t113), (8, .string ((strOfNums y109) ++ t112))]) (fun s_ w' => (w'.cell? ⟨gb108, 0, none⟩ = some (.int .u64 a0_0) ∧ w'.cell? ⟨gb108, 1, none⟩ = some (.string a0_1)) ∧ (Kd.R (Kd.int .u8) 5 w' w.heap.size (fun _ => True) s_ y109) ∧ (w'.heap[gb108]? = some (.cells #[.int .u64 a0_0, .string a0_1] 44 (0, 0))) ∧ (Below w.heap.size w w')) ?_ ?_; rotate_left
   ·intro hJ0_1_4_9; refine join_ (σ := Value) 3 (bm 12 511) (fun s_ => [(3, s_), (4, .string (strOfNums y109)), (7, .string t112), (8, .string ((strOfNums y109) ++ t112))]) (fun s_ w' => (w'.cell? ⟨gb108, 0, none⟩ = some (.int .u64 a0_0) ∧ w'.cell? ⟨gb108, 1, none⟩ = some (.string a0_1)) ∧ (Kd.R (Kd.int .u8) 5 w' w.heap.size (fun _ => True) s_ y109) ∧ (w'.heap[gb108]? = some (.cells #[.int .u64 a0_0, .string a0_1] 44 (0, 0))) ∧ (Below w.heap.size w w')) ?_ ?_; rotate_left
    ·intro hJ0_1_4; refine join_ (σ := Value) 4 (bm 12 989) (fun s_ => [(3, s_), (7, .string t112), (12, .string t113)]) (fun s_ w' => (w'.cell? ⟨gb108, 0, none⟩ = some (.int .u64 a0_0) ∧ w'.cell? ⟨gb108, 1, none⟩ = some (.string a0_1)) ∧ (Kd.R (Kd.int .u8) 5 w' w.heap.size (fun _ => True) s_ y109) ∧ (w'.heap[gb108]? = some (.cells #[.int .u64 a0_0, .string a0_1] 44 (0, 0))) ∧ (Below w.heap.size w w')) ?_ ?_; rotate_left
     ·intro hJ0_4_9; refine join_ (σ := Value) 5 (bm 12 463) (fun s_ => [(3, s_), (4, .string (strOfNums y109))]) (fun s_ w' => (w'.cell? ⟨gb108, 0, none⟩ = some (.int .u64 a0_0) ∧ w'.cell? ⟨gb108, 1, none⟩ = some (.string a0_1)) ∧ (Kd.R (Kd.int .u8) 5 w' w.heap.size (fun _ => True) s_ y109) ∧ (w'.heap[gb108]? = some (.cells #[.int .u64 a0_0, .string a0_1] 44 (0, 0))) ∧ (Below w.heap.size w w')) ?_ ?_; rotate_left
      ·intro hJ0_1; refine join_ (σ := Value) 5 (bm 12 477) (fun s_ => [(3, s_), (7, .string t112)]) (fun s_ w' => (w'.cell? ⟨gb108, 0, none⟩ = some (.int .u64 a0_0) ∧ w'.cell? ⟨gb108, 1, none⟩ = some (.string a0_1)) ∧ (Kd.R (Kd.int .u8) 5 w' w.heap.size (fun _ => True) s_ y109) ∧ (w'.heap[gb108]? = some (.cells #[.int .u64 a0_0, .string a0_1] 44 (0, 0))) ∧ (Below w.heap.size w w')) ?_ ?_; rotate_left
       ·intro hJ0_4; refine join_ (σ := Unit) 5 (bm 12 988) (fun s_ => [(7, .string t112), (12, .string t113)]) (fun s_ w' => (w'.cell? ⟨gb108, 0, none⟩ = some (.int .u64 a0_0) ∧ w'.cell? ⟨gb108, 1, none⟩ = some (.string a0_1)) ∧ (w'.heap[gb108]? = some (.cells #[.int .u64 a0_0, .string a0_1] 44 (0, 0))) ∧ (Below w.heap.size w w')) ?_ ?_; rotate_left
        ·intro hJ4_9; refine join_ (σ := Value) 6 (bm 12 461) (fun s_ => [(3, s_)]) (fun s_ w' => (w'.cell? ⟨gb108, 0, none⟩ = some (.int .u64 a0_0) ∧ w'.cell? ⟨gb108, 1, none⟩ = some (.string a0_1)) ∧ (Kd.R (Kd.int .u8) 5 w' w.heap.size (fun _ => True) s_ y109) ∧ (w'.heap[gb108]? = some (.cells #[.int .u64 a0_0, .string a0_1] 44 (0, 0))) ∧ (Below w.heap.size w w')) ?_ ?_; rotate_left
         ·intro hJ0; refine join_ (σ := Unit) 6 (bm 12 476) (fun s_ => [(7, .string t112)]) (fun s_ w' => (w'.cell? ⟨gb108, 0, none⟩ = some (.int .u64 a0_0) ∧ w'.cell? ⟨gb108, 1, none⟩ = some (.string a0_1)) ∧ (w'.heap[gb108]? = some (.cells #[.int .u64 a0_0, .string a0_1] 44 (0, 0))) ∧ (Below w.heap.size w w')) ?_ ?_; rotate_left
          ·intro hJ4; refine two_ (i := 0) (j := 4) (Ni := some 3) (Nj := some 7) (bm 12 461) (bm 12 476) rfl rfl rfl rfl (two_of HT_.out (by kernel_rfl)) (by decide) (by decide) (fun K hK => ?_) (fun K hK => ?_)
           ·skip
            refine Kd.R_lit_step (Kd.int .u8) _ 5 ?hg (N := 3) ?hd (xs := ([0] : List Int)) (inner := [.int .u8 0]) (ok := fun _ => True) (okp := fun _ => True) ?hr ?hp (fun _ hk => hk) trivial (Below.refl _ _) (Nat.le_refl _) (by simp) ?_; (case hd => rfl); (case hg => rfl); (case hr => first | (go_simp; done) | (go_simp; rfl)); (case hp => exact (Reps.one (show Kd.M (Kd.int .u8) _ _ _ 0 [.int .u8 0] from rfl) (Reps.none _ _))); intro v110 w8 ho9 hb hg_ hnew_; clear hg_ hnew_
            (first | rw [← Ny109.out] at ho9 | (simp only [Int.reduceToNat] at ho9; rw [← Ny109.out] at ho9))
            have n0_ := qf (Kd.R_lower ho9 (below_size (by repeat (first | (with_reducible first | exact HB.out | apply qa | apply qb | apply qc | refine qg ?_ GE108.out) | exact HB.out)))); have n1_ := qf (blk_below (g := gb108) (o := .cells #[.int .u64 a0_0, .string a0_1] 44 (0, 0)) (by (with_reducible repeat (first | refine blk_drewN ?_ _ | refine blk_drew ?_ | refine qh ?_ _)); exact BK108.out) hb); have n2_ := qf (below_step (by repeat (first | (with_reducible first | exact HB.out | apply qa | apply qb | apply qc | refine qg ?_ GE108.out) | exact HB.out)) hb); clear BK108 HB; have HO111 := n0_; have BK108 := n1_; have HB := n2_; clear n0_ n1_ n2_ hb ho9; refine hK.out _ _ ⟨(blk_cell BK108.out 0).trans rfl, (blk_cell BK108.out 1).trans rfl⟩ (fun hHeld => ?_); clear hK K; refine norm_ (a' := ?_) ?_ ?_; rotate_left
            ·show Act.put _ (some 3) _ = _
             simp only [Act.put, qs, qt, qu, i64_w, i32_w]; rfl
            exact norm_ (by first | (simp only [putAll, Act.put, qs, qt, qu]; done) | (simp only [putAll, Act.put, qs, qt, qu]; rfl)) (hJ0 (v110) _ ⟨hHeld, (by (with_reducible repeat (first | apply Kd.R_alloc | apply Kd.R_drewN | apply Kd.R_drew)); exact HO111.out), (by (with_reducible repeat (first | refine blk_drewN ?_ _ | refine blk_drew ?_ | refine qh ?_ _)); exact BK108.out), (by repeat (first | (with_reducible first | exact HB.out | apply qa | apply qb | apply qc | refine qg ?_ GE108.out) | exact HB.out))⟩)
           ·skip
            refine goes_ Tryz.func64 (by kernel_rfl) rfl #[.int .u64 a0_0, .int .i64 8] (by rfl) rfl rfl (by (try simp only [List.map_toArray, List.map_cons, List.map_nil]); first | done | rfl | (simp only [List.length_drop, qw]; rfl)) ?_
            with_reducible refine (saltusref02_Low.calls a0_0 8 t112 _ A2.out).mono ?_
            rintro e w8 ⟨rfl, hb⟩
            refine ⟨_, rfl, ?_⟩; have n0_ := qf (blk_below (g := gb108) (o := .cells #[.int .u64 a0_0, .string a0_1] 44 (0, 0)) (by (with_reducible repeat (first | refine blk_drewN ?_ _ | refine blk_drew ?_ | refine qh ?_ _)); exact BK108.out) hb); have n1_ := qf (below_step (by repeat (first | (with_reducible first | exact HB.out | apply qa | apply qb | apply qc | refine qg ?_ GE108.out) | exact HB.out)) hb); clear BK108 HB; have BK108 := n0_; have HB := n1_; clear n0_ n1_
            (try clear hb)
            (try clear hb2)
            (try clear hk)
            (try clear hi)
            refine hK.out _ _ ⟨(blk_cell BK108.out 0).trans rfl, (blk_cell BK108.out 1).trans rfl⟩ (fun hHeld => ?_); clear hK K; refine norm_ (a' := ?_) ?_ ?_; rotate_left
            ·show Act.put _ (some 7) _ = _
             simp only [Act.put, qs, qt, qu, i64_w, i32_w]; rfl
            exact norm_ (by first | (simp only [putAll, Act.put, qs, qt, qu]; done) | (simp only [putAll, Act.put, qs, qt, qu]; rfl)) (hJ4 () _ ⟨hHeld, (by (with_reducible repeat (first | refine blk_drewN ?_ _ | refine blk_drew ?_ | refine qh ?_ _)); exact BK108.out), (by repeat (first | (with_reducible first | exact HB.out | apply qa | apply qb | apply qc | refine qg ?_ GE108.out) | exact HB.out))⟩)
          ·skip
           rintro _ w9 ⟨hS_, h0_, h1_⟩
           have n0_ : Aside0 (w9.heap[gb108]? = some (.cells #[.int .u64 a0_0, .string a0_1] 44 (0, 0))) := ⟨h0_⟩; have n1_ : Aside0 (Below w.heap.size w w9) := ⟨h1_⟩; clear BK108 HB h0_ h1_; have BK108 := n0_; have HB := n1_; clear n0_ n1_; have hHeld : w9.cell? ⟨gb108, 0, none⟩ = some (.int .u64 a0_0) ∧ w9.cell? ⟨gb108, 1, none⟩ = some (.string a0_1) := hS_; refine norm_ (a' := ?_) ?_ ?_; rotate_left; (simp only [putAll, Act.put, qs, qt, qu]; rfl); refine two_ (i := 0) (j := 9) (Ni := some 3) (Nj := some 12) (bm 12 477) (bm 12 988) rfl rfl rfl rfl (two_of HT_.out (by kernel_rfl)) (by decide) (by decide) (fun K hK => ?_) (fun K hK => ?_)
           ·skip
            refine Kd.R_lit_step (Kd.int .u8) _ 5 ?hg (N := 3) ?hd (xs := ([0] : List Int)) (inner := [.int .u8 0]) (ok := fun _ => True) (okp := fun _ => True) ?hr ?hp (fun _ hk => hk) trivial (Below.refl _ _) (Nat.le_refl _) (by simp) ?_; (case hd => rfl); (case hg => rfl); (case hr => first | (go_simp; done) | (go_simp; rfl)); (case hp => exact (Reps.one (show Kd.M (Kd.int .u8) _ _ _ 0 [.int .u8 0] from rfl) (Reps.none _ _))); intro v110 w10 ho11 hb hg_ hnew_; clear hg_ hnew_
            (first | rw [← Ny109.out] at ho11 | (simp only [Int.reduceToNat] at ho11; rw [← Ny109.out] at ho11))
            have n0_ := qf (Kd.R_lower ho11 (below_size (by repeat (first | (with_reducible first | exact HB.out | apply qa | apply qb | apply qc | refine qg ?_ GE108.out) | exact HB.out)))); have n1_ := qf (blk_below (g := gb108) (o := .cells #[.int .u64 a0_0, .string a0_1] 44 (0, 0)) (by (with_reducible repeat (first | refine blk_drewN ?_ _ | refine blk_drew ?_ | refine qh ?_ _)); exact BK108.out) hb); have n2_ := qf (below_step (by repeat (first | (with_reducible first | exact HB.out | apply qa | apply qb | apply qc | refine qg ?_ GE108.out) | exact HB.out)) hb); clear BK108 HB; have HO111 := n0_; have BK108 := n1_; have HB := n2_; clear n0_ n1_ n2_ hb ho11; refine hK.out _ _ ⟨(blk_cell BK108.out 0).trans rfl, (blk_cell BK108.out 1).trans rfl⟩ (fun hHeld => ?_); clear hK K; refine norm_ (a' := ?_) ?_ ?_; rotate_left
            ·show Act.put _ (some 3) _ = _
             simp only [Act.put, qs, qt, qu, i64_w, i32_w]; rfl
            exact norm_ (by first | (simp only [putAll, Act.put, qs, qt, qu]; done) | (simp only [putAll, Act.put, qs, qt, qu]; rfl)) (hJ0_4 (v110) _ ⟨hHeld, (by (with_reducible repeat (first | apply Kd.R_alloc | apply Kd.R_drewN | apply Kd.R_drew)); exact HO111.out), (by (with_reducible repeat (first | refine blk_drewN ?_ _ | refine blk_drew ?_ | refine qh ?_ _)); exact BK108.out), (by repeat (first | (with_reducible first | exact HB.out | apply qa | apply qb | apply qc | refine qg ?_ GE108.out) | exact HB.out))⟩)
           ·skip
            refine goes_ Tryz.func86 (by kernel_rfl) rfl #[.agg #[.bool true, .int .u64 0, .string a0_1]] (by rfl) rfl rfl (by (try simp only [List.map_toArray, List.map_cons, List.map_nil]); first | done | rfl | (simp only [List.length_drop, qw]; rfl)) ?_
            with_reducible refine (saltusref02_One.calls true 0 a0_1 t113 _ A4.out).mono ?_
            rintro e w10 ⟨rfl, hb⟩
            refine ⟨_, rfl, ?_⟩; have n0_ := qf (blk_below (g := gb108) (o := .cells #[.int .u64 a0_0, .string a0_1] 44 (0, 0)) (by (with_reducible repeat (first | refine blk_drewN ?_ _ | refine blk_drew ?_ | refine qh ?_ _)); exact BK108.out) hb); have n1_ := qf (below_step (by repeat (first | (with_reducible first | exact HB.out | apply qa | apply qb | apply qc | refine qg ?_ GE108.out) | exact HB.out)) hb); clear BK108 HB; have BK108 := n0_; have HB := n1_; clear n0_ n1_
            (try clear hb)
            (try clear hb2)
            (try clear hk)
            (try clear hi)
            refine hK.out _ _ ⟨(blk_cell BK108.out 0).trans rfl, (blk_cell BK108.out 1).trans rfl⟩ (fun hHeld => ?_); clear hK K; refine norm_ (a' := ?_) ?_ ?_; rotate_left
            ·show Act.put _ (some 12) _ = _
             simp only [Act.put, qs, qt, qu, i64_w, i32_w]; rfl
            exact norm_ (by first | (simp only [putAll, Act.put, qs, qt, qu]; done) | (simp only [putAll, Act.put, qs, qt, qu]; rfl)) (hJ4_9 () _ ⟨hHeld, (by (with_reducible repeat (first | refine blk_drewN ?_ _ | refine blk_drew ?_ | refine qh ?_ _)); exact BK108.out), (by repeat (first | (with_reducible first | exact HB.out | apply qa | apply qb | apply qc | refine qg ?_ GE108.out) | exact HB.out))⟩)
         ·skip
          rintro v110 w10 ⟨hS_, h0_, h1_, h2_⟩
          have n0_ : Aside0 (Kd.R (Kd.int .u8) 5 w10 w.heap.size (fun _ => True) v110 y109) := ⟨h0_⟩; have n1_ : Aside0 (w10.heap[gb108]? = some (.cells #[.int .u64 a0_0, .string a0_1] 44 (0, 0))) := ⟨h1_⟩; have n2_ : Aside0 (Below w.heap.size w w10) := ⟨h2_⟩; clear BK108 HB h0_ h1_ h2_; have HO111 := n0_; have BK108 := n1_; have HB := n2_; clear n0_ n1_ n2_; have hHeld : w10.cell? ⟨gb108, 0, none⟩ = some (.int .u64 a0_0) ∧ w10.cell? ⟨gb108, 1, none⟩ = some (.string a0_1) := hS_; refine norm_ (a' := ?_) ?_ ?_; rotate_left; (simp only [putAll, Act.put, qs, qt, qu]; rfl); refine two_ (i := 1) (j := 4) (Ni := some 4) (Nj := some 7) (bm 12 463) (bm 12 477) rfl rfl rfl rfl (two_of HT_.out (by kernel_rfl)) (by decide) (by decide) (fun K hK => ?_) (fun K hK => ?_)
          ·skip
           have hcv11 := own_string (P := Tryz.prog) Tryz.underlying74 Tryz.underlying5 Tryz.underlying9 (Kd.own_of_R HO111.out); refine value_ (w1 := ?_) (v := ?_) (by rfl) rfl ?_ ?_; rotate_left 2
           ·go_simp
            constructor
            (rfl); (rfl)
           clear hcv11; refine hK.out _ _ ⟨(blk_cell BK108.out 0).trans rfl, (blk_cell BK108.out 1).trans rfl⟩ (fun hHeld => ?_); clear hK K; refine norm_ (a' := ?_) ?_ ?_; rotate_left
           ·show Act.put _ (some 4) _ = _
            simp only [Act.put, qs, qt, qu, i64_w, i32_w]; rfl
           exact norm_ (by first | (simp only [putAll, Act.put, qs, qt, qu]; done) | (simp only [putAll, Act.put, qs, qt, qu]; rfl)) (hJ0_1 (v110) _ ⟨hHeld, (by (with_reducible repeat (first | apply Kd.R_alloc | apply Kd.R_drewN | apply Kd.R_drew)); exact HO111.out), (by (with_reducible repeat (first | refine blk_drewN ?_ _ | refine blk_drew ?_ | refine qh ?_ _)); exact BK108.out), (by repeat (first | (with_reducible first | exact HB.out | apply qa | apply qb | apply qc | refine qg ?_ GE108.out) | exact HB.out))⟩)
          ·skip
           refine goes_ Tryz.func64 (by kernel_rfl) rfl #[.int .u64 a0_0, .int .i64 8] (by rfl) rfl rfl (by (try simp only [List.map_toArray, List.map_cons, List.map_nil]); first | done | rfl | (simp only [List.length_drop, qw]; rfl)) ?_
           with_reducible refine (saltusref02_Low.calls a0_0 8 t112 _ A2.out).mono ?_
           rintro e w11 ⟨rfl, hb⟩
           refine ⟨_, rfl, ?_⟩; have n0_ := qf (Kd.R_below (by (with_reducible repeat (first | apply Kd.R_alloc | apply Kd.R_drewN | apply Kd.R_drew)); exact HO111.out) hb); have n1_ := qf (blk_below (g := gb108) (o := .cells #[.int .u64 a0_0, .string a0_1] 44 (0, 0)) (by (with_reducible repeat (first | refine blk_drewN ?_ _ | refine blk_drew ?_ | refine qh ?_ _)); exact BK108.out) hb); have n2_ := qf (below_step (by repeat (first | (with_reducible first | exact HB.out | apply qa | apply qb | apply qc | refine qg ?_ GE108.out) | exact HB.out)) hb); clear HO111 BK108 HB; have HO111 := n0_; have BK108 := n1_; have HB := n2_; clear n0_ n1_ n2_
           (try clear hb)
           (try clear hb2)
           (try clear hk)
           (try clear hi)
           refine hK.out _ _ ⟨(blk_cell BK108.out 0).trans rfl, (blk_cell BK108.out 1).trans rfl⟩ (fun hHeld => ?_); clear hK K; refine norm_ (a' := ?_) ?_ ?_; rotate_left
           ·show Act.put _ (some 7) _ = _
            simp only [Act.put, qs, qt, qu, i64_w, i32_w]; rfl
           exact norm_ (by first | (simp only [putAll, Act.put, qs, qt, qu]; done) | (simp only [putAll, Act.put, qs, qt, qu]; rfl)) (hJ0_4 (v110) _ ⟨hHeld, (by (with_reducible repeat (first | apply Kd.R_alloc | apply Kd.R_drewN | apply Kd.R_drew)); exact HO111.out), (by (with_reducible repeat (first | refine blk_drewN ?_ _ | refine blk_drew ?_ | refine qh ?_ _)); exact BK108.out), (by repeat (first | (with_reducible first | exact HB.out | apply qa | apply qb | apply qc | refine qg ?_ GE108.out) | exact HB.out))⟩)
        ·skip
         rintro _ w10 ⟨hS_, h0_, h1_⟩
         have n0_ : Aside0 (w10.heap[gb108]? = some (.cells #[.int .u64 a0_0, .string a0_1] 44 (0, 0))) := ⟨h0_⟩; have n1_ : Aside0 (Below w.heap.size w w10) := ⟨h1_⟩; clear BK108 HB h0_ h1_; have BK108 := n0_; have HB := n1_; clear n0_ n1_; have hHeld : w10.cell? ⟨gb108, 0, none⟩ = some (.int .u64 a0_0) ∧ w10.cell? ⟨gb108, 1, none⟩ = some (.string a0_1) := hS_; refine norm_ (a' := ?_) ?_ ?_; rotate_left; (simp only [putAll, Act.put, qs, qt, qu]; rfl); refine one_ (i := 0) (N := some 3) (bm 12 989) rfl rfl (one_of HT_.out (by kernel_rfl)) (by decide) (fun K hK => ?_); refine Kd.R_lit_step (Kd.int .u8) _ 5 ?hg (N := 3) ?hd (xs := ([0] : List Int)) (inner := [.int .u8 0]) (ok := fun _ => True) (okp := fun _ => True) ?hr ?hp (fun _ hk => hk) trivial (Below.refl _ _) (Nat.le_refl _) (by simp) ?_; (case hd => rfl); (case hg => rfl); (case hr => first | (go_simp; done) | (go_simp; rfl)); (case hp => exact (Reps.one (show Kd.M (Kd.int .u8) _ _ _ 0 [.int .u8 0] from rfl) (Reps.none _ _))); intro v110 w11 ho12 hb hg_ hnew_; clear hg_ hnew_
         (first | rw [← Ny109.out] at ho12 | (simp only [Int.reduceToNat] at ho12; rw [← Ny109.out] at ho12))
         have n0_ := qf (Kd.R_lower ho12 (below_size (by repeat (first | (with_reducible first | exact HB.out | apply qa | apply qb | apply qc | refine qg ?_ GE108.out) | exact HB.out)))); have n1_ := qf (blk_below (g := gb108) (o := .cells #[.int .u64 a0_0, .string a0_1] 44 (0, 0)) (by (with_reducible repeat (first | refine blk_drewN ?_ _ | refine blk_drew ?_ | refine qh ?_ _)); exact BK108.out) hb); have n2_ := qf (below_step (by repeat (first | (with_reducible first | exact HB.out | apply qa | apply qb | apply qc | refine qg ?_ GE108.out) | exact HB.out)) hb); clear BK108 HB; have HO111 := n0_; have BK108 := n1_; have HB := n2_; clear n0_ n1_ n2_ hb ho12; refine hK.out _ _ ⟨(blk_cell BK108.out 0).trans rfl, (blk_cell BK108.out 1).trans rfl⟩ (fun hHeld => ?_); clear hK K; refine norm_ (a' := ?_) ?_ ?_; rotate_left
         ·show Act.put _ (some 3) _ = _
          simp only [Act.put, qs, qt, qu, i64_w, i32_w]; rfl
         exact norm_ (by first | (simp only [putAll, Act.put, qs, qt, qu]; done) | (simp only [putAll, Act.put, qs, qt, qu]; rfl)) (hJ0_4_9 (v110) _ ⟨hHeld, (by (with_reducible repeat (first | apply Kd.R_alloc | apply Kd.R_drewN | apply Kd.R_drew)); exact HO111.out), (by (with_reducible repeat (first | refine blk_drewN ?_ _ | refine blk_drew ?_ | refine qh ?_ _)); exact BK108.out), (by repeat (first | (with_reducible first | exact HB.out | apply qa | apply qb | apply qc | refine qg ?_ GE108.out) | exact HB.out))⟩)
       ·skip
        rintro v110 w11 ⟨hS_, h0_, h1_, h2_⟩
        have n0_ : Aside0 (Kd.R (Kd.int .u8) 5 w11 w.heap.size (fun _ => True) v110 y109) := ⟨h0_⟩; have n1_ : Aside0 (w11.heap[gb108]? = some (.cells #[.int .u64 a0_0, .string a0_1] 44 (0, 0))) := ⟨h1_⟩; have n2_ : Aside0 (Below w.heap.size w w11) := ⟨h2_⟩; clear BK108 HB h0_ h1_ h2_; have HO111 := n0_; have BK108 := n1_; have HB := n2_; clear n0_ n1_ n2_; have hHeld : w11.cell? ⟨gb108, 0, none⟩ = some (.int .u64 a0_0) ∧ w11.cell? ⟨gb108, 1, none⟩ = some (.string a0_1) := hS_; refine norm_ (a' := ?_) ?_ ?_; rotate_left; (simp only [putAll, Act.put, qs, qt, qu]; rfl); refine two_ (i := 1) (j := 9) (Ni := some 4) (Nj := some 12) (bm 12 479) (bm 12 989) rfl rfl rfl rfl (two_of HT_.out (by kernel_rfl)) (by decide) (by decide) (fun K hK => ?_) (fun K hK => ?_)
        ·skip
         have hcv12 := own_string (P := Tryz.prog) Tryz.underlying74 Tryz.underlying5 Tryz.underlying9 (Kd.own_of_R HO111.out); refine value_ (w1 := ?_) (v := ?_) (by rfl) rfl ?_ ?_; rotate_left 2
         ·go_simp
          constructor
          (rfl); (rfl)
         clear hcv12; refine hK.out _ _ ⟨(blk_cell BK108.out 0).trans rfl, (blk_cell BK108.out 1).trans rfl⟩ (fun hHeld => ?_); clear hK K; refine norm_ (a' := ?_) ?_ ?_; rotate_left
         ·show Act.put _ (some 4) _ = _
          simp only [Act.put, qs, qt, qu, i64_w, i32_w]; rfl
         refine qz 5 8 ?_ (bm 12 511) rfl rfl HT_ (by kernel_rfl) (fun _ _ _ h => h) (by rfl) ?_ ?_ ?_ ?_; rotate_left; (intro w'; go_simp; with_reducible rfl); rotate_left; (simp only [Act.put, qs, qt, qu, i64_w, i32_w]; rfl); exact norm_ (by first | (simp only [putAll, Act.put, qs, qt, qu]; done) | (simp only [putAll, Act.put, qs, qt, qu]; rfl)) (hJ0_1_4 (v110) _ ⟨hHeld, (by (with_reducible repeat (first | apply Kd.R_alloc | apply Kd.R_drewN | apply Kd.R_drew)); exact HO111.out), (by (with_reducible repeat (first | refine blk_drewN ?_ _ | refine blk_drew ?_ | refine qh ?_ _)); exact BK108.out), (by repeat (first | (with_reducible first | exact HB.out | apply qa | apply qb | apply qc | refine qg ?_ GE108.out) | exact HB.out))⟩)
        ·skip
         refine goes_ Tryz.func86 (by kernel_rfl) rfl #[.agg #[.bool true, .int .u64 0, .string a0_1]] (by rfl) rfl rfl (by (try simp only [List.map_toArray, List.map_cons, List.map_nil]); first | done | rfl | (simp only [List.length_drop, qw]; rfl)) ?_
         with_reducible refine (saltusref02_One.calls true 0 a0_1 t113 _ A4.out).mono ?_
         rintro e w12 ⟨rfl, hb⟩
         refine ⟨_, rfl, ?_⟩; have n0_ := qf (Kd.R_below (by (with_reducible repeat (first | apply Kd.R_alloc | apply Kd.R_drewN | apply Kd.R_drew)); exact HO111.out) hb); have n1_ := qf (blk_below (g := gb108) (o := .cells #[.int .u64 a0_0, .string a0_1] 44 (0, 0)) (by (with_reducible repeat (first | refine blk_drewN ?_ _ | refine blk_drew ?_ | refine qh ?_ _)); exact BK108.out) hb); have n2_ := qf (below_step (by repeat (first | (with_reducible first | exact HB.out | apply qa | apply qb | apply qc | refine qg ?_ GE108.out) | exact HB.out)) hb); clear HO111 BK108 HB; have HO111 := n0_; have BK108 := n1_; have HB := n2_; clear n0_ n1_ n2_
         (try clear hb)
         (try clear hb2)
         (try clear hk)
         (try clear hi)
         refine hK.out _ _ ⟨(blk_cell BK108.out 0).trans rfl, (blk_cell BK108.out 1).trans rfl⟩ (fun hHeld => ?_); clear hK K; refine norm_ (a' := ?_) ?_ ?_; rotate_left
         ·show Act.put _ (some 12) _ = _
          simp only [Act.put, qs, qt, qu, i64_w, i32_w]; rfl
         exact norm_ (by first | (simp only [putAll, Act.put, qs, qt, qu]; done) | (simp only [putAll, Act.put, qs, qt, qu]; rfl)) (hJ0_4_9 (v110) _ ⟨hHeld, (by (with_reducible repeat (first | apply Kd.R_alloc | apply Kd.R_drewN | apply Kd.R_drew)); exact HO111.out), (by (with_reducible repeat (first | refine blk_drewN ?_ _ | refine blk_drew ?_ | refine qh ?_ _)); exact BK108.out), (by repeat (first | (with_reducible first | exact HB.out | apply qa | apply qb | apply qc | refine qg ?_ GE108.out) | exact HB.out))⟩)
      ·skip
       rintro v110 w11 ⟨hS_, h0_, h1_, h2_⟩
       have n0_ : Aside0 (Kd.R (Kd.int .u8) 5 w11 w.heap.size (fun _ => True) v110 y109) := ⟨h0_⟩; have n1_ : Aside0 (w11.heap[gb108]? = some (.cells #[.int .u64 a0_0, .string a0_1] 44 (0, 0))) := ⟨h1_⟩; have n2_ : Aside0 (Below w.heap.size w w11) := ⟨h2_⟩; clear BK108 HB h0_ h1_ h2_; have HO111 := n0_; have BK108 := n1_; have HB := n2_; clear n0_ n1_ n2_; have hHeld : w11.cell? ⟨gb108, 0, none⟩ = some (.int .u64 a0_0) ∧ w11.cell? ⟨gb108, 1, none⟩ = some (.string a0_1) := hS_; refine norm_ (a' := ?_) ?_ ?_; rotate_left; (simp only [putAll, Act.put, qs, qt, qu]; rfl); refine one_ (i := 4) (N := some 7) (bm 12 479) rfl rfl (one_of HT_.out (by kernel_rfl)) (by decide) (fun K hK => ?_); refine goes_ Tryz.func64 (by kernel_rfl) rfl #[.int .u64 a0_0, .int .i64 8] (by rfl) rfl rfl (by (try simp only [List.map_toArray, List.map_cons, List.map_nil]); first | done | rfl | (simp only [List.length_drop, qw]; rfl)) ?_
       with_reducible refine (saltusref02_Low.calls a0_0 8 t112 _ A2.out).mono ?_
       rintro e w12 ⟨rfl, hb⟩
       refine ⟨_, rfl, ?_⟩; have n0_ := qf (Kd.R_below (by (with_reducible repeat (first | apply Kd.R_alloc | apply Kd.R_drewN | apply Kd.R_drew)); exact HO111.out) hb); have n1_ := qf (blk_below (g := gb108) (o := .cells #[.int .u64 a0_0, .string a0_1] 44 (0, 0)) (by (with_reducible repeat (first | refine blk_drewN ?_ _ | refine blk_drew ?_ | refine qh ?_ _)); exact BK108.out) hb); have n2_ := qf (below_step (by repeat (first | (with_reducible first | exact HB.out | apply qa | apply qb | apply qc | refine qg ?_ GE108.out) | exact HB.out)) hb); clear HO111 BK108 HB; have HO111 := n0_; have BK108 := n1_; have HB := n2_; clear n0_ n1_ n2_
       (try clear hb)
       (try clear hb2)
       (try clear hk)
       (try clear hi)
       refine hK.out _ _ ⟨(blk_cell BK108.out 0).trans rfl, (blk_cell BK108.out 1).trans rfl⟩ (fun hHeld => ?_); clear hK K; refine norm_ (a' := ?_) ?_ ?_; rotate_left
       ·show Act.put _ (some 7) _ = _
        simp only [Act.put, qs, qt, qu, i64_w, i32_w]; rfl
       refine qz 5 8 ?_ (bm 12 511) rfl rfl HT_ (by kernel_rfl) (fun _ _ _ h => h) (by rfl) ?_ ?_ ?_ ?_; rotate_left; (intro w'; go_simp; with_reducible rfl); rotate_left; (simp only [Act.put, qs, qt, qu, i64_w, i32_w]; rfl); exact norm_ (by first | (simp only [putAll, Act.put, qs, qt, qu]; done) | (simp only [putAll, Act.put, qs, qt, qu]; rfl)) (hJ0_1_4 (v110) _ ⟨hHeld, (by (with_reducible repeat (first | apply Kd.R_alloc | apply Kd.R_drewN | apply Kd.R_drew)); exact HO111.out), (by (with_reducible repeat (first | refine blk_drewN ?_ _ | refine blk_drew ?_ | refine qh ?_ _)); exact BK108.out), (by repeat (first | (with_reducible first | exact HB.out | apply qa | apply qb | apply qc | refine qg ?_ GE108.out) | exact HB.out))⟩)
     ·skip
      rintro v110 w12 ⟨hS_, h0_, h1_, h2_⟩
      have n0_ : Aside0 (Kd.R (Kd.int .u8) 5 w12 w.heap.size (fun _ => True) v110 y109) := ⟨h0_⟩; have n1_ : Aside0 (w12.heap[gb108]? = some (.cells #[.int .u64 a0_0, .string a0_1] 44 (0, 0))) := ⟨h1_⟩; have n2_ : Aside0 (Below w.heap.size w w12) := ⟨h2_⟩; clear BK108 HB h0_ h1_ h2_; have HO111 := n0_; have BK108 := n1_; have HB := n2_; clear n0_ n1_ n2_; have hHeld : w12.cell? ⟨gb108, 0, none⟩ = some (.int .u64 a0_0) ∧ w12.cell? ⟨gb108, 1, none⟩ = some (.string a0_1) := hS_; refine norm_ (a' := ?_) ?_ ?_; rotate_left; (simp only [putAll, Act.put, qs, qt, qu]; rfl); refine one_ (i := 1) (N := some 4) (bm 12 991) rfl rfl (one_of HT_.out (by kernel_rfl)) (by decide) (fun K hK => ?_); have hcv13 := own_string (P := Tryz.prog) Tryz.underlying74 Tryz.underlying5 Tryz.underlying9 (Kd.own_of_R HO111.out); refine value_ (w1 := ?_) (v := ?_) (by rfl) rfl ?_ ?_; rotate_left 2
      ·go_simp
       constructor
       (rfl); (rfl)
      clear hcv13; refine hK.out _ _ ⟨(blk_cell BK108.out 0).trans rfl, (blk_cell BK108.out 1).trans rfl⟩ (fun hHeld => ?_); clear hK K; refine norm_ (a' := ?_) ?_ ?_; rotate_left
      ·show Act.put _ (some 4) _ = _
       simp only [Act.put, qs, qt, qu, i64_w, i32_w]; rfl
      refine qz 5 8 ?_ (bm 12 1023) rfl rfl HT_ (by kernel_rfl) (fun _ _ _ h => h) (by rfl) ?_ ?_ ?_ ?_; rotate_left; (intro w'; go_simp; with_reducible rfl); rotate_left; (simp only [Act.put, qs, qt, qu, i64_w, i32_w]; rfl); exact norm_ (by first | (simp only [putAll, Act.put, qs, qt, qu]; done) | (simp only [putAll, Act.put, qs, qt, qu]; rfl)) (hJ0_1_4_9 (v110) _ ⟨hHeld, (by (with_reducible repeat (first | apply Kd.R_alloc | apply Kd.R_drewN | apply Kd.R_drew)); exact HO111.out), (by (with_reducible repeat (first | refine blk_drewN ?_ _ | refine blk_drew ?_ | refine qh ?_ _)); exact BK108.out), (by repeat (first | (with_reducible first | exact HB.out | apply qa | apply qb | apply qc | refine qg ?_ GE108.out) | exact HB.out))⟩)
    ·skip
     rintro v110 w12 ⟨hS_, h0_, h1_, h2_⟩
     have n0_ : Aside0 (Kd.R (Kd.int .u8) 5 w12 w.heap.size (fun _ => True) v110 y109) := ⟨h0_⟩; have n1_ : Aside0 (w12.heap[gb108]? = some (.cells #[.int .u64 a0_0, .string a0_1] 44 (0, 0))) := ⟨h1_⟩; have n2_ : Aside0 (Below w.heap.size w w12) := ⟨h2_⟩; clear BK108 HB h0_ h1_ h2_; have HO111 := n0_; have BK108 := n1_; have HB := n2_; clear n0_ n1_ n2_; have hHeld : w12.cell? ⟨gb108, 0, none⟩ = some (.int .u64 a0_0) ∧ w12.cell? ⟨gb108, 1, none⟩ = some (.string a0_1) := hS_; refine norm_ (a' := ?_) ?_ ?_; rotate_left; (simp only [putAll, Act.put, qs, qt, qu]; rfl); refine one_ (i := 9) (N := some 12) (bm 12 1023) rfl rfl (one_of HT_.out (by kernel_rfl)) (by decide) (fun K hK => ?_); refine goes_ Tryz.func86 (by kernel_rfl) rfl #[.agg #[.bool true, .int .u64 0, .string a0_1]] (by rfl) rfl rfl (by (try simp only [List.map_toArray, List.map_cons, List.map_nil]); first | done | rfl | (simp only [List.length_drop, qw]; rfl)) ?_
     with_reducible refine (saltusref02_One.calls true 0 a0_1 t113 _ A4.out).mono ?_
     rintro e w13 ⟨rfl, hb⟩
     refine ⟨_, rfl, ?_⟩; have n0_ := qf (Kd.R_below (by (with_reducible repeat (first | apply Kd.R_alloc | apply Kd.R_drewN | apply Kd.R_drew)); exact HO111.out) hb); have n1_ := qf (blk_below (g := gb108) (o := .cells #[.int .u64 a0_0, .string a0_1] 44 (0, 0)) (by (with_reducible repeat (first | refine blk_drewN ?_ _ | refine blk_drew ?_ | refine qh ?_ _)); exact BK108.out) hb); have n2_ := qf (below_step (by repeat (first | (with_reducible first | exact HB.out | apply qa | apply qb | apply qc | refine qg ?_ GE108.out) | exact HB.out)) hb); clear HO111 BK108 HB; have HO111 := n0_; have BK108 := n1_; have HB := n2_; clear n0_ n1_ n2_
     (try clear hb)
     (try clear hb2)
     (try clear hk)
     (try clear hi)
     refine hK.out _ _ ⟨(blk_cell BK108.out 0).trans rfl, (blk_cell BK108.out 1).trans rfl⟩ (fun hHeld => ?_); clear hK K; refine norm_ (a' := ?_) ?_ ?_; rotate_left
     ·show Act.put _ (some 12) _ = _
      simp only [Act.put, qs, qt, qu, i64_w, i32_w]; rfl
     exact norm_ (by first | (simp only [putAll, Act.put, qs, qt, qu]; done) | (simp only [putAll, Act.put, qs, qt, qu]; rfl)) (hJ0_1_4_9 (v110) _ ⟨hHeld, (by (with_reducible repeat (first | apply Kd.R_alloc | apply Kd.R_drewN | apply Kd.R_drew)); exact HO111.out), (by (with_reducible repeat (first | refine blk_drewN ?_ _ | refine blk_drew ?_ | refine qh ?_ _)); exact BK108.out), (by repeat (first | (with_reducible first | exact HB.out | apply qa | apply qb | apply qc | refine qg ?_ GE108.out) | exact HB.out))⟩)
   rintro v110 w13 ⟨hS_, h0_, h1_, h2_⟩
   have n0_ : Aside0 (Kd.R (Kd.int .u8) 5 w13 w.heap.size (fun _ => True) v110 y109) := ⟨h0_⟩; have n1_ : Aside0 (w13.heap[gb108]? = some (.cells #[.int .u64 a0_0, .string a0_1] 44 (0, 0))) := ⟨h1_⟩; have n2_ : Aside0 (Below w.heap.size w w13) := ⟨h2_⟩; clear BK108 HB h0_ h1_ h2_; have HO111 := n0_; have BK108 := n1_; have HB := n2_; clear n0_ n1_ n2_; have hHeld : w13.cell? ⟨gb108, 0, none⟩ = some (.int .u64 a0_0) ∧ w13.cell? ⟨gb108, 1, none⟩ = some (.string a0_1) := hS_; refine norm_ (a' := ?_) ?_ ?_; rotate_left; (simp only [putAll, Act.put, qs, qt, qu]; rfl); refine qz 10 13 ?_ (bm 12 2047) rfl rfl HT_ (by kernel_rfl) (fun _ _ _ h => h) (by rfl) ?_ ?_ ?_ ?_; rotate_left; (intro w'; go_simp; with_reducible rfl); rotate_left; (simp only [Act.put, qs, qt, qu, i64_w, i32_w]; rfl); refine qz 11 2 ?_ (bm 12 4095) rfl rfl HT_ (by kernel_rfl) (fun _ _ _ h => h) (by rfl) ?_ ?_ ?_ ?_; rotate_left; (intro w'; go_simp; with_reducible rfl); rotate_left; (simp only [Act.put, qs, qt, qu, i64_w, i32_w]; rfl); refine done_ (done_of HT_.out (by kernel_rfl)) ?_
   try go_wp2
   go_ret; exact ⟨by first | rfl | (simp [errW_none, errW_some] <;> rfl) | (simp [*, errW_none, errW_some] <;> rfl), by repeat (first | (with_reducible first | exact HB.out | apply qa | apply qb | apply qc | refine qg ?_ GE108.out) | exact HB.out)⟩
  ·rw [if_neg c5] at H; exact absurd H (by simp)
 ·rw [if_neg c3] at H; exact absurd H (by simp)
/-! ### saltusref17_Leaf: function 44 -/
def saltusref17_Leaf.f (a0_0 : Int) (a0_1 : ByteArray) : Option (ByteArray) := (saltusref17_Item.f a0_0 a0_1).bind fun t115 => ((saltusref03_Sum.f t115).bind fun t116 => (some t116))
set_option maxHeartbeats 8000000 in
set_option maxRecDepth 100000 in
theorem saltusref17_Leaf.calls (a0_0 : Int) (a0_1 : ByteArray) (r : ByteArray) (w : World) (h : saltusref17_Leaf.f a0_0 a0_1 = some r) :
  Calls Tryz.prog 44 #[.agg #[.int .u64 a0_0, .string a0_1]] w fun e w' => e = .returned (.string r) ∧ Below w.heap.size w w' := by
 have hu44 := Tryz.underlying44; have HB := qf (Below.refl w.heap.size w); have H : ((saltusref17_Item.f a0_0 a0_1).bind fun t115 => ((saltusref03_Sum.f t115).bind fun t116 => (some t116))) = some r := h; clear h; replace H := qi H; obtain ⟨t115, A20, H⟩ := H
 (try dsimp only at H)
 have A2 := qf A20; clear A20; replace H := qi H; obtain ⟨t116, A30, H⟩ := H
 (try dsimp only at H)
 have A3 := qf A30; clear A30; obtain rfl := Option.some.inj H
 go_enter Tryz.func44, Tryz.ntmps44
 go_wp2_with (first | ((with_reducible refine gate_dst (N := 1) rfl ?_); refine box_event ?hg (N := 1) ?hd (cs := #[.int .u64 a0_0, .string a0_1]) (t := 44) ?hr ?_; (case hd => rfl); (case hg => rfl); (case hr => first | (go_simp; done) | (go_simp; rfl)); intro gb114 hg w4 hbox hb; have n0_ := qf (below_step (by repeat (first | (with_reducible first | exact HB.out | apply qa | apply qb | apply qc) | exact HB.out)) hb); have n1_ := qf (hbox); have n2_ := qf ((by rw [hg]; exact (below_size (by repeat (first | (with_reducible first | exact HB.out | apply qa | apply qb | apply qc) | exact HB.out))) : w.heap.size ≤ gb114)); have n3_ := qf ((by rw [hg]; exact (below_size (by repeat (first | (with_reducible first | exact HB.out | apply qa | apply qb | apply qc) | exact HB.out))) : w.heap.size ≤ gb114)); clear HB; have HB := n0_; have BK114 := n1_; have GW114 := n2_; have GE114 := n3_; clear n0_ n1_ n2_ n3_ hb hbox hg; have hcz5_0 : w4.cell? ⟨gb114, 0, none⟩ = some (.int .u64 a0_0) := (blk_cell BK114.out 0).trans rfl; have hcz5_1 : w4.cell? ⟨gb114, 1, none⟩ = some (.string a0_1) := (blk_cell BK114.out 1).trans rfl; have hfz5_0 := blk_frozen BK114.out 0; have hfz5_1 := blk_frozen BK114.out 1) | ((with_reducible refine gate_callee (f := 65) rfl ?_); refine goesL_ (some 4) rfl rfl Tryz.func65 (by kernel_rfl) rfl #[.agg #[.int .u64 a0_0, .string a0_1]] rfl (by (try simp only [List.map_toArray, List.map_cons, List.map_nil]); first | done | rfl | (simp only [List.length_drop, qw]; rfl)) ?_; (with_reducible refine (saltusref17_Item.calls a0_0 a0_1 t115 _ A2.out).mono ?_); rintro e w6 ⟨rfl, hb⟩; refine ⟨_, rfl, ?_⟩; have n0_ := qf (blk_below (g := gb114) (o := .cells #[.int .u64 a0_0, .string a0_1] 44 (0, 0)) (by (with_reducible repeat (first | refine blk_drewN ?_ _ | refine blk_drew ?_ | refine qh ?_ _)); exact BK114.out) hb); have n1_ := qf (below_step (by repeat (first | (with_reducible first | exact HB.out | apply qa | apply qb | apply qc | refine qg ?_ GE114.out) | exact HB.out)) hb); clear BK114 HB; have BK114 := n0_; have HB := n1_; clear n0_ n1_; (try clear hb); (try clear hi)) | ((with_reducible refine gate_callee (f := 41) rfl ?_); refine goesL_ (some 5) rfl rfl Tryz.func41 (by kernel_rfl) rfl #[.string t115] rfl (by (try simp only [List.map_toArray, List.map_cons, List.map_nil]); first | done | rfl | (simp only [List.length_drop, qw]; rfl)) ?_; (with_reducible refine (saltusref03_Sum.calls t115 t116 _ A3.out).mono ?_); rintro e w7 ⟨rfl, hb⟩; refine ⟨_, rfl, ?_⟩; have n0_ := qf (blk_below (g := gb114) (o := .cells #[.int .u64 a0_0, .string a0_1] 44 (0, 0)) (by (with_reducible repeat (first | refine blk_drewN ?_ _ | refine blk_drew ?_ | refine qh ?_ _)); exact BK114.out) hb); have n1_ := qf (below_step (by repeat (first | (with_reducible first | exact HB.out | apply qa | apply qb | apply qc | refine qg ?_ GE114.out) | exact HB.out)) hb); clear BK114 HB; have BK114 := n0_; have HB := n1_; clear n0_ n1_; (try clear hb); (try clear hi)))
 go_ret; exact ⟨by first | rfl | (simp [errW_none, errW_some] <;> rfl) | (simp [*, errW_none, errW_some] <;> rfl), by repeat (first | (with_reducible first | exact HB.out | apply qa | apply qb | apply qc | refine qg ?_ GE114.out) | exact HB.out)⟩
/-! ### saltusref17_Of: function 31 -/
def saltusref17_Of.f (k : Nat) (l0_0 : List (S44)) (l0_1 : List Int) (a1 : Int) (a2 : Int) : Option (ByteArray) := if a2 > 0 then ((saltusref17_From.f l0_0 l0_1 a1 (wrap64 (a2 - 1)) a2).bind fun t118 => ((saltusref17_Text.f k a2 t118).bind fun t121 => ((saltusref03_Sum.f t121).bind fun t122 => (some t122)))) else (if a1 < 0 then ((saltusref03_Sum.f (strOfNums (([1] : List Int)))).bind fun t126 => (some t126)) else (if 0 ≤ a1 then (if a1 < (l0_0.length : Int) then ((saltusref17_Leaf.f ((rd_T44 l0_0 a1).f0) ((rd_T44 l0_0 a1).f1)).bind fun t128 => (some t128)) else (none)) else (none)))
set_option maxHeartbeats 8000000 in
set_option maxRecDepth 100000 in
theorem saltusref17_Of.calls (k : Nat) (A0_0 : Option Addr) (c0_0 : Nat) (l0_0 : List (S44)) (A0_1 : Option Addr) (c0_1 : Nat) (l0_1 : List Int) (a1 : Int) (a2 : Int) (r : ByteArray) (w : World) (hr0_0 : Kd.C k44 w A0_0 l0_0.length l0_0) (hc0_0 : l0_0.length ≤ c0_0) (hr0_1 : Kd.C (Kd.int .i64) w A0_1 l0_1.length l0_1) (hc0_1 : l0_1.length ≤ c0_1) (HFR : FromOK (wrap64 (a2 - 1))) (h : saltusref17_Of.f k l0_0 l0_1 a1 a2 = some r) :
  Calls Tryz.prog 31 #[.agg #[.slice A0_0 l0_0.length c0_0, .slice A0_1 l0_1.length c0_1], .int .i64 a1, .int .i64 a2] w fun e w' => e = .returned (.string r) ∧ Below w.heap.size w w' := by
 have hu38 := Tryz.underlying38; have hu44 := Tryz.underlying44; have HR0_0 := qf hr0_0; have HC0_0 := qf hc0_0; clear hr0_0 hc0_0; have HR0_1 := qf hr0_1; have HC0_1 := qf hc0_1; clear hr0_1 hc0_1; have HB := qf (Below.refl w.heap.size w); have H : (if a2 > 0 then ((saltusref17_From.f l0_0 l0_1 a1 (wrap64 (a2 - 1)) a2).bind fun t118 => ((saltusref17_Text.f k a2 t118).bind fun t121 => ((saltusref03_Sum.f t121).bind fun t122 => (some t122)))) else (if a1 < 0 then ((saltusref03_Sum.f (strOfNums (([1] : List Int)))).bind fun t126 => (some t126)) else (if 0 ≤ a1 then (if a1 < (l0_0.length : Int) then ((saltusref17_Leaf.f ((rd_T44 l0_0 a1).f0) ((rd_T44 l0_0 a1).f1)).bind fun t128 => (some t128)) else (none)) else (none)))) = some r := h; clear h
 by_cases c4 : a2 > 0
 ·rw [if_pos c4] at H; have c4b0 := qj c4; clear c4; replace H := qi H; obtain ⟨t118, A50, H⟩ := H
  (try dsimp only at H)
  have A5 := qf A50; clear A50; replace H := qi H; obtain ⟨t121, A60, H⟩ := H
  (try dsimp only at H)
  have A6 := qf A60; clear A60; replace H := qi H; obtain ⟨t122, A70, H⟩ := H
  (try dsimp only at H)
  have A7 := qf A70; clear A70; obtain rfl := Option.some.inj H
  go_enter Tryz.func31, Tryz.ntmps31
  go_wp2_with (first | ((with_reducible refine gate_dst (N := 3) rfl ?_); refine box_event ?hg (N := 3) ?hd (cs := #[.slice A0_0 l0_0.length c0_0, .slice A0_1 l0_1.length c0_1]) (t := 38) ?hr ?_; (case hd => rfl); (case hg => rfl); (case hr => first | (go_simp; done) | (go_simp; rfl)); intro gb117 hg w8 hbox hb; have n0_ := qf (below_step (by repeat (first | (with_reducible first | exact HB.out | apply qa | apply qb | apply qc) | exact HB.out)) hb); have n1_ := qf (hbox); have n2_ := qf ((by rw [hg]; exact (below_size (by repeat (first | (with_reducible first | exact HB.out | apply qa | apply qb | apply qc) | exact HB.out))) : w.heap.size ≤ gb117)); have n3_ := qf ((by rw [hg]; exact (below_size (by repeat (first | (with_reducible first | exact HB.out | apply qa | apply qb | apply qc) | exact HB.out))) : w.heap.size ≤ gb117)); clear HB; have HB := n0_; have BK117 := n1_; have GW117 := n2_; have GE117 := n3_; clear n0_ n1_ n2_ n3_ hb hbox hg; have hcz9_0 : w8.cell? ⟨gb117, 0, none⟩ = some (.slice A0_0 l0_0.length c0_0) := (blk_cell BK117.out 0).trans rfl; have hcz9_1 : w8.cell? ⟨gb117, 1, none⟩ = some (.slice A0_1 l0_1.length c0_1) := (blk_cell BK117.out 1).trans rfl; have hfz9_0 := blk_frozen BK117.out 0; have hfz9_1 := blk_frozen BK117.out 1) | ((with_reducible refine gate_callee (f := 43) rfl ?_); refine goesL_ (some 15) rfl rfl Tryz.func43 (by kernel_rfl) rfl #[.agg #[.slice A0_0 l0_0.length c0_0, .slice A0_1 l0_1.length c0_1], .int .i64 a1, .int .i64 (wrap64 (a2 - 1)), .int .i64 a2] rfl (by (try simp only [List.map_toArray, List.map_cons, List.map_nil]); first | done | rfl | (simp only [List.length_drop, qw]; rfl)) ?_; (with_reducible refine (HFR.out _ _ l0_0 _ _ l0_1 a1 a2 t118 _ ?side1 ?side2 ?side3 ?side4 A5.out).mono ?_); (case side1 => repeat (first | exact (Kd.C_below HR0_0.out HB.out) | with_reducible first | apply Kd.C_alloc | apply Kd.C_drewN | apply Kd.C_drew)); (case side2 => exact HC0_0.out); (case side3 => repeat (first | exact (Kd.C_below HR0_1.out HB.out) | with_reducible first | apply Kd.C_alloc | apply Kd.C_drewN | apply Kd.C_drew)); (case side4 => exact HC0_1.out); rintro e w10 ⟨v119, rfl, ho0, hb⟩; refine ⟨_, rfl, ?_⟩; have n0_ := qf (Kd.R_lower ho0 (below_size (by repeat (first | (with_reducible first | exact HB.out | apply qa | apply qb | apply qc | refine qg ?_ GE117.out) | exact HB.out)))); have n1_ := qf (blk_below (g := gb117) (o := .cells #[.slice A0_0 l0_0.length c0_0, .slice A0_1 l0_1.length c0_1] 38 (0, 0)) (by (with_reducible repeat (first | refine blk_drewN ?_ _ | refine blk_drew ?_ | refine qh ?_ _)); exact BK117.out) hb); have n2_ := qf (below_step (by repeat (first | (with_reducible first | exact HB.out | apply qa | apply qb | apply qc | refine qg ?_ GE117.out) | exact HB.out)) hb); clear BK117 HB; have HO120 := n0_; have BK117 := n1_; have HB := n2_; clear n0_ n1_ n2_; (try clear hb); (try clear ho0); obtain ⟨Ao11, co11, eo11⟩ := Kd.R_slice HO120.out; subst eo11) | ((with_reducible refine gate_callee (f := 42) rfl ?_); refine goesL_ (some 16) rfl rfl Tryz.func42 (by kernel_rfl) rfl #[.int .i64 a2, .slice Ao11 t118.length co11] rfl (by (try simp only [List.map_toArray, List.map_cons, List.map_nil]); first | done | rfl | (simp only [List.length_drop, qw]; rfl)) ?_; (with_reducible refine (saltusref17_Text.calls k a2 _ _ t118 t121 _ ?side1 ?side2 A6.out).mono ?_); (case side1 => repeat (first | exact (Kd.R_reads' HO120.out).2.2 | with_reducible first | apply Kd.C_alloc | apply Kd.C_drewN | apply Kd.C_drew)); (case side2 => exact (Kd.R_reads' HO120.out).2.1); rintro e w12 ⟨rfl, hb⟩; refine ⟨_, rfl, ?_⟩; have n0_ := qf (Kd.R_below (by (with_reducible repeat (first | apply Kd.R_alloc | apply Kd.R_drewN | apply Kd.R_drew)); exact HO120.out) hb); have n1_ := qf (blk_below (g := gb117) (o := .cells #[.slice A0_0 l0_0.length c0_0, .slice A0_1 l0_1.length c0_1] 38 (0, 0)) (by (with_reducible repeat (first | refine blk_drewN ?_ _ | refine blk_drew ?_ | refine qh ?_ _)); exact BK117.out) hb); have n2_ := qf (below_step (by repeat (first | (with_reducible first | exact HB.out | apply qa | apply qb | apply qc | refine qg ?_ GE117.out) | exact HB.out)) hb); clear HO120 BK117 HB; have HO120 := n0_; have BK117 := n1_; have HB := n2_; clear n0_ n1_ n2_; (try clear hb); (try clear hi)) | ((with_reducible refine gate_callee (f := 41) rfl ?_); refine goesL_ (some 17) rfl rfl Tryz.func41 (by kernel_rfl) rfl #[.string t121] rfl (by (try simp only [List.map_toArray, List.map_cons, List.map_nil]); first | done | rfl | (simp only [List.length_drop, qw]; rfl)) ?_; (with_reducible refine (saltusref03_Sum.calls t121 t122 _ A7.out).mono ?_); rintro e w13 ⟨rfl, hb⟩; refine ⟨_, rfl, ?_⟩; have n0_ := qf (Kd.R_below (by (with_reducible repeat (first | apply Kd.R_alloc | apply Kd.R_drewN | apply Kd.R_drew)); exact HO120.out) hb); have n1_ := qf (blk_below (g := gb117) (o := .cells #[.slice A0_0 l0_0.length c0_0, .slice A0_1 l0_1.length c0_1] 38 (0, 0)) (by (with_reducible repeat (first | refine blk_drewN ?_ _ | refine blk_drew ?_ | refine qh ?_ _)); exact BK117.out) hb); have n2_ := qf (below_step (by repeat (first | (with_reducible first | exact HB.out | apply qa | apply qb | apply qc | refine qg ?_ GE117.out) | exact HB.out)) hb); clear HO120 BK117 HB; have HO120 := n0_; have BK117 := n1_; have HB := n2_; clear n0_ n1_ n2_; (try clear hb); (try clear hi)))
  go_ret; exact ⟨by first | rfl | (simp [errW_none, errW_some] <;> rfl) | (simp [*, errW_none, errW_some] <;> rfl), by repeat (first | (with_reducible first | exact HB.out | apply qa | apply qb | apply qc | refine qg ?_ GE117.out) | exact HB.out)⟩
 ·rw [if_neg c4] at H; have c4b0 := decide_eq_false c4; clear c4
  by_cases c14 : a1 < 0
  ·rw [if_pos c14] at H; have c14b0 := qj c14; clear c14
   obtain ⟨y123, hy123⟩ : ∃ y_ : List Int, y_ = (([1] : List Int)) := ⟨_, rfl⟩
   replace H : ((saltusref03_Sum.f (strOfNums y123)).bind fun t126 => (some t126)) = some r := by first | (rw [hy123]; with_reducible exact H) | (have H2_ := (qv _ _).symm.trans H; rw [hy123]; with_reducible exact H2_) | (have H2_ := (qv _ _).symm.trans H; with_reducible exact H2_) | with_reducible exact H | (rw [hy123]; exact H) | exact H
   have Ny123 := qf hy123; clear hy123; replace H := qi H; obtain ⟨t126, A150, H⟩ := H
   (try dsimp only at H)
   have A15 := qf A150; clear A150; obtain rfl := Option.some.inj H
   go_enter Tryz.func31, Tryz.ntmps31
   go_wp2_with (first | ((with_reducible refine gate_dst (N := 3) rfl ?_); refine box_event ?hg (N := 3) ?hd (cs := #[.slice A0_0 l0_0.length c0_0, .slice A0_1 l0_1.length c0_1]) (t := 38) ?hr ?_; (case hd => rfl); (case hg => rfl); (case hr => first | (go_simp; done) | (go_simp; rfl)); intro gb117 hg w16 hbox hb; have n0_ := qf (below_step (by repeat (first | (with_reducible first | exact HB.out | apply qa | apply qb | apply qc) | exact HB.out)) hb); have n1_ := qf (hbox); have n2_ := qf ((by rw [hg]; exact (below_size (by repeat (first | (with_reducible first | exact HB.out | apply qa | apply qb | apply qc) | exact HB.out))) : w.heap.size ≤ gb117)); have n3_ := qf ((by rw [hg]; exact (below_size (by repeat (first | (with_reducible first | exact HB.out | apply qa | apply qb | apply qc) | exact HB.out))) : w.heap.size ≤ gb117)); clear HB; have HB := n0_; have BK117 := n1_; have GW117 := n2_; have GE117 := n3_; clear n0_ n1_ n2_ n3_ hb hbox hg) | ((with_reducible refine gate_dst (N := 20) rfl ?_); refine Kd.R_lit (Kd.int .u8) _ 5 ?hg (N := 20) ?hd (xs := ([1] : List Int)) (inner := [.int .u8 1]) (ok := fun _ => True) (okp := fun _ => True) ?hr ?hp (fun _ hk => hk) trivial (Below.refl _ _) (Nat.le_refl _) (by simp) ?_; (case hd => rfl); (case hg => rfl); (case hr => first | (go_simp; done) | (go_simp; rfl)); (case hp => exact (Reps.one (show Kd.M (Kd.int .u8) _ _ _ 1 [.int .u8 1] from rfl) (Reps.none _ _))); intro v124 w17 ho18 hb hg_ hnew_; clear hg_ hnew_; (first | rw [← Ny123.out] at ho18 | (simp only [Int.reduceToNat] at ho18; rw [← Ny123.out] at ho18)); have n0_ := qf (Kd.R_lower ho18 (below_size (by repeat (first | (with_reducible first | exact HB.out | apply qa | apply qb | apply qc | refine qg ?_ GE117.out) | exact HB.out)))); have n1_ := qf (blk_below (g := gb117) (o := .cells #[.slice A0_0 l0_0.length c0_0, .slice A0_1 l0_1.length c0_1] 38 (0, 0)) (by (with_reducible repeat (first | refine blk_drewN ?_ _ | refine blk_drew ?_ | refine qh ?_ _)); exact BK117.out) hb); have n2_ := qf (below_step (by repeat (first | (with_reducible first | exact HB.out | apply qa | apply qb | apply qc | refine qg ?_ GE117.out) | exact HB.out)) hb); clear BK117 HB; have HO125 := n0_; have BK117 := n1_; have HB := n2_; clear n0_ n1_ n2_ hb ho18; have hcv19 := own_string (P := Tryz.prog) Tryz.underlying74 Tryz.underlying5 Tryz.underlying9 (Kd.own_of_R HO125.out)) | ((with_reducible refine gate_callee (f := 41) rfl ?_); refine goesL_ (some 22) rfl rfl Tryz.func41 (by kernel_rfl) rfl #[.string (strOfNums y123)] rfl (by (try simp only [List.map_toArray, List.map_cons, List.map_nil]); first | done | rfl | (simp only [List.length_drop, qw]; rfl)) ?_; (with_reducible refine (saltusref03_Sum.calls (strOfNums y123) t126 _ A15.out).mono ?_); rintro e w20 ⟨rfl, hb⟩; refine ⟨_, rfl, ?_⟩; have n0_ := qf (Kd.R_below (by (with_reducible repeat (first | apply Kd.R_alloc | apply Kd.R_drewN | apply Kd.R_drew)); exact HO125.out) hb); have n1_ := qf (blk_below (g := gb117) (o := .cells #[.slice A0_0 l0_0.length c0_0, .slice A0_1 l0_1.length c0_1] 38 (0, 0)) (by (with_reducible repeat (first | refine blk_drewN ?_ _ | refine blk_drew ?_ | refine qh ?_ _)); exact BK117.out) hb); have n2_ := qf (below_step (by repeat (first | (with_reducible first | exact HB.out | apply qa | apply qb | apply qc | refine qg ?_ GE117.out) | exact HB.out)) hb); clear HO125 BK117 HB; have HO125 := n0_; have BK117 := n1_; have HB := n2_; clear n0_ n1_ n2_; (try clear hb); (try clear hi)))
   go_ret; exact ⟨by first | rfl | (simp [errW_none, errW_some] <;> rfl) | (simp [*, errW_none, errW_some] <;> rfl), by repeat (first | (with_reducible first | exact HB.out | apply qa | apply qb | apply qc | refine qg ?_ GE117.out) | exact HB.out)⟩
  ·rw [if_neg c14] at H; have c14b0 := decide_eq_false c14; clear c14
   by_cases c21 : 0 ≤ a1
   ·rw [if_pos c21] at H; have c21b0 := qj c21; clear c21
    by_cases c22 : a1 < (l0_0.length : Int)
    ·rw [if_pos c22] at H; have c22b0 := qj c22; clear c22; replace H := qi H; obtain ⟨t128, A230, H⟩ := H
     (try dsimp only at H)
     have A23 := qf A230; clear A230; obtain rfl := Option.some.inj H
     go_enter Tryz.func31, Tryz.ntmps31
     go_wp2_with (first | ((with_reducible refine gate_dst (N := 3) rfl ?_); refine box_event ?hg (N := 3) ?hd (cs := #[.slice A0_0 l0_0.length c0_0, .slice A0_1 l0_1.length c0_1]) (t := 38) ?hr ?_; (case hd => rfl); (case hg => rfl); (case hr => first | (go_simp; done) | (go_simp; rfl)); intro gb117 hg w24 hbox hb; have n0_ := qf (below_step (by repeat (first | (with_reducible first | exact HB.out | apply qa | apply qb | apply qc) | exact HB.out)) hb); have n1_ := qf (hbox); have n2_ := qf ((by rw [hg]; exact (below_size (by repeat (first | (with_reducible first | exact HB.out | apply qa | apply qb | apply qc) | exact HB.out))) : w.heap.size ≤ gb117)); have n3_ := qf ((by rw [hg]; exact (below_size (by repeat (first | (with_reducible first | exact HB.out | apply qa | apply qb | apply qc) | exact HB.out))) : w.heap.size ≤ gb117)); clear HB; have HB := n0_; have BK117 := n1_; have GW117 := n2_; have GE117 := n3_; clear n0_ n1_ n2_ n3_ hb hbox hg; have hcz25_0 : w24.cell? ⟨gb117, 0, none⟩ = some (.slice A0_0 l0_0.length c0_0) := (blk_cell BK117.out 0).trans rfl; have hcz25_1 : w24.cell? ⟨gb117, 1, none⟩ = some (.slice A0_1 l0_1.length c0_1) := (blk_cell BK117.out 1).trans rfl; have hfz25_0 := blk_frozen BK117.out 0; have hfz25_1 := blk_frozen BK117.out 1; have p127 : 0 ≤ (a1 : Int) := qe (by with_reducible assumption); have q127 : a1 < (l0_0.length : Int) := qe (by with_reducible assumption); obtain ⟨ad127, e127, hx127_0, hx127_1⟩ := at_T44 HR0_0.out a1 p127 q127; cases e127; replace hx127_0 := (HB.out.cell (qd w _ hx127_0)).trans hx127_0; replace hx127_1 := (HB.out.cell (qd w _ hx127_1)).trans hx127_1; replace p127 := eq_true p127; replace q127 := eq_true q127) | ((with_reducible refine gate_callee (f := 44) rfl ?_); refine goesL_ (some 28) rfl rfl Tryz.func44 (by kernel_rfl) rfl #[.agg #[.int .u64 ((rd_T44 l0_0 a1).f0), .string ((rd_T44 l0_0 a1).f1)]] rfl (by (try simp only [List.map_toArray, List.map_cons, List.map_nil]); first | done | rfl | (simp only [List.length_drop, qw]; rfl)) ?_; (with_reducible refine (saltusref17_Leaf.calls ((rd_T44 l0_0 a1).f0) ((rd_T44 l0_0 a1).f1) t128 _ A23.out).mono ?_); rintro e w26 ⟨rfl, hb⟩; refine ⟨_, rfl, ?_⟩; have n0_ := qf (blk_below (g := gb117) (o := .cells #[.slice (some ad127) l0_0.length c0_0, .slice A0_1 l0_1.length c0_1] 38 (0, 0)) (by (with_reducible repeat (first | refine blk_drewN ?_ _ | refine blk_drew ?_ | refine qh ?_ _)); exact BK117.out) hb); have n1_ := qf (below_step (by repeat (first | (with_reducible first | exact HB.out | apply qa | apply qb | apply qc | refine qg ?_ GE117.out) | exact HB.out)) hb); clear BK117 HB; have BK117 := n0_; have HB := n1_; clear n0_ n1_; (try clear hb); (try clear hi)))
     go_ret; exact ⟨by first | rfl | (simp [errW_none, errW_some] <;> rfl) | (simp [*, errW_none, errW_some] <;> rfl), by repeat (first | (with_reducible first | exact HB.out | apply qa | apply qb | apply qc | refine qg ?_ GE117.out) | exact HB.out)⟩
    ·rw [if_neg c22] at H; exact absurd H (by simp)
   ·rw [if_neg c21] at H; exact absurd H (by simp)
/-! ### saltusref15_Height: function 45 -/
def saltusref15_Height.l0 : Nat → Int → Int → Option (Int)
 | 0, _, _ => none
 | k + 1, x5, x6 => if (Int.tmod x5 2) = 0 then (if x6 < 8 then (saltusref15_Height.l0 k (IntKind.u64.wrap (Int.tdiv x5 2)) (wrap64 (x6 + 1))) else (some x6)) else (some x6)
def saltusref15_Height.f (k : Nat) (a0 : ByteArray) (a1 : Int) : Option (Int) := (saltusref02_Low.f a1 8).bind fun t129 => ((saltusref10_Word.f a0 t129).bind fun t130 => (saltusref15_Height.l0 k t130 1))
end Go.Proofs.YtolbhliepkcihaaGreatDoor.QLA
end
section
namespace Go.Proofs.YtolbhliepkcihaaGreatDoor.QLA
open Go.RowKit Kinds YtolbhliepkcihaaGreatDoorW.PrintWords YtolbhliepkcihaaGreatDoorW.PrintLast YtolbhliepkcihaaGreatDoorW.PrintMore
attribute [local go_sem] max2_int min2_int max_two min_two max_three min_three max_four min_four   -- for this text's walks alone
set_option linter.unusedVariables false
set_option linter.unusedSimpArgs false
/-! ### saltusref15_Heights: function 32 -/
def saltusref15_Heights.l0 : Nat → ByteArray → List Int → List Int → Int → Int → Option (List Int)
 | 0, _, _, _, _, _ => none
 | k + 1, x0, x5, x9, x10, x11 => if x11 < x10 then (if 0 ≤ x11 then (if x11 < (x9.length : Int) then ((saltusref15_Height.f k x0 (rd x9 x11)).bind fun t135 => (if x5.length < 17592186044416 then (saltusref15_Heights.l0 k x0 (x5 ++ [t135]) x9 x10 (wrap64 (x11 + 1))) else (none))) else (none)) else (none)) else (some x5)
def saltusref15_Heights.f (k : Nat) (a0 : ByteArray) (l1 : List Int) : Option (List Int) := saltusref15_Heights.l0 k a0 (([] : List Int)) l1 (l1.length : Int) 0
/-! ### saltusref16_Keys: function 33 -/
def saltusref16_Keys.l0 : Nat → List Int → List (S44) → Int → Int → Option (List Int)
 | 0, _, _, _, _ => none
 | k + 1, x3, x7, x8, x9 => if x9 < x8 then (if 0 ≤ x9 then (if x9 < (x7.length : Int) then (if x3.length < 17592186044416 then (saltusref16_Keys.l0 k (x3 ++ [(rd_T44 x7 x9).f0]) x7 x8 (wrap64 (x9 + 1))) else (none)) else (none)) else (none)) else (some x3)
def saltusref16_Keys.f (k : Nat) (l0 : List (S44)) : Option (List Int) := saltusref16_Keys.l0 k (([] : List Int)) l0 (l0.length : Int) 0
/-! ### label_leaf: function 48 -/
def label_leaf.f (a0_0 : Int) (a0_1 : ByteArray) : Option (ByteArray) := (codec_Join.f (([(⟨false, a0_0, (⟨#[]⟩ : ByteArray)⟩ : S84), (⟨true, 0, a0_1⟩ : S84)] : List (S84)))).bind fun bt151 => (if 1 + bt151.1.size ≤ 9223372036854775807 then ((sha_Sum.f ((⟨#[0]⟩ : ByteArray) ++ bt151.1)).bind fun t153 => (some t153)) else (none))
set_option maxHeartbeats 8000000 in
set_option maxRecDepth 100000 in
theorem label_leaf.calls (a0_0 : Int) (a0_1 : ByteArray) (r : ByteArray) (w : World) (h : label_leaf.f a0_0 a0_1 = some r) :
  Calls Tryz.prog 48 #[.agg #[.int .u64 a0_0, .string a0_1]] w fun e w' => e = .returned (.string r) ∧ Below w.heap.size w w' := by
 have hu44 := Tryz.underlying44; have hu84 := Tryz.underlying84; have HB := qf (Below.refl w.heap.size w); have H : ((codec_Join.f (([(⟨false, a0_0, (⟨#[]⟩ : ByteArray)⟩ : S84), (⟨true, 0, a0_1⟩ : S84)] : List (S84)))).bind fun bt151 => (if 1 + bt151.1.size ≤ 9223372036854775807 then ((sha_Sum.f ((⟨#[0]⟩ : ByteArray) ++ bt151.1)).bind fun t153 => (some t153)) else (none))) = some r := h; clear h
 obtain ⟨y148, hy148⟩ : ∃ y_ : List (S84), y_ = (([(⟨false, a0_0, (⟨#[]⟩ : ByteArray)⟩ : S84), (⟨true, 0, a0_1⟩ : S84)] : List (S84))) := ⟨_, rfl⟩
 replace H : ((codec_Join.f y148).bind fun bt151 => (if 1 + bt151.1.size ≤ 9223372036854775807 then ((sha_Sum.f ((⟨#[0]⟩ : ByteArray) ++ bt151.1)).bind fun t153 => (some t153)) else (none))) = some r := by first | (rw [hy148]; with_reducible exact H) | (have H2_ := (qv _ _).symm.trans H; rw [hy148]; with_reducible exact H2_) | (have H2_ := (qv _ _).symm.trans H; with_reducible exact H2_) | with_reducible exact H | (rw [hy148]; exact H) | exact H
 have Ny148 := qf hy148; clear hy148; replace H := qi H; obtain ⟨⟨t151, t152⟩, A20, H⟩ := H
 (try dsimp only at H)
 have A2 := qf A20; clear A20
 by_cases c3 : 1 + t151.size ≤ 9223372036854775807
 ·rw [if_pos c3] at H; have c3b0 := eq_true c3; have c3b1 := qj c3
  try have c3b2 : (9223372036854775807 < 1 + t151.size) = False := eq_false (Nat.not_lt.2 c3)
  replace H := qi H; obtain ⟨t153, A40, H⟩ := H
  (try dsimp only at H)
  have A4 := qf A40; clear A40; obtain rfl := Option.some.inj H
  go_enter Tryz.func48, Tryz.ntmps48
  go_wp2_with (first | ((with_reducible refine gate_dst (N := 1) rfl ?_); refine box_event ?hg (N := 1) ?hd (cs := #[.int .u64 a0_0, .string a0_1]) (t := 44) ?hr ?_; (case hd => rfl); (case hg => rfl); (case hr => first | (go_simp; done) | (go_simp; rfl)); intro gb147 hg w5 hbox hb; have n0_ := qf (below_step (by repeat (first | (with_reducible first | exact HB.out | apply qa | apply qb | apply qc) | exact HB.out)) hb); have n1_ := qf (hbox); have n2_ := qf ((by rw [hg]; exact (below_size (by repeat (first | (with_reducible first | exact HB.out | apply qa | apply qb | apply qc) | exact HB.out))) : w.heap.size ≤ gb147)); have n3_ := qf ((by rw [hg]; exact (below_size (by repeat (first | (with_reducible first | exact HB.out | apply qa | apply qb | apply qc) | exact HB.out))) : w.heap.size ≤ gb147)); clear HB; have HB := n0_; have BK147 := n1_; have GW147 := n2_; have GE147 := n3_; clear n0_ n1_ n2_ n3_ hb hbox hg; have hcz6_0 : w5.cell? ⟨gb147, 0, none⟩ = some (.int .u64 a0_0) := (blk_cell BK147.out 0).trans rfl; have hcz6_1 : w5.cell? ⟨gb147, 1, none⟩ = some (.string a0_1) := (blk_cell BK147.out 1).trans rfl; have hfz6_0 := blk_frozen BK147.out 0; have hfz6_1 := blk_frozen BK147.out 1) | ((with_reducible refine gate_dst (N := 12) rfl ?_); refine Kd.R_lit k84 _ 84 ?hg (N := 12) ?hd (xs := ([(⟨false, a0_0, (⟨#[]⟩ : ByteArray)⟩ : S84), (⟨true, 0, a0_1⟩ : S84)] : List (S84))) (inner := [.bool false, .int .u64 a0_0, .string (⟨#[]⟩ : ByteArray), .bool true, .int .u64 0, .string a0_1]) (ok := fun _ => True) (okp := fun _ => True) ?hr ?hp (fun _ hk => hk) trivial (Below.refl _ _) (Nat.le_refl _) (by simp) ?_; (case hd => rfl); (case hg => rfl); (case hr => first | (go_simp; done) | (go_simp; rfl)); (case hp => exact (Reps.c3 (show Kd.M k84 _ _ _ (⟨false, a0_0, (⟨#[]⟩ : ByteArray)⟩ : S84) [.bool false, .int .u64 a0_0, .string (⟨#[]⟩ : ByteArray)] from (k84_mkM _ _ _ (⟨false, a0_0, (⟨#[]⟩ : ByteArray)⟩ : S84) )) (Reps.c3 (show Kd.M k84 _ _ _ (⟨true, 0, a0_1⟩ : S84) [.bool true, .int .u64 0, .string a0_1] from (k84_mkM _ _ _ (⟨true, 0, a0_1⟩ : S84) )) (Reps.none _ _)))); intro v149 w7 ho8 hb hg_ hnew_; clear hg_ hnew_; (first | rw [← Ny148.out] at ho8 | (simp only [Int.reduceToNat] at ho8; rw [← Ny148.out] at ho8)); have n0_ := qf (Kd.R_lower ho8 (below_size (by repeat (first | (with_reducible first | exact HB.out | apply qa | apply qb | apply qc | refine qg ?_ GE147.out) | exact HB.out)))); have n1_ := qf (blk_below (g := gb147) (o := .cells #[.int .u64 a0_0, .string a0_1] 44 (0, 0)) (by (with_reducible repeat (first | refine blk_drewN ?_ _ | refine blk_drew ?_ | refine qh ?_ _)); exact BK147.out) hb); have n2_ := qf (below_step (by repeat (first | (with_reducible first | exact HB.out | apply qa | apply qb | apply qc | refine qg ?_ GE147.out) | exact HB.out)) hb); clear BK147 HB; have HO150 := n0_; have BK147 := n1_; have HB := n2_; clear n0_ n1_ n2_ hb ho8; obtain ⟨Ao9, co9, eo9⟩ := Kd.R_slice HO150.out; subst eo9) | ((with_reducible refine gate_callee (f := 54) rfl ?_); refine goesL_ (some 13) rfl rfl Tryz.func54 (by kernel_rfl) rfl #[.slice Ao9 y148.length co9] rfl (by (try simp only [List.map_toArray, List.map_cons, List.map_nil]); first | done | rfl | (simp only [List.length_drop, qw]; rfl)) ?_; (with_reducible refine (codec_Join.calls _ _ y148 t151 t152 _ ?side1 ?side2 A2.out).mono ?_); (case side1 => repeat (first | exact (Kd.R_reads' HO150.out).2.2 | with_reducible first | apply Kd.C_alloc | apply Kd.C_drewN | apply Kd.C_drew)); (case side2 => exact (Kd.R_reads' HO150.out).2.1); rintro e w10 ⟨rfl, hb⟩; refine ⟨_, rfl, ?_⟩; have n0_ := qf (Kd.R_below (by (with_reducible repeat (first | apply Kd.R_alloc | apply Kd.R_drewN | apply Kd.R_drew)); exact HO150.out) hb); have n1_ := qf (blk_below (g := gb147) (o := .cells #[.int .u64 a0_0, .string a0_1] 44 (0, 0)) (by (with_reducible repeat (first | refine blk_drewN ?_ _ | refine blk_drew ?_ | refine qh ?_ _)); exact BK147.out) hb); have n2_ := qf (below_step (by repeat (first | (with_reducible first | exact HB.out | apply qa | apply qb | apply qc | refine qg ?_ GE147.out) | exact HB.out)) hb); clear HO150 BK147 HB; have HO150 := n0_; have BK147 := n1_; have HB := n2_; clear n0_ n1_ n2_; (try clear hb); (try clear hi)) | ((with_reducible refine gate_callee (f := 40) rfl ?_); refine goesL_ (some 18) rfl rfl Tryz.func40 (by kernel_rfl) rfl #[.string ((⟨#[0]⟩ : ByteArray) ++ t151)] rfl (by (try simp only [List.map_toArray, List.map_cons, List.map_nil]); first | done | rfl | (simp only [List.length_drop, qw]; rfl)) ?_; (with_reducible refine (sha_Sum.calls ((⟨#[0]⟩ : ByteArray) ++ t151) t153 _ A4.out).mono ?_); rintro e w11 ⟨rfl, hb⟩; refine ⟨_, rfl, ?_⟩; have n0_ := qf (Kd.R_below (by (with_reducible repeat (first | apply Kd.R_alloc | apply Kd.R_drewN | apply Kd.R_drew)); exact HO150.out) hb); have n1_ := qf (blk_below (g := gb147) (o := .cells #[.int .u64 a0_0, .string a0_1] 44 (0, 0)) (by (with_reducible repeat (first | refine blk_drewN ?_ _ | refine blk_drew ?_ | refine qh ?_ _)); exact BK147.out) hb); have n2_ := qf (below_step (by repeat (first | (with_reducible first | exact HB.out | apply qa | apply qb | apply qc | refine qg ?_ GE147.out) | exact HB.out)) hb); clear HO150 BK147 HB; have HO150 := n0_; have BK147 := n1_; have HB := n2_; clear n0_ n1_ n2_; (try clear hb); (try clear hi)))
  go_ret; exact ⟨by first | rfl | (simp [errW_none, errW_some] <;> rfl) | (simp [*, errW_none, errW_some] <;> rfl), by repeat (first | (with_reducible first | exact HB.out | apply qa | apply qb | apply qc | refine qg ?_ GE147.out) | exact HB.out)⟩
 ·rw [if_neg c3] at H; exact absurd H (by simp)
/-! ### label_join: function 51 -/
end Go.Proofs.YtolbhliepkcihaaGreatDoor.QLA
end
section
namespace Go.Proofs.YtolbhliepkcihaaGreatDoor.QLF
open Go.RowKit Kinds YtolbhliepkcihaaGreatDoorW.PrintWords YtolbhliepkcihaaGreatDoorW.PrintLast YtolbhliepkcihaaGreatDoorW.PrintMore
attribute [local go_sem] max2_int min2_int max_two min_two max_three min_three max_four min_four   -- for this text's walks alone
set_option linter.unusedVariables false
set_option linter.unusedSimpArgs false
def errW : Option Int → Value
 | none => .nilIface
 | some c => .iface 0 (.int .i64 c)
theorem errW_none : errW none = .nilIface := rfl
theorem errW_some (c : Int) : errW (some c) = .iface 0 (.int .i64 c) := rfl
theorem info9 : (Tryz.prog.info? 9).map (fun i => (i.zero, i.size, i.bytes)) = some (some (.string ⟨#[]⟩), 1, 16) := by kernel_rfl
end Go.Proofs.YtolbhliepkcihaaGreatDoor.QLF
end
section
namespace Go.Proofs.YtolbhliepkcihaaGreatDoor.QLF
open Go.RowKit Kinds YtolbhliepkcihaaGreatDoorW.PrintWords YtolbhliepkcihaaGreatDoorW.PrintLast YtolbhliepkcihaaGreatDoorW.PrintMore
attribute [local go_sem] max2_int min2_int max_two min_two max_three min_three max_four min_four   -- for this text's walks alone
set_option linter.unusedVariables false
set_option linter.unusedSimpArgs false
/-! ### saltusref17_From: function 43 -/
def saltusref17_From.l0 : Nat → Int → Int → List ByteArray → Int → List (S44) → List Int → Option (List ByteArray)
 | 0, _, _, _, _, _, _ => none
 | k + 1, x2, x3, x9, x10, x102000, x102001 => if x10 < (x102000.length : Int) then (if 0 ≤ x10 then (if x10 < (x102001.length : Int) then (if (rd x102001 x10) > x3 then (some x9) else (if (rd x102001 x10) > x2 then ((saltusref17_Of.f x102000 x102001 x10 x2).bind fun t108 => (if x9.length < 8796093022208 then (saltusref17_From.l0 k x2 x3 (x9 ++ [t108]) (wrap64 (x10 + 1)) x102000 x102001) else (none))) else (saltusref17_From.l0 k x2 x3 x9 (wrap64 (x10 + 1)) x102000 x102001))) else (none)) else (none)) else (some x9)
def saltusref17_From.f (k : Nat) (l0_0 : List (S44)) (l0_1 : List Int) (a1 : Int) (a2 : Int) (a3 : Int) : Option (List ByteArray) := (saltusref17_Of.f l0_0 l0_1 a1 a2).bind fun t102 => (saltusref17_From.l0 k a2 a3 (([t102] : List ByteArray)) (wrap64 (a1 + 1)) l0_0 l0_1)
set_option maxHeartbeats 8000000 in
set_option maxRecDepth 100000 in
theorem saltusref17_From.calls (k : Nat) (A0_0 : Option Addr) (c0_0 : Nat) (l0_0 : List (S44)) (A0_1 : Option Addr) (c0_1 : Nat) (l0_1 : List Int) (a1 : Int) (a2 : Int) (a3 : Int) (r : List ByteArray) (w : World) (hr0_0 : Kd.C k44 w A0_0 l0_0.length l0_0) (hc0_0 : l0_0.length ≤ c0_0) (hr0_1 : Kd.C (Kd.int .i64) w A0_1 l0_1.length l0_1) (hc0_1 : l0_1.length ≤ c0_1) (HOF : OfOK a2) (h : saltusref17_From.f k l0_0 l0_1 a1 a2 a3 = some r) :
  Calls Tryz.prog 43 #[.agg #[.slice A0_0 l0_0.length c0_0, .slice A0_1 l0_1.length c0_1], .int .i64 a1, .int .i64 a2, .int .i64 a3] w fun e w' => ∃ v0_ : Value, e = .returned (v0_) ∧ Kd.R Kd.string 9 w' w.heap.size (fun _ => True) v0_ r ∧ Below w.heap.size w w' := by
 have hu38 := Tryz.underlying38; have HR0_0 := qf hr0_0; have HC0_0 := qf hc0_0; clear hr0_0 hc0_0; have HR0_1 := qf hr0_1; have HC0_1 := qf hc0_1; clear hr0_1 hc0_1; have HB := qf (Below.refl w.heap.size w); have H : ((saltusref17_Of.f l0_0 l0_1 a1 a2).bind fun t102 => (saltusref17_From.l0 k a2 a3 (([t102] : List ByteArray)) (wrap64 (a1 + 1)) l0_0 l0_1)) = some r := h; clear h; replace H := qi H; obtain ⟨t102, A50, H⟩ := H
 (try dsimp only at H)
 have A5 := qf A50; clear A50
 obtain ⟨y103, hy103⟩ : ∃ y_ : List ByteArray, y_ = (([t102] : List ByteArray)) := ⟨_, rfl⟩
 replace H : (saltusref17_From.l0 k a2 a3 y103 (wrap64 (a1 + 1)) l0_0 l0_1) = some r := by first | (rw [hy103]; with_reducible exact H) | (have H2_ := (qv _ _).symm.trans H; rw [hy103]; with_reducible exact H2_) | (have H2_ := (qv _ _).symm.trans H; with_reducible exact H2_) | with_reducible exact H | (rw [hy103]; exact H) | exact H
 have Ny103 := qf hy103; clear hy103; have H' := qf H; clear H
 go_enter Tryz.func43, Tryz.ntmps43
 go_wp2_with (first | ((with_reducible refine gate_dst (N := 4) rfl ?_); refine box_event ?hg (N := 4) ?hd (cs := #[.slice A0_0 l0_0.length c0_0, .slice A0_1 l0_1.length c0_1]) (t := 38) ?hr ?_; (case hd => rfl); (case hg => rfl); (case hr => first | (go_simp; done) | (go_simp; rfl)); intro gb101 hg w6 hbox hb; have n0_ := qf (below_step (by repeat (first | (with_reducible first | exact HB.out | apply qa | apply qb | apply qc) | exact HB.out)) hb); have n1_ := qf (hbox); have n2_ := qf ((by rw [hg]; exact (below_size (by repeat (first | (with_reducible first | exact HB.out | apply qa | apply qb | apply qc) | exact HB.out))) : w.heap.size ≤ gb101)); have n3_ := qf ((by rw [hg]; exact (below_size (by repeat (first | (with_reducible first | exact HB.out | apply qa | apply qb | apply qc) | exact HB.out))) : w.heap.size ≤ gb101)); clear HB; have HB := n0_; have BK101 := n1_; have GW101 := n2_; have GE101 := n3_; clear n0_ n1_ n2_ n3_ hb hbox hg; have hcz7_0 : w6.cell? ⟨gb101, 0, none⟩ = some (.slice A0_0 l0_0.length c0_0) := (blk_cell BK101.out 0).trans rfl; have hcz7_1 : w6.cell? ⟨gb101, 1, none⟩ = some (.slice A0_1 l0_1.length c0_1) := (blk_cell BK101.out 1).trans rfl; have hfz7_0 := blk_frozen BK101.out 0; have hfz7_1 := blk_frozen BK101.out 1) | ((with_reducible refine gate_callee (f := 31) rfl ?_); refine goesL_ (some 14) rfl rfl Tryz.func31 (by kernel_rfl) rfl #[.agg #[.slice A0_0 l0_0.length c0_0, .slice A0_1 l0_1.length c0_1], .int .i64 a1, .int .i64 a2] rfl (by (try simp only [List.map_toArray, List.map_cons, List.map_nil]); first | done | rfl | (simp only [List.length_drop, qw]; rfl)) ?_; (with_reducible refine (HOF.out _ _ l0_0 _ _ l0_1 a1 t102 _ ?side1 ?side2 ?side3 ?side4 A5.out).mono ?_); (case side1 => repeat (first | exact (Kd.C_below HR0_0.out HB.out) | with_reducible first | apply Kd.C_alloc | apply Kd.C_drewN | apply Kd.C_drew)); (case side2 => exact HC0_0.out); (case side3 => repeat (first | exact (Kd.C_below HR0_1.out HB.out) | with_reducible first | apply Kd.C_alloc | apply Kd.C_drewN | apply Kd.C_drew)); (case side4 => exact HC0_1.out); rintro e w8 ⟨rfl, hb⟩; refine ⟨_, rfl, ?_⟩; have n0_ := qf (blk_below (g := gb101) (o := .cells #[.slice A0_0 l0_0.length c0_0, .slice A0_1 l0_1.length c0_1] 38 (0, 0)) (by (with_reducible repeat (first | refine blk_drewN ?_ _ | refine blk_drew ?_ | refine qh ?_ _)); exact BK101.out) hb); have n1_ := qf (below_step (by repeat (first | (with_reducible first | exact HB.out | apply qa | apply qb | apply qc | refine qg ?_ GE101.out) | exact HB.out)) hb); clear BK101 HB; have BK101 := n0_; have HB := n1_; clear n0_ n1_; (try clear hb); (try clear hi)) | ((with_reducible refine gate_dst (N := 15) rfl ?_); refine Kd.R_lit Kd.string _ 9 ?hg (N := 15) ?hd (xs := ([t102] : List ByteArray)) (inner := [.string t102]) (ok := fun _ => True) (okp := fun _ => True) ?hr ?hp (fun _ hk => hk) trivial (Below.refl _ _) (Nat.le_refl _) (by simp) ?_; (case hd => rfl); (case hg => rfl); (case hr => first | (go_simp; done) | (go_simp; rfl)); (case hp => exact (Reps.one (show Kd.M Kd.string _ _ _ t102 [.string t102] from rfl) (Reps.none _ _))); intro v104 w9 ho10 hb hg_ hnew_; clear hg_ hnew_; (first | rw [← Ny103.out] at ho10 | (simp only [Int.reduceToNat] at ho10; rw [← Ny103.out] at ho10)); have n0_ := qf (Kd.R_lower ho10 (below_size (by repeat (first | (with_reducible first | exact HB.out | apply qa | apply qb | apply qc | refine qg ?_ GE101.out) | exact HB.out)))); have n1_ := qf (blk_below (g := gb101) (o := .cells #[.slice A0_0 l0_0.length c0_0, .slice A0_1 l0_1.length c0_1] 38 (0, 0)) (by (with_reducible repeat (first | refine blk_drewN ?_ _ | refine blk_drew ?_ | refine qh ?_ _)); exact BK101.out) hb); have n2_ := qf (below_step (by repeat (first | (with_reducible first | exact HB.out | apply qa | apply qb | apply qc | refine qg ?_ GE101.out) | exact HB.out)) hb); clear BK101 HB; have HO105 := n0_; have BK101 := n1_; have HB := n2_; clear n0_ n1_ n2_ hb ho10))
 go_loopg [9, 10] k (fun kq v9 v10 w' => ∃ (x9_1 : List ByteArray) (x10_1 : Int), v10 = .int .i64 x10_1 ∧ Aside0 (saltusref17_From.l0 kq a2 a3 x9_1 x10_1 l0_0 l0_1 = some r) ∧ Aside0 (kq ≤ k) ∧ Aside0 (Kd.R Kd.string 9 w' w.heap.size (fun _ => True) v9 x9_1) ∧ Aside0 (w'.heap[gb101]? = some (.cells #[(.slice A0_0 l0_0.length c0_0), (.slice A0_1 l0_1.length c0_1)] 38 (0, 0))) ∧ Aside0 (Below w.heap.size w w'))
 case atStart => exact ⟨(y103), (wrap64 (a1 + 1)), (by first | rfl | (simp; done) | (simp [*]; done)), H', ⟨Nat.le_refl _⟩, ⟨by (with_reducible repeat (first | apply Kd.R_alloc | apply Kd.R_drewN | apply Kd.R_drew)); exact HO105.out⟩, ⟨by (with_reducible repeat (first | refine blk_drewN ?_ _ | refine blk_drew ?_ | refine qh ?_ _)); exact BK101.out⟩, ⟨by repeat (first | (with_reducible first | exact HB.out | apply qa | apply qb | apply qc | refine qg ?_ GE101.out) | exact HB.out)⟩⟩
 case round =>
  clear H'; (try clear p2); (try clear c3); (try clear c4); (try clear p6); (try clear hcz7_0); (try clear hcz7_1); (try clear hfz7_0); (try clear hfz7_1); obtain ⟨x9_1, x10_1, rfl, HA, HK1, HO_9, BK101, HB⟩ := hrel
  cases gk with
  | zero => exact absurd HA.out (by simp [saltusref17_From.l0])
  | succ k1 =>
   have H := HA.out; clear HA; simp only [saltusref17_From.l0] at H
   by_cases c11 : x10_1 < (l0_0.length : Int)
   ·rw [if_pos c11] at H; have c11b0 := qj c11; clear c11
    by_cases c12 : 0 ≤ x10_1
    ·rw [if_pos c12] at H; have c12b0 := qj c12; clear c12
     by_cases c13 : x10_1 < (l0_1.length : Int)
     ·rw [if_pos c13] at H; have c13b0 := qj c13; clear c13
      by_cases c14 : (rd l0_1 x10_1) > a3
      ·rw [if_pos c14] at H; have c14b0 := qj c14; clear c14; obtain rfl := Option.some.inj H; have hcz15_0 : wr.cell? ⟨gb101, 0, none⟩ = some (.slice A0_0 l0_0.length c0_0) := (blk_cell BK101.out 0).trans rfl; have hcz15_1 : wr.cell? ⟨gb101, 1, none⟩ = some (.slice A0_1 l0_1.length c0_1) := (blk_cell BK101.out 1).trans rfl; have hfz15_0 := blk_frozen BK101.out 0; have hfz15_1 := blk_frozen BK101.out 1; have p106 : 0 ≤ (x10_1 : Int) := qe (by with_reducible assumption); have q106 : x10_1 < (l0_1.length : Int) := qe (by with_reducible assumption); obtain ⟨ad106, e106, hx106_0⟩ := Kd.at_int HR0_1.out x10_1 p106 q106; cases e106; replace hx106_0 := (HB.out.cell (qd w _ hx106_0)).trans hx106_0; replace p106 := eq_true p106; replace q106 := eq_true q106; go_wp2; go_ret; exact ⟨_, by first | rfl | (simp [errW_none, errW_some] <;> rfl) | (simp [*, errW_none, errW_some] <;> rfl), by (with_reducible repeat (first | apply Kd.R_alloc | apply Kd.R_drewN | apply Kd.R_drew)); exact HO_9.out, by repeat (first | (with_reducible first | exact HB.out | apply qa | apply qb | apply qc | refine qg ?_ GE101.out) | exact HB.out)⟩
      ·rw [if_neg c14] at H; have c14b0 := decide_eq_false c14; clear c14
       by_cases c16 : (rd l0_1 x10_1) > a2
       ·rw [if_pos c16] at H; have c16b0 := qj c16; clear c16; replace H := qi H; obtain ⟨t108, A170, H⟩ := H
        (try dsimp only at H)
        have A17 := qf A170; clear A170
        by_cases c18 : x9_1.length < 8796093022208
        ·rw [if_pos c18] at H; have LMc18 := qf c18; clear c18
         obtain ⟨y109, hy109⟩ : ∃ y_ : List ByteArray, y_ = (x9_1 ++ [t108]) := ⟨_, rfl⟩
         replace H : (saltusref17_From.l0 k1 a2 a3 y109 (wrap64 (x10_1 + 1)) l0_0 l0_1) = some r := by first | (rw [hy109]; with_reducible exact H) | (have H2_ := (qv _ _).symm.trans H; rw [hy109]; with_reducible exact H2_) | (have H2_ := (qv _ _).symm.trans H; with_reducible exact H2_) | with_reducible exact H | (rw [hy109]; exact H) | exact H
         have Ny109 := qf hy109; clear hy109; have H' := qf H; clear H; have hcz19_0 : wr.cell? ⟨gb101, 0, none⟩ = some (.slice A0_0 l0_0.length c0_0) := (blk_cell BK101.out 0).trans rfl; have hcz19_1 : wr.cell? ⟨gb101, 1, none⟩ = some (.slice A0_1 l0_1.length c0_1) := (blk_cell BK101.out 1).trans rfl; have hfz19_0 := blk_frozen BK101.out 0; have hfz19_1 := blk_frozen BK101.out 1; have p106 : 0 ≤ (x10_1 : Int) := qe (by with_reducible assumption); have q106 : x10_1 < (l0_1.length : Int) := qe (by with_reducible assumption); obtain ⟨ad106, e106, hx106_0⟩ := Kd.at_int HR0_1.out x10_1 p106 q106; cases e106; replace hx106_0 := (HB.out.cell (qd w _ hx106_0)).trans hx106_0; replace p106 := eq_true p106; replace q106 := eq_true q106; have p107 : 0 ≤ (x10_1 : Int) := qe (by with_reducible assumption); have q107 : x10_1 < (l0_1.length : Int) := qe (by with_reducible assumption); obtain ⟨ad107, e107, hx107_0⟩ := Kd.at_int HR0_1.out x10_1 p107 q107; obtain rfl : ad106 = ad107 := (by injection e107); replace hx107_0 := (HB.out.cell (qd w _ hx107_0)).trans hx107_0; replace p107 := eq_true p107; replace q107 := eq_true q107
         go_wp2_with (first | ((with_reducible refine gate_callee (f := 31) rfl ?_); refine goesL_ (some 44) rfl rfl Tryz.func31 (by kernel_rfl) rfl #[.agg #[.slice A0_0 l0_0.length c0_0, .slice (some ad106) l0_1.length c0_1], .int .i64 x10_1, .int .i64 a2] rfl (by (try simp only [List.map_toArray, List.map_cons, List.map_nil]); first | done | rfl | (simp only [List.length_drop, qw]; rfl)) ?_; (with_reducible refine (HOF.out _ _ l0_0 _ _ l0_1 x10_1 t108 _ ?side1 ?side2 ?side3 ?side4 A17.out).mono ?_); (case side1 => repeat (first | exact (Kd.C_below HR0_0.out HB.out) | with_reducible first | apply Kd.C_alloc | apply Kd.C_drewN | apply Kd.C_drew)); (case side2 => exact HC0_0.out); (case side3 => repeat (first | exact (Kd.C_below HR0_1.out HB.out) | with_reducible first | apply Kd.C_alloc | apply Kd.C_drewN | apply Kd.C_drew)); (case side4 => exact HC0_1.out); rintro e w20 ⟨rfl, hb⟩; refine ⟨_, rfl, ?_⟩; have n0_ := qf (Kd.R_below (by (with_reducible repeat (first | apply Kd.R_alloc | apply Kd.R_drewN | apply Kd.R_drew)); exact HO_9.out) hb); have n1_ := qf (blk_below (g := gb101) (o := .cells #[.slice A0_0 l0_0.length c0_0, .slice (some ad106) l0_1.length c0_1] 38 (0, 0)) (by (with_reducible repeat (first | refine blk_drewN ?_ _ | refine blk_drew ?_ | refine qh ?_ _)); exact BK101.out) hb); have n2_ := qf (below_step (by repeat (first | (with_reducible first | exact HB.out | apply qa | apply qb | apply qc | refine qg ?_ GE101.out) | exact HB.out)) hb); clear HO_9 BK101 HB; have HO_9 := n0_; have BK101 := n1_; have HB := n2_; clear n0_ n1_ n2_; (try clear hb); (try clear hi)) | ((with_reducible refine gate_builtin (b := .append) (xs := #[.tmp 40, .tmp 45]) rfl ?_); at_builtin; refine Kd.R_append Kd.string (w0 := w) w.heap.size rfl (.tmp 40) (.tmp 45) 47 9 (.string ⟨#[]⟩) 16 rfl Tryz.underlying47 info9 rfl (by decide) (by omega) u9 x9_1 t108 [.string t108] (fun _ => True) (fun _ => False) rfl rfl ?aP (fun _ hk => hk.elim) ?aF ?aO ?aB ?aS ?aL ?_; (case aP => exact rfl); (case aB => exact (by repeat (first | (with_reducible first | exact HB.out | apply qa | apply qb | apply qc | refine qg ?_ GE101.out) | exact HB.out))); (case aF => exact (fun _ _ => trivial)); (case aO => exact (by (with_reducible repeat (first | apply Kd.R_alloc | apply Kd.R_drewN | apply Kd.R_drew)); exact HO_9.out)); (case aS => exact (below_size (by repeat (first | (with_reducible first | exact HB.out | apply qa | apply qb | apply qc | refine qg ?_ GE101.out) | exact HB.out)))); (case aL => have := LMc18.out; omega); intro v110 w21 ho hb hg hat; rw [← Ny109.out] at ho; have n0_ := qf (blk_grown (g := gb101) (o := .cells #[.slice A0_0 l0_0.length c0_0, .slice (some ad106) l0_1.length c0_1] 38 (0, 0)) (by (with_reducible repeat (first | refine blk_drewN ?_ _ | refine blk_drew ?_ | refine qh ?_ _)); exact BK101.out) hg (Kd.R_ne HO_9.out BK101.out (by decide))); have n1_ := qf (hb); have n2_ := qf (ho); clear BK101 HB HO_9; have BK101 := n0_; have HB := n1_; have HO111 := n2_; clear n0_ n1_ n2_ ho hb hg hat))
         go_roundg k1
         case measure => have := HK1.out; omega
         case rel => exact ⟨(y109), (wrap64 (x10_1 + 1)), (by first | rfl | (simp; done) | (simp [*]; done)), H', ⟨by have := HK1.out; omega⟩, ⟨by (with_reducible repeat (first | apply Kd.R_alloc | apply Kd.R_drewN | apply Kd.R_drew)); exact HO111.out⟩, ⟨by (with_reducible repeat (first | refine blk_drewN ?_ _ | refine blk_drew ?_ | refine qh ?_ _)); exact BK101.out⟩, ⟨by repeat (first | (with_reducible first | exact HB.out | apply qa | apply qb | apply qc | refine qg ?_ GE101.out) | exact HB.out)⟩⟩
        ·rw [if_neg c18] at H; exact absurd H (by simp)
       ·rw [if_neg c16] at H; have c16b0 := decide_eq_false c16; clear c16; have H' := qf H; clear H; have hcz22_0 : wr.cell? ⟨gb101, 0, none⟩ = some (.slice A0_0 l0_0.length c0_0) := (blk_cell BK101.out 0).trans rfl; have hcz22_1 : wr.cell? ⟨gb101, 1, none⟩ = some (.slice A0_1 l0_1.length c0_1) := (blk_cell BK101.out 1).trans rfl; have hfz22_0 := blk_frozen BK101.out 0; have hfz22_1 := blk_frozen BK101.out 1; have p106 : 0 ≤ (x10_1 : Int) := qe (by with_reducible assumption); have q106 : x10_1 < (l0_1.length : Int) := qe (by with_reducible assumption); obtain ⟨ad106, e106, hx106_0⟩ := Kd.at_int HR0_1.out x10_1 p106 q106; cases e106; replace hx106_0 := (HB.out.cell (qd w _ hx106_0)).trans hx106_0; replace p106 := eq_true p106; replace q106 := eq_true q106; have p107 : 0 ≤ (x10_1 : Int) := qe (by with_reducible assumption); have q107 : x10_1 < (l0_1.length : Int) := qe (by with_reducible assumption); obtain ⟨ad107, e107, hx107_0⟩ := Kd.at_int HR0_1.out x10_1 p107 q107; obtain rfl : ad106 = ad107 := (by injection e107); replace hx107_0 := (HB.out.cell (qd w _ hx107_0)).trans hx107_0; replace p107 := eq_true p107; replace q107 := eq_true q107; go_wp2
        go_roundg k1
        case measure => have := HK1.out; omega
        case rel => exact ⟨(x9_1), (wrap64 (x10_1 + 1)), (by first | rfl | (simp; done) | (simp [*]; done)), H', ⟨by have := HK1.out; omega⟩, ⟨by (with_reducible repeat (first | apply Kd.R_alloc | apply Kd.R_drewN | apply Kd.R_drew)); exact HO_9.out⟩, ⟨by (with_reducible repeat (first | refine blk_drewN ?_ _ | refine blk_drew ?_ | refine qh ?_ _)); exact BK101.out⟩, ⟨by repeat (first | (with_reducible first | exact HB.out | apply qa | apply qb | apply qc | refine qg ?_ GE101.out) | exact HB.out)⟩⟩
     ·rw [if_neg c13] at H; exact absurd H (by simp)
    ·rw [if_neg c12] at H; exact absurd H (by simp)
   ·rw [if_neg c11] at H; have c11b0 := decide_eq_false c11; clear c11; obtain rfl := Option.some.inj H; have hcz23_0 : wr.cell? ⟨gb101, 0, none⟩ = some (.slice A0_0 l0_0.length c0_0) := (blk_cell BK101.out 0).trans rfl; have hcz23_1 : wr.cell? ⟨gb101, 1, none⟩ = some (.slice A0_1 l0_1.length c0_1) := (blk_cell BK101.out 1).trans rfl; have hfz23_0 := blk_frozen BK101.out 0; have hfz23_1 := blk_frozen BK101.out 1; go_wp2; go_ret; exact ⟨_, by first | rfl | (simp [errW_none, errW_some] <;> rfl) | (simp [*, errW_none, errW_some] <;> rfl), by (with_reducible repeat (first | apply Kd.R_alloc | apply Kd.R_drewN | apply Kd.R_drew)); exact HO_9.out, by repeat (first | (with_reducible first | exact HB.out | apply qa | apply qb | apply qc | refine qg ?_ GE101.out) | exact HB.out)⟩
end Go.Proofs.YtolbhliepkcihaaGreatDoor.QLF
end
section
namespace Go.Proofs.YtolbhliepkcihaaGreatDoor.Lab
open Go.RowKit YtolbhliepkcihaaGreatDoorW.PrintWords YtolbhliepkcihaaGreatDoorW.PrintLast YtolbhliepkcihaaGreatDoorW.PrintMore Kinds Build Sha Mac Codec Tower
abbrev It := S44
theorem w_succ (i n : Nat) (h : i < n) (hn : n ≤ 1000000000) : wrap64 ((i : Int) + 1) = ((i + 1 : Nat) : Int) := by unfold wrap64; omega
theorem itemT_size (x : It) : (itemT x).size = x.f1.size + 11 := by
 unfold itemT; rw [ByteArray.size_append, ByteArray.size_append, ofNats_size, numS_size, textS_size]
 simp
 omega
theorem item_f (x : It) (h0 : 0 ≤ x.f0) (h1 : x.f0 < 18446744073709551616) (hs : x.f1.size ≤ 4096) : QLA.saltusref17_Item.f x.f0 x.f1 = some (itemT x) := by
 have e1 : saltusref02_Low.f x.f0 8 = some (numS x.f0.toNat) := if_pos ⟨h0, h1, by decide, by decide⟩; have e2 : saltusref02_One.f true 0 x.f1 = some (textS x.f1) := if_pos ⟨by omega, by decide, by decide⟩; have e3 : strOfNums ([0] : List Int) = ofNats [0] := ofNats_eq [0]; unfold QLA.saltusref17_Item.f; rw [qv, e1, qv, e3, if_pos (by rw [ofNats_size, numS_size]; decide), e2, qv, if_pos (by rw [ByteArray.size_append, ofNats_size, numS_size, textS_size]; simp; omega)]; rfl
theorem leaf_f (x : It) (h0 : 0 ≤ x.f0) (h1 : x.f0 < 18446744073709551616) (hs : x.f1.size ≤ 4096) : QLA.saltusref17_Leaf.f x.f0 x.f1 = some (sumS (itemT x)) := by
 have e : saltusref03_Sum.f (itemT x) = some (sumS (itemT x)) := if_pos (by rw [itemT_size]; show _ ≤ 1099511627776; omega); unfold QLA.saltusref17_Leaf.f; rw [item_f x h0 h1 hs, qv, e]; rfl
theorem pleaf_f (x : It) (h0 : 0 ≤ x.f0) (h1 : x.f0 < 18446744073709551616) (hs : x.f1.size ≤ 4096) : QLA.label_leaf.f x.f0 x.f1 = some (sumS (itemT x)) := by
 have e1 : codec_Join.f [(⟨false, x.f0, ⟨#[]⟩⟩ : S84), ⟨true, 0, x.f1⟩] = some (catS [numS x.f0.toNat, textS x.f1], 0) := by
  unfold codec_Join.f
  have hk : okB [(⟨false, x.f0, ⟨#[]⟩⟩ : S84), ⟨true, 0, x.f1⟩] = true := by
   unfold okB; simp only [List.all_cons, List.all_nil, Bool.and_true, Bool.and_eq_true, decide_eq_true_eq]; exact ⟨⟨⟨by decide, h0⟩, h1⟩, ⟨hs, by decide⟩, by decide⟩
  rw [if_pos ⟨show 2 ≤ 1000000 by decide, hk⟩]; rfl
 have e2 : catS [numS x.f0.toNat, textS x.f1] = numS x.f0.toNat ++ textS x.f1 := by
  show numS x.f0.toNat ++ catS [textS x.f1] = _
  rw [cat_one]
 have e3 : (⟨#[0]⟩ : ByteArray) ++ (numS x.f0.toNat ++ textS x.f1) = itemT x := by
  unfold itemT; rw [ByteArray.append_assoc]; rfl
 have e4 : saltusref03_Sum.f (itemT x) = some (sumS (itemT x)) := if_pos (by rw [itemT_size]; show _ ≤ 1099511627776; omega); have e5 : sha_Sum.f (itemT x) = some (sumS (itemT x)) := if_pos (by rw [itemT_size]; show _ ≤ 1099511627776; omega); unfold QLA.label_leaf.f; rw [e1, qv, e2]; rw [if_pos (by show 1 + (numS x.f0.toNat ++ textS x.f1).size ≤ _; rw [ByteArray.size_append, numS_size, textS_size]; omega), e3, e5]; rfl
theorem rd_str (l : List ByteArray) (i : Nat) (h : i < l.length) : rdOf ByteArray.empty l (i : Int) = l[i] := by
 unfold rdOf; rw [Int.toNat_natCast, List.getD_eq_getElem?_getD, List.getElem?_eq_getElem h]; rfl
theorem rd_int (l : List Int) (i : Nat) (h : i < l.length) : rd l (i : Int) = l[i] := by
 unfold rd; rw [Int.toNat_natCast, List.getD_eq_getElem?_getD, List.getElem?_eq_getElem h]; rfl
theorem text_l0 (l : List ByteArray) (hn : l.length ≤ 1000000) (d : Nat) : ∀ i acc, i + d = l.length → acc.size + (catS (l.drop i)).size ≤ 2000000000000 →
  Ev (fun k => QLA.saltusref17_Text.l0 k acc l (l.length : Int) (i : Int)) (acc ++ catS (l.drop i)) := by
 induction d with
 | zero =>
  intro i acc hi ha; refine Ev.step (fun k => ?_) (Ev.now _); rw [QLA.saltusref17_Text.l0, if_neg (by omega), List.drop_eq_nil_of_le (by omega)]
  show some acc = some (acc ++ ⟨#[]⟩)
  rw [show (⟨#[]⟩ : ByteArray) = ByteArray.empty from rfl, ByteArray.append_empty]
 | succ d ih =>
  intro i acc hi ha
  have hlt : i < l.length := by omega
  rw [List.drop_eq_getElem_cons hlt] at ha ⊢
  have e : acc ++ catS (l[i] :: l.drop (i + 1)) = (acc ++ l[i]) ++ catS (l.drop (i + 1)) := by
   show acc ++ (l[i] ++ catS (l.drop (i + 1))) = _
   rw [ByteArray.append_assoc]
  have hs : (catS (l[i] :: l.drop (i + 1))).size = l[i].size + (catS (l.drop (i + 1))).size := by
   show (l[i] ++ catS (l.drop (i + 1))).size = _
   rw [ByteArray.size_append]
  rw [hs] at ha; rw [e]; refine Ev.step (fun k => ?_) (ih (i + 1) (acc ++ l[i]) (by omega) (by rw [ByteArray.size_append]; omega)); rw [QLA.saltusref17_Text.l0, if_pos (by omega), if_pos (by omega), if_pos (by omega), rd_str l i hlt, if_pos (by omega), w_succ i l.length hlt (by omega)]
theorem text_ev (lv : Nat) (hl : lv ≤ 1000) (l : List ByteArray) (hn : l.length ≤ 1000000) (hz : (catS l).size ≤ 1000000000000) : Ev (fun k => QLA.saltusref17_Text.f k (lv : Int) l) (joinT lv l) := by
 have e1 : saltusref02_Low.f (lv : Int) 8 = some (numS lv) := if_pos ⟨by omega, by omega, by decide, by decide⟩; have e2 : strOfNums ([2] : List Int) = ofNats [2] := ofNats_eq [2]; have e3 : IntKind.u64.wrap (lv : Int) = (lv : Int) := wrap_nat lv (by omega); have h := text_l0 l hn l.length 0 (ofNats [2] ++ numS lv) (by omega) (by rw [ByteArray.size_append, ofNats_size, numS_size, List.drop_zero]; simp; omega); rw [List.drop_zero] at h; refine Ev.congr (fun k => ?_) h; unfold QLA.saltusref17_Text.f; rw [qv, e3, e1, qv, e2, if_pos (by rw [ofNats_size, numS_size]; decide)]; rfl
theorem cat32 : ∀ l : List ByteArray, (∀ s, s ∈ l → s.size = 32) → (catS l).size = 32 * l.length
 | [], _ => rfl
 | s :: l, h => by
  show (s ++ catS l).size = _
  rw [ByteArray.size_append, cat32 l (fun t ht => h t (List.mem_cons_of_mem _ ht)), h s List.mem_cons_self, List.length_cons]
  omega
theorem more32 (lv : Nat) : ∀ s : List E, (∀ t, t ∈ more (lab lv) lv s → t.size = 32) ∧ (more (lab lv) lv s).length ≤ s.length
 | [] => ⟨fun t h => (by cases h), Nat.le_refl _⟩
 | y :: r => by
  obtain ⟨h1, h2⟩ := more32 lv r; unfold more
  by_cases c : lv + 1 < y.h
  ·rw [if_pos c]; exact ⟨fun t h => (by cases h), Nat.zero_le _⟩
  ·rw [if_neg c]
   by_cases d : lv < y.h
   ·rw [if_pos d]; refine ⟨fun t h => ?_, by rw [List.length_cons, List.length_cons]; omega⟩
    rcases List.mem_cons.1 h with rfl | h
    ·exact lab_size lv y r
    ·exact h1 t h
   ·rw [if_neg d]; exact ⟨h1, by rw [List.length_cons]; omega⟩
theorem from32 (lv : Nat) (y : E) (r : List E) : (∀ t, t ∈ fromL lv (y :: r) → t.size = 32) ∧ (fromL lv (y :: r)).length ≤ r.length + 1 := by
 obtain ⟨h1, h2⟩ := more32 lv r; refine ⟨fun t h => ?_, by show (more (lab lv) lv r).length + 1 ≤ _; omega⟩
 rcases List.mem_cons.1 h with rfl | h
 ·exact lab_size lv y r
 ·exact h1 t h
theorem okT_parts {l : List It} {hs : List Int} (h : okT l hs = true) : (∀ x, x ∈ l → x.f1.size ≤ 4096 ∧ 0 ≤ x.f0 ∧ x.f0 < 18446744073709551616) ∧ (∀ y, y ∈ hs → 0 ≤ y ∧ y ≤ 8) ∧ l.length = hs.length ∧ l.length ≤ 10000 := by
 unfold okT okIt okHt at h; simp only [Bool.and_eq_true, decide_eq_true_eq, List.all_eq_true] at h; exact ⟨fun x hx => ⟨(h.1.1.1 x hx).1.1, (h.1.1.1 x hx).1.2, (h.1.1.1 x hx).2⟩, fun y hy => h.1.1.2 y hy, h.1.2, h.2⟩
theorem es_len (l : List It) (hs : List Int) (h : l.length = hs.length) : (esOf l hs).length = l.length := by unfold esOf; rw [List.length_zipWith]; omega
theorem es_drop (l : List It) (hs : List Int) (h : l.length = hs.length) (i : Nat) (hi : i < l.length) : (esOf l hs).drop i = ⟨(hs[i]'(by omega)).toNat, itemT l[i]⟩ :: (esOf l hs).drop (i + 1) := by
 have hz := es_len l hs h; rw [List.drop_eq_getElem_cons (by omega)]
 congr 1
 simp [esOf]
theorem rd_it (l : List It) (i : Nat) (h : i < l.length) : rd_T44 l (i : Int) = l[i] := by
 unfold rd_T44; rw [Int.toNat_natCast, List.getD_eq_getElem?_getD, List.getElem?_eq_getElem h]; rfl
theorem suf_len (l : List It) (hs : List Int) (h : l.length = hs.length) (a : Int) : (sufT l hs a).length ≤ l.length + 1 := by
 unfold sufT; rw [List.length_drop, List.length_cons, es_len l hs h]
 omega
theorem suf_cons (l : List It) (hs : List Int) (h : l.length = hs.length) (a : Int) (_ : -1 ≤ a) (hb : a < (l.length : Int)) : ∃ y r, sufT l hs a = y :: r ∧ r = (esOf l hs).drop (a + 1).toNat := by
 have hz := es_len l hs h
 have hlt : (a + 1).toNat < (head :: esOf l hs).length := by rw [List.length_cons]; omega
 refine ⟨(head :: esOf l hs)[(a + 1).toNat], (head :: esOf l hs).drop ((a + 1).toNat + 1), List.drop_eq_getElem_cons hlt, rfl⟩
/-! ### Of, of what From tells -/
theorem of_ev (l : List It) (hs : List Int) (a1 a2 : Int) (r : ByteArray) (h : saltusref17_Of.f l hs a1 a2 = some r) : Ev (fun k => QLA.saltusref17_Of.f k l hs a1 a2) r := by
 unfold saltusref17_Of.f at h
 split at h
 ·rename_i hc; obtain ⟨h1, h2, h3, h4, h5⟩ := hc; obtain rfl := Option.some.inj h; obtain ⟨p1, p2, p3, p4⟩ := okT_parts h1; obtain ⟨n, rfl⟩ := Int.eq_ofNat_of_zero_le h4; obtain ⟨y, s, e, es⟩ := suf_cons l hs p3 a1 h2 h3; have hsl := suf_len l hs p3 a1; rw [e, List.length_cons] at hsl
  cases n with
  | zero =>
   refine Ev.congr (fun k => ?_) (Ev.now _); unfold QLA.saltusref17_Of.f; rw [if_neg (by omega)]
   by_cases c : a1 < 0
   ·obtain rfl : a1 = -1 := by omega
    have e1 : strOfNums ([1] : List Int) = ofNats [1] := ofNats_eq [1]; have e2 : saltusref03_Sum.f (ofNats [1]) = some (sumS (ofNats [1])) := if_pos (by decide); rw [if_pos (by decide), e1, e2]; rfl
   ·obtain ⟨m, rfl⟩ := Int.eq_ofNat_of_zero_le (show 0 ≤ a1 by omega)
    have hm : m < l.length := by omega
    obtain ⟨q1, q2, q3⟩ := p1 _ (List.getElem_mem hm); rw [if_neg c, if_pos (by omega), if_pos h3, rd_it l m hm, leaf_f l[m] q2 q3 q1, qv]
    have e3 : sufT l hs (m : Int) = ⟨(hs[m]'(by omega)).toNat, itemT l[m]⟩ :: (esOf l hs).drop (m + 1) := by
     unfold sufT; rw [show ((m : Int) + 1).toNat = m + 1 by omega, List.drop_succ_cons, es_drop l hs p3 m hm]
    rw [e3]; rfl
  | succ n =>
   have e0 : wrap64 (((n + 1 : Nat) : Int) - 1) = (n : Int) := by unfold wrap64; omega
   have e1 : saltusref17_From.f l hs a1 (n : Int) ((n + 1 : Nat) : Int) = some (fromL n (y :: s)) := by
    unfold saltusref17_From.f; rw [if_pos ⟨h1, h2, h3, by omega, by omega, by omega⟩, e]; rfl
   obtain ⟨f1, f2⟩ := from32 n y s; have e2 := cat32 _ f1; have e3 := text_ev (n + 1) (by omega) (fromL n (y :: s)) (by omega) (by omega)
   have hsz : (joinT (n + 1) (fromL n (y :: s))).size ≤ 1000000 := by
    unfold joinT; rw [ByteArray.size_append, ByteArray.size_append, ofNats_size, numS_size, e2, List.length_singleton]
    omega
   have e4 : saltusref03_Sum.f (joinT (n + 1) (fromL n (y :: s))) = some (sumS (joinT (n + 1) (fromL n (y :: s)))) := if_pos (Nat.le_trans hsz (show 1000000 ≤ 1099511627776 by decide)); rw [e]; have e5 : Ev (fun k => (QLA.saltusref17_Text.f k ((n + 1 : Nat) : Int) (fromL n (y :: s))).bind fun t119 => (saltusref03_Sum.f t119).bind fun t120 => some t120) (sumS (joinT (n + 1) (fromL n (y :: s)))) := Ev.bind e3 (by rw [e4]; exact Ev.now _); refine Ev.congr (fun k => ?_) e5; unfold QLA.saltusref17_Of.f; rw [if_pos (by omega), e0, e1, qv]
 ·cases h
theorem from_l0 (l : List It) (hs : List Int) (hok : okT l hs = true) (lv : Nat) (hlv : lv ≤ 8) (d : Nat) : ∀ i acc, i + d = l.length → acc.length + d ≤ 100000 →
  Ev (fun k => QLF.saltusref17_From.l0 k (lv : Int) ((lv + 1 : Nat) : Int) acc (i : Int) l hs) (acc ++ more (lab lv) lv ((esOf l hs).drop i)) := by
 obtain ⟨p1, p2, p3, p4⟩ := okT_parts hok
 induction d with
 | zero =>
  intro i acc hi ha; have hz := es_len l hs p3; refine Ev.step (fun k => ?_) (Ev.now _); rw [QLF.saltusref17_From.l0, if_neg (by omega), List.drop_eq_nil_of_le (by omega)]
  show some acc = some (acc ++ [])
  rw [List.append_nil]
 | succ d ih =>
  intro i acc hi ha
  have hlt : i < l.length := by omega
  have hrd : rd hs (i : Int) = hs[i]'(by omega) := rd_int hs i (by omega); obtain ⟨q1, q2⟩ := p2 _ (List.getElem_mem (show i < hs.length by omega)); have hed := es_drop l hs p3 i hlt
  have hof : saltusref17_Of.f l hs (i : Int) (lv : Int) = some (lab lv ((esOf l hs).drop i)) := by
   unfold saltusref17_Of.f; rw [if_pos ⟨hok, by omega, by omega, by omega, by omega⟩]; unfold sufT; rw [show ((i : Int) + 1).toNat = i + 1 by omega, List.drop_succ_cons]; rfl
  rw [hed] at hof ⊢; unfold more
  by_cases c : lv + 1 < (hs[i]'(by omega)).toNat
  ·rw [if_pos c, List.append_nil]; refine Ev.step (fun k => ?_) (Ev.now _); rw [QLF.saltusref17_From.l0, if_pos (by omega), if_pos (by omega), if_pos (by omega), hrd, if_pos (by omega)]
  ·rw [if_neg c]
   by_cases e : lv < (hs[i]'(by omega)).toNat
   ·rw [if_pos e]; have h := ih (i + 1) (acc ++ [lab lv (⟨(hs[i]'(by omega)).toNat, itemT l[i]⟩ :: (esOf l hs).drop (i + 1))]) (by omega) (by rw [List.length_append, List.length_singleton]; omega); rw [List.append_assoc] at h; refine Ev.step (fun k => ?_) h; rw [QLF.saltusref17_From.l0, if_pos (by omega), if_pos (by omega), if_pos (by omega), hrd, if_neg (by omega), if_pos (by omega), hof, qv, if_pos (by omega), w_succ i l.length hlt (by omega)]
   ·rw [if_neg e]; refine Ev.step (fun k => ?_) (ih (i + 1) acc (by omega) (by omega)); rw [QLF.saltusref17_From.l0, if_pos (by omega), if_pos (by omega), if_pos (by omega), hrd, if_neg (by omega), if_neg (by omega), w_succ i l.length hlt (by omega)]
theorem from_ev (l : List It) (hs : List Int) (a1 a2 a3 : Int) (r : List ByteArray) (h : saltusref17_From.f l hs a1 a2 a3 = some r) : Ev (fun k => QLF.saltusref17_From.f k l hs a1 a2 a3) r := by
 unfold saltusref17_From.f at h
 split at h
 ·rename_i hc; obtain ⟨h1, h2, h3, h4, h5, rfl⟩ := hc; obtain rfl := Option.some.inj h; obtain ⟨p1, p2, p3, p4⟩ := okT_parts h1; obtain ⟨n, rfl⟩ := Int.eq_ofNat_of_zero_le h4; obtain ⟨y, s, e, es⟩ := suf_cons l hs p3 a1 h2 h3
  have hof : saltusref17_Of.f l hs a1 (n : Int) = some (lab n (y :: s)) := by
   unfold saltusref17_Of.f; rw [if_pos ⟨h1, h2, h3, h4, h5⟩, e]; rfl
  have hw : wrap64 (a1 + 1) = (((a1 + 1).toNat : Nat) : Int) := by unfold wrap64; omega
  have h := from_l0 l hs h1 n (by omega) (l.length - (a1 + 1).toNat) (a1 + 1).toNat [lab n (y :: s)] (by omega) (by simp; omega); rw [← es] at h; rw [e]; refine Ev.congr (fun k => ?_) h; unfold QLF.saltusref17_From.f; rw [hof, hw]; rfl
 ·cases h
theorem ofs : ∀ n : Nat, OfOK (n : Int) ∧ FromOK (n : Int)
 | 0 => by
  have h : OfOK ((0 : Nat) : Int) := ⟨fun A0 c0 l0 A1 c1 l1 a1 r w q1 q2 q3 q4 h => by
   obtain ⟨k, e⟩ := (of_ev l0 l1 a1 _ r h).rounds; refine QLA.saltusref17_Of.calls k A0 c0 l0 A1 c1 l1 a1 _ r w q1 q2 q3 q4 ⟨fun _ _ _ _ _ _ _ _ _ _ _ _ _ _ h => ?_⟩ e; unfold saltusref17_From.f at h
   have e9 : wrap64 (((0 : Nat) : Int) - 1) = -1 := by unfold wrap64; omega
   rw [e9, if_neg (fun hc => by have := hc.2.2.2.1; omega)] at h
   cases h⟩
  exact ⟨h, ⟨fun A0 c0 l0 A1 c1 l1 a1 a3 r w q1 q2 q3 q4 hf => by
   obtain ⟨k, e⟩ := (from_ev l0 l1 a1 _ a3 r hf).rounds
   exact QLF.saltusref17_From.calls k A0 c0 l0 A1 c1 l1 a1 _ a3 r w q1 q2 q3 q4 h e⟩⟩
 | n + 1 => by
  have ih := ofs n
  have h : OfOK ((n + 1 : Nat) : Int) := ⟨fun A0 c0 l0 A1 c1 l1 a1 r w q1 q2 q3 q4 h => by
   obtain ⟨k, e⟩ := (of_ev l0 l1 a1 _ r h).rounds
   have hn : ((n + 1 : Nat) : Int) ≤ 8 := by
    unfold saltusref17_Of.f at h
    split at h
    ·rename_i hc; exact hc.2.2.2.2
    ·cases h
   have e0 : wrap64 (((n + 1 : Nat) : Int) - 1) = (n : Int) := by unfold wrap64; omega
   exact QLA.saltusref17_Of.calls k A0 c0 l0 A1 c1 l1 a1 _ r w q1 q2 q3 q4 (by rw [e0]; exact ih.2) e⟩
  exact ⟨h, ⟨fun A0 c0 l0 A1 c1 l1 a1 a3 r w q1 q2 q3 q4 hf => by
   obtain ⟨k, e⟩ := (from_ev l0 l1 a1 _ a3 r hf).rounds
   exact QLF.saltusref17_From.calls k A0 c0 l0 A1 c1 l1 a1 _ a3 r w q1 q2 q3 q4 h e⟩⟩
end Go.Proofs.YtolbhliepkcihaaGreatDoor.Lab
namespace Go.Proofs.YtolbhliepkcihaaGreatDoor
open Go.RowKit YtolbhliepkcihaaGreatDoorW.PrintWords Kinds Lab
theorem saltusref17_Of.calls (A0_0 : Option Addr) (c0_0 : Nat) (l0_0 : List S44) (A0_1 : Option Addr) (c0_1 : Nat) (l0_1 : List Int) (a1 a2 : Int) (r : ByteArray) (w : World) (q1 : Kd.C k44 w A0_0 l0_0.length l0_0) (q2 : l0_0.length ≤ c0_0) (q3 : Kd.C (Kd.int .i64) w A0_1 l0_1.length l0_1) (q4 : l0_1.length ≤ c0_1) (h : saltusref17_Of.f l0_0 l0_1 a1 a2 = some r) :
  Calls Tryz.prog 31 #[.agg #[.slice A0_0 l0_0.length c0_0, .slice A0_1 l0_1.length c0_1], .int .i64 a1, .int .i64 a2] w fun e w' => e = .returned (.string r) ∧ Below w.heap.size w w' := by
 have h4 : 0 ≤ a2 := by
  unfold saltusref17_Of.f at h
  split at h
  ·rename_i hc; exact hc.2.2.2.1
  ·cases h
 obtain ⟨n, rfl⟩ := Int.eq_ofNat_of_zero_le h4; exact (ofs n).1.out A0_0 c0_0 l0_0 A0_1 c0_1 l0_1 a1 r w q1 q2 q3 q4 h
end Go.Proofs.YtolbhliepkcihaaGreatDoor
end
section
namespace Go.Proofs.YtolbhliepkcihaaGreatDoor.Lab
open Go.RowKit YtolbhliepkcihaaGreatDoorW.PrintWords YtolbhliepkcihaaGreatDoorW.PrintLast YtolbhliepkcihaaGreatDoorW.PrintMore Kinds Build Sha Mac Codec Tower
theorem joinT_size (lv : Nat) (l : List ByteArray) : (joinT lv l).size = 9 + (catS l).size := by
 unfold joinT; rw [ByteArray.size_append, ByteArray.size_append, ofNats_size, numS_size, List.length_singleton]
set_option maxRecDepth 100000 in
set_option maxHeartbeats 4000000 in
theorem join_walk (lv : Nat) (hlv : lv ≤ 1000) (A : Option Addr) (c : Nat) (l : List ByteArray) (w : World) (hr : Kd.C Kd.string w A l.length l) (hc : l.length ≤ c) (hn : l.length ≤ 1000000) (hz : (catS l).size ≤ 1000000000) :
  Calls Tryz.prog 51 #[.int .i64 (lv : Int), .slice A l.length c] w fun e w' => e = .returned (.string (sumS (joinT lv l))) ∧ Below w.heap.size w w' := by
 have HN := Lib.hid (codec_Number.calls (lv : Int) (numS lv) · (if_pos ⟨by omega, by omega⟩)); have HJ := Lib.hid (fun W (hW : Below w.heap.size w W) => sjoin_any A c l W (Kd.C_below hr hW) hc hn (by omega)); have hjt : (⟨#[2]⟩ : ByteArray) ++ numS lv ++ catS l = joinT lv l := rfl; have HS := Lib.hid (fun w => show Calls Tryz.prog 40 #[.string ((⟨#[2]⟩ : ByteArray) ++ numS lv ++ catS l)] w _ from hjt ▸ sha_Sum.calls (joinT lv l) (sumS (joinT lv l)) w (if_pos (by rw [joinT_size]; show _ ≤ 1099511627776; omega))); have hnz : (numS lv).size = 8 := numS_size lv; have hw : IntKind.u64.wrap (lv : Int) = (lv : Int) := wrap_nat lv (by omega); have HZ := qf hz; clear hr hc hn hz; have HJT := Lib.hid hjt; clear hjt; generalize numS lv = x at *; generalize catS l = y at *; have hs1 : (⟨#[2]⟩ : ByteArray).size = 1 := rfl
 have hb1 : (⟨#[2]⟩ : ByteArray).size + x.size ≤ 9223372036854775807 := by omega
 have hb2 : ((⟨#[2]⟩ : ByteArray) ++ x).size + y.size ≤ 9223372036854775807 := by rw [ByteArray.size_append]; have := HZ.out; omega
 clear hnz hs1
 go_enter Tryz.func51, Tryz.ntmps51
 go_wp2_with fail
 refine (HN.out _).mono ?_
 rintro e w1 ⟨rfl, hb1⟩
 have HB := qf hb1
 go_wp2_with fail
 refine (HJ.out _ HB.out).mono ?_
 rintro e w2 ⟨rfl, hb2⟩
 replace HB := qf (below_step HB.out hb2)
 go_wp2_with fail
 refine (HS.out _).mono ?_
 rintro e w3 ⟨rfl, hb3⟩
 go_wp2; go_ret; exact ⟨by rw [← HJT.out]; rfl, below_step HB.out hb3⟩
end Go.Proofs.YtolbhliepkcihaaGreatDoor.Lab
end
section
namespace Go.Proofs.YtolbhliepkcihaaGreatDoor.Lab
open Go.RowKit YtolbhliepkcihaaGreatDoorW.PrintWords YtolbhliepkcihaaGreatDoorW.PrintLast YtolbhliepkcihaaGreatDoorW.PrintMore Kinds Build Sha Mac Codec Tower
def odd (s : ByteArray) : Bool := ((s.size : Int) != 32)
def odds (l : List ByteArray) : Bool := l.any odd
theorem odds_snoc (l : List ByteArray) (k : Nat) (h : k < l.length) : odds (l.take (k + 1)) = (odds (l.take k) || odd l[k]) := by
 unfold odds; rw [List.take_succ_eq_append_getElem h, List.any_append]
 simp
theorem odds_take (l : List ByteArray) (k : Nat) (h : k < l.length) (ho : odd l[k] = true) : odds l = true := List.any_eq_true.2 ⟨_, List.getElem_mem h, ho⟩
theorem odd_b (s : ByteArray) (w : World) : Calls Tryz.prog 71 #[.string s] w fun e w' => e = .returned (.bool (odd s)) ∧ w' = w := by
 have H : Hid (odd s = ((s.size : Int) != 32)) := Lib.hid rfl
 go_enter Tryz.func71, Tryz.ntmps71
 go_wp2; go_ret; exact ⟨by rw [H.out]; rfl, rfl⟩
set_option maxRecDepth 100000 in
set_option maxHeartbeats 4000000 in
theorem idx_b (ad : Addr) (c : Nat) (l : List ByteArray) (w : World) (hn : l.length ≤ 1000000) (hx : ∀ k, (hk : k < l.length) → w.cell? (ad.add k) = some (.string l[k])) :
  Calls Tryz.prog 90 #[.slice (some ad) l.length c, .func (.func 71) #[] #[]] w fun e w' => (∃ i : Int, e = .returned (.int .i64 i) ∧ decide (0 ≤ i) = odds l) ∧ w' = w := by
 have HX := Lib.hid hx; clear hx
 go_enter Tryz.func90, Tryz.ntmps90
 go_wp2
 go_loop [8] (fun iv => ∃ k : Nat, k ≤ l.length ∧ iv = .int .i64 k ∧ Aside0 (odds (l.take k) = false)) (fun iv => l.length - (intOf iv).toNat)
 case atStart => exact ⟨0, Nat.zero_le _, rfl, ⟨rfl⟩⟩
 case round =>
  obtain ⟨k, hk, rfl, HO⟩ := hrel
  by_cases hlt : k < l.length
  ·have hcx := HX.out k hlt; have HS := Lib.hid (odds_snoc l k hlt); have HT := Lib.hid (odds_take l k hlt); have G := Lib.hid (odd_b l[k]); generalize l[k] = x at *
   cases ho : odd x with
   | true =>
    rw [ho] at G
    go_wp2_with (go_at_call 71; refine (G.out _).mono ?_; rintro e w1 ⟨rfl, rfl⟩)
    go_ret; exact ⟨⟨_, rfl, by rw [HT.out ho]; exact qj (by omega)⟩, rfl⟩
   | false =>
    rw [ho] at G; have HO2 := Lib.hid ho; clear ho
    go_wp2_with (go_at_call 71; refine (G.out _).mono ?_; rintro e w1 ⟨rfl, rfl⟩)
    go_round
    case rel => exact ⟨k + 1, by omega, by go_num, ⟨by rw [HS.out, HO.out, HO2.out]; rfl⟩⟩
    case measure => simp [intOf]; omega
  ·obtain rfl : k = l.length := by omega
   rw [List.take_length] at HO; go_wp2; go_ret; exact ⟨⟨_, rfl, by rw [HO.out]; rfl⟩, rfl⟩
theorem idx_nil_b (A : Option Addr) (c : Nat) (w : World) : Calls Tryz.prog 90 #[.slice A 0 c, .func (.func 71) #[] #[]] w fun e w' => e = .returned (.int .i64 (-1)) ∧ w' = w := by
 go_enter Tryz.func90, Tryz.ntmps90
 go_wp2
 go_loop [8] (fun iv => iv = .int .i64 0) (fun _ => 0)
 case atStart => rfl
 case round =>
  obtain rfl := hrel; go_wp2; go_ret; exact ⟨rfl, rfl⟩
set_option maxRecDepth 100000 in
theorem has_b (A : Option Addr) (c : Nat) (l : List ByteArray) (w : World) (hr : Kd.C Kd.string w A l.length l) (hn : l.length ≤ 1000000) :
  Calls Tryz.prog 70 #[.slice A l.length c, .func (.func 71) #[] #[]] w fun e w' => e = .returned (.bool (odds l)) ∧ w' = w := by
 by_cases h0 : 0 < l.length
 ·obtain ⟨ad, rfl, hx⟩ := str_at hr h0; have H := Lib.hid (idx_b ad c l w hn hx); clear hx hr h0 hn; generalize odds l = b at *
  go_enter Tryz.func70, Tryz.ntmps70
  go_wp2_with (go_at_call 90; refine (H.out).mono ?_; rintro e w1 ⟨⟨i, rfl, hi⟩, rfl⟩; have HI := Lib.hid hi; clear hi)
  all_goals go_ret
  all_goals exact ⟨by rw [← HI.out]; simp, rfl⟩
 ·obtain rfl : l = [] := List.eq_nil_of_length_eq_zero (by omega); have H := Lib.hid (idx_nil_b A c w); clear hr h0 hn
  go_enter Tryz.func70, Tryz.ntmps70
  go_wp2_with (go_at_call 90; refine (H.out).mono ?_; rintro e w1 ⟨rfl, rfl⟩)
  go_ret; exact ⟨rfl, rfl⟩
end Go.Proofs.YtolbhliepkcihaaGreatDoor.Lab
end
section
namespace Go.Proofs.YtolbhliepkcihaaGreatDoor.Lab
open Go.RowKit YtolbhliepkcihaaGreatDoorW.PrintWords YtolbhliepkcihaaGreatDoorW.PrintLast YtolbhliepkcihaaGreatDoorW.PrintMore Kinds Build Sha Mac Codec Tower
end Go.Proofs.YtolbhliepkcihaaGreatDoor.Lab
namespace Go.Proofs.YtolbhliepkcihaaGreatDoor
open Go.RowKit YtolbhliepkcihaaGreatDoorW.PrintWords Kinds Lab Build Sha Mac
end Go.Proofs.YtolbhliepkcihaaGreatDoor
end
section

end
section
namespace Go.Proofs.YtolbhliepkcihaaGreatDoor.Lab
open Go.RowKit YtolbhliepkcihaaGreatDoorW.PrintWords YtolbhliepkcihaaGreatDoorW.PrintLast YtolbhliepkcihaaGreatDoorW.PrintMore Kinds Build Sha Mac Codec Tower
def segF (P : Nat → Bool) : Nat → Nat → Nat → List (Nat × Nat)
 | 0, k, f => [(f, k)]
 | d + 1, k, f => if P k = true then (f, k) :: segF P d (k + 1) k else segF P d (k + 1) f
theorem seg_len (P : Nat → Bool) : ∀ d k f, (segF P d k f).length ≤ d + 1
 | 0, k, f => Nat.le_refl 1
 | d + 1, k, f => by
  rw [segF]
  split
  ·have := seg_len P d (k + 1) k; rw [List.length_cons]; omega
  ·have := seg_len P d (k + 1) f; omega
def cutL (l : List ByteArray) (s : Nat × Nat) : List ByteArray := (l.take s.2).drop s.1
theorem seg_cut (now : Nat) (hs : List Nat) (l : List ByteArray) (hl : hs.length = l.length) (P : Nat → Bool) (hP : ∀ k, (h : k < hs.length) → 1 ≤ k → P k = decide (now < hs[k])) : ∀ d k f, k + d = l.length → f ≤ k → 1 ≤ k →
  (segF P d k f).map (cutL l) = ((l.take k).drop f ++ (cutG now (hs.drop k) (l.drop k)).1) :: (cutG now (hs.drop k) (l.drop k)).2
 | 0, k, f, h1, h2, h3 => by
  obtain rfl : k = l.length := by omega
  rw [List.drop_eq_nil_of_le (Nat.le_refl _), List.drop_eq_nil_of_le (show hs.length ≤ l.length by omega)]
  show [cutL l (f, l.length)] = [(l.take l.length).drop f ++ []]
  rw [List.append_nil]; rfl
 | d + 1, k, f, h1, h2, h3 => by
  have hk : k < l.length := by omega
  have hk2 : k < hs.length := by omega
  have e1 : (l.take (k + 1)).drop k = [l[k]] := by rw [List.take_succ_eq_append_getElem hk, List.drop_append_of_le_length (by rw [qw]; omega), List.drop_eq_nil_of_le (by rw [qw]; omega)]; rfl
  have e2 : (l.take (k + 1)).drop f = (l.take k).drop f ++ [l[k]] := by rw [List.take_succ_eq_append_getElem hk, List.drop_append_of_le_length (by rw [qw]; omega)]
  rw [List.drop_eq_getElem_cons hk, List.drop_eq_getElem_cons hk2, segF, hP k hk2 h3, cutG]
  by_cases c : now < hs[k]
  ·rw [if_pos (qj c), if_pos c, List.map_cons, seg_cut now hs l hl P hP d (k + 1) k (by omega) (by omega) (by omega), e1, List.append_nil]; rfl
  ·rw [if_neg (by simpa using c), if_neg c, seg_cut now hs l hl P hP d (k + 1) f (by omega) (by omega) (by omega), e2, List.append_assoc]; rfl
def segs (now : Nat) (hs : List Nat) : List (Nat × Nat) := segF (fun k => decide (0 < k) && decide (now < hs.getD k 0)) hs.length 0 0
theorem segs_cut (now : Nat) (h : Nat) (hs : List Nat) (y : ByteArray) (l : List ByteArray) (hl : hs.length = l.length) :
  (segs now (h :: hs)).map (cutL (y :: l)) = (y :: (cutG now hs l).1) :: (cutG now hs l).2 := by
 have e := seg_cut now (h :: hs) (y :: l) (by simp [hl]) (fun k => decide (0 < k) && decide (now < (h :: hs).getD k 0)) (fun k hk h1 => by
  show (decide (0 < k) && _) = _
  rw [qj (show 0 < k by omega), Bool.true_and, List.getD_eq_getElem?_getD, List.getElem?_eq_getElem hk]
  rfl) l.length 1 0 (by simp; omega) (by omega) (Nat.le_refl _)
 unfold segs; rw [List.length_cons, hl, segF, if_neg (by simp)]; exact e
theorem groups_row (lv : Nat) (y : E) (r : List E) (hy : lv + 1 < y.h) :
  (segs (lv + 1) (hts lv (y :: r))).map (fun s => sumS (joinT (lv + 1) (cutL (rowF (lab lv) lv (y :: r)) s))) = rowF (lab (lv + 1)) (lv + 1) (y :: r) := by
 obtain ⟨h1, h2⟩ := cutG_row lv r
 have eh : hts lv (y :: r) = y.h :: hts lv r := by unfold hts; rw [List.map_cons, List.filter_cons_of_pos (by simp; omega)]
 have er : rowF (lab lv) lv (y :: r) = lab lv (y :: r) :: rowF (lab lv) lv r := by rw [rowF, if_pos (by omega)]
 have er2 : rowF (lab (lv + 1)) (lv + 1) (y :: r) = lab (lv + 1) (y :: r) :: rowF (lab (lv + 1)) (lv + 1) r := by rw [rowF, if_pos hy]
 have e := segs_cut (lv + 1) y.h (hts lv r) (lab lv (y :: r)) (rowF (lab lv) lv r) (hts_len lv r); rw [eh, er, er2, show (fun s => sumS (joinT (lv + 1) (cutL (lab lv (y :: r) :: rowF (lab lv) lv r) s))) = (fun g => sumS (joinT (lv + 1) g)) ∘ cutL (lab lv (y :: r) :: rowF (lab lv) lv r) from rfl, ← List.map_map, e, List.map_cons, h2]
 have h3 : (cutG (lv + 1) (hts lv r) (rowF (lab lv) lv r)).1 = more (lab lv) lv r := by rw [h1]
 rw [h3]; rfl
theorem own_bel {w w' : World} {base n : Nat} {e : TypeId} {size : Nat} {v : Value} {xs : List Value} (h : w.ownsRow base e size v n xs) (hb : Below w.heap.size w w') : w'.ownsRow base e size v n xs := h.kept (row := none) (below_grows hb none (Nat.le_refl _)) (by cases v.ownBlock <;> simp)
/-! ### the walk -/
def segV (g c : Nat) (s : Nat × Nat) : Value := .slice (some ⟨g, s.1, none⟩) (s.2 - s.1) (c - s.1)
theorem str_info : (Tryz.prog.info? 9).map (fun i => (i.zero, i.size, i.bytes)) = some (some (.string ⟨#[]⟩), 1, 16) := by kernel_rfl
theorem add_at (g f : Nat) : (⟨g, 0, none⟩ : Addr).add (f * 1) = ⟨g, f, none⟩ := by unfold Addr.add; split <;> simp_all
theorem cut_lh (g n c f k : Nat) (hfk : f ≤ k) (hk : k ≤ n) (hc : n ≤ c) (hcf : ¬c = f) : ∀ W : World, (Instr.slice 47 (.slice (some ⟨g, 0, none⟩) n c) (some (.int .i64 (f : Int))) (some (.int .i64 (k : Int))) none).run Tryz.prog W = .ok (.slice (some ⟨g, f, none⟩) (k - f) (c - f)) W := by
 obtain ⟨i0, hi, _, hs, _⟩ := info_parts str_info; intro W; rw [cut_mid (P := Tryz.prog) 47 9 .i64 .i64 Tryz.underlying47 hi 1 hs (some ⟨g, 0, none⟩) n c f k (by omega) (by omega) (by omega) hc W, Int.toNat_natCast, Int.toNat_natCast, if_neg hcf]; simp only [Option.map_some, add_at]
theorem cut_l (g n c f : Nat) (hf : f ≤ n) (hcf : ¬c = f) : ∀ W : World, (Instr.slice 47 (.slice (some ⟨g, 0, none⟩) n c) (some (.int .i64 (f : Int))) none none).run Tryz.prog W = .ok (.slice (some ⟨g, f, none⟩) (n - f) (c - f)) W := by
 obtain ⟨i0, hi, _, hs, _⟩ := info_parts str_info; intro W; rw [cut_from (P := Tryz.prog) 47 9 .i64 Tryz.underlying47 hi 1 hs (some ⟨g, 0, none⟩) n c f (by omega) (by omega) W, Int.toNat_natCast, if_neg hcf]; simp only [Option.map_some, add_at]
theorem strs_info : (Tryz.prog.info? 47).map (fun i => (i.zero, i.size, i.bytes)) = some (some (.slice none 0 0), 1, 24) := by kernel_rfl
set_option maxRecDepth 100000 in
set_option maxHeartbeats 4000000 in
theorem groups_walk (g c n : Nat) (P : Nat → Bool) (fv : FuncId) (lb : Array Value) (w : World) (hn : n ≤ 100000) (hc : n ≤ c) (hn0 : 0 < n) (hfv : fv = 49) (q8 q11 : Addr) (hlb : lb = #[.pointer (some q8), .pointer (some q11)])
  (hP : ∀ (i : Nat) (W : World), 0 < i → i < n → Below w.heap.size w W → Calls Tryz.prog 49 #[.int .i64 (i : Int), .pointer (some q8), .pointer (some q11)] W fun e w' => e = .returned (.bool (P i)) ∧ Below W.heap.size W w') :
  Calls Tryz.prog 50 #[.slice (some ⟨g, 0, none⟩) n c, .func (.func fv) #[] lb] w fun e w' => ∃ v, e = .returned v ∧ w'.ownsRow w.heap.size 47 1 v (segF (fun k => decide (0 < k) && P k) n 0 0).length ((segF (fun k => decide (0 < k) && P k) n 0 0).map (segV g c)) ∧ Below w.heap.size w w' := by
 subst hfv hlb; obtain ⟨i0, hi, hz0, hz1, hz2⟩ := info_parts strs_info; have HP := Lib.hid hP; have HC := qf hc; clear hP
 obtain ⟨S, hS⟩ : ∃ S, segF (fun k => decide (0 < k) && P k) n 0 0 = S := ⟨_, rfl⟩
 have HL := qf (hS ▸ seg_len (fun k => decide (0 < k) && P k) n 0 0); have HS := Lib.hid hS; rw [hS]; clear hS
 go_enter Tryz.func50, Tryz.ntmps50
 go_wp2
 go_loopw [5, 6, 10] (fun ov fv iv wr => ∃ (k f : Nat) (o : List (Nat × Nat)), k ≤ n ∧ f ≤ k ∧ iv = .int .i64 k ∧ fv = .int .i64 f ∧ Aside0 (wr.ownsRow w.heap.size 47 1 ov o.length (o.map (segV g c))) ∧ Hid (o ++ segF (fun k => decide (0 < k) && P k) (n - k) k f = S) ∧ Aside0 (Below w.heap.size w wr) ∧ (k = 0 → f = 0) ∧ (0 < k → f < n)) (fun _ _ iv _ => n - (intOf iv).toNat)
 case atStart => exact ⟨0, 0, [], Nat.zero_le _, Nat.le_refl _, rfl, rfl, ⟨World.ownsRow_nil _ _ _ _⟩, HS, ⟨Below.refl _ _⟩, fun _ => rfl, fun h => absurd h (by omega)⟩
 case round =>
  obtain ⟨k, f, o, hk, hf, rfl, rfl, HR, HE, HB, hf0, hfn⟩ := hrel
  by_cases hlt : k < n
  ·obtain ⟨d, hd⟩ : ∃ d, n - k = d + 1 := ⟨n - k - 1, by omega⟩
   have hd1 : n - (k + 1) = d := by omega
   have hE := HE.out; rw [hd, segF] at hE
   by_cases hk0 : k = 0
   ·subst hk0; obtain rfl := hf0 rfl; rw [if_neg (by simp), ← hd1] at hE; have HE2 := Lib.hid hE; clear hE hd hd1 HE; go_wp2
    go_roundw
    case rel => exact ⟨1, 0, o, by omega, by omega, by go_num, rfl, HR, HE2, HB, fun h => absurd h (by omega), fun _ => hn0⟩
    case measure => simp [intOf]; omega
   ·have hkp : 0 < k := by omega
    have hd0 : decide ((0 : Int) < (k : Int)) = true := qj (by omega); have hd2 := qj hkp; have G := Lib.hid (HP.out k wr hkp hlt HB.out); rw [hd2, Bool.true_and, ← hd1] at hE; have hfl := hfn hkp; clear hd hd1 HE
    cases hp : P k with
    | false =>
     rw [hp] at G; rw [hp, if_neg (by decide)] at hE; have HE2 := Lib.hid hE; clear hE hp
     go_wp2_with (go_at_call 49; refine (G.out).mono ?_; rintro e w1 ⟨rfl, hb1⟩)
     go_roundw
     case rel => exact ⟨k + 1, f, o, by omega, by omega, by go_num, rfl, ⟨own_bel HR.out hb1⟩, HE2, ⟨below_step HB.out hb1⟩, fun h => absurd h (by omega), fun _ => hfl⟩
     case measure => simp [intOf]; omega
    | true =>
     rw [hp] at G; rw [hp, if_pos rfl] at hE
     have hol : o.length < n + 1 := by
      have h1 := congrArg List.length hE; rw [List.length_append, List.length_cons] at h1; have := HL.out
      omega
     have HE2 : Hid ((o ++ [(f, k)]) ++ segF (fun k => decide (0 < k) && P k) (n - (k + 1)) (k + 1) k = S) := Lib.hid (by rw [List.append_assoc]; exact hE); have HOL := qf hol; have HF := qf hf
     have hcl : k ≤ c := by have := HC.out; omega
     have hcf : ¬c = f := by have := HC.out; omega
     have hcut := cut_lh g n c f k hf (by omega) HC.out hcf
     have hb1 : o.length + 1 ≤ maxLen := by simp only [maxLen]; omega
     have hb2 : (o.length + 1) * 24 ≤ 140737488355328 := by omega
     clear hE hp hol hf hcl
     go_wp2_with (first | (go_at_call 49; refine (G.out).mono ?_; rintro e w1 ⟨rfl, hbb⟩; replace HR := qf (own_bel HR.out hbb); replace HB := qf (below_step HB.out hbb); clear hbb) | (at_builtin; refine wpList_append_own _ rfl _ _ 24 rfl w.heap.size 47 i0 (.slice none 0 0) 1 24 Tryz.underlying24 hi hz0 hz1 hz2 rfl (by decide) _ _ _ rfl (HR.out.alloc _) ⟨w1.heap.size, 0, none⟩ 1 1 [segV g c (f, k)] rfl rfl (cell_one_new _ _ _) (by simp [Value.oneCell', segV]) hb1 hb2 (by have := HB.out.size; simp; omega) ?_; intro v' w2 hown' hgrow _))
     go_roundw
     case rel =>
      refine ⟨k + 1, k, o ++ [(f, k)], by omega, by omega, by go_num, rfl, ⟨?_⟩, HE2, ⟨?_⟩, fun h => absurd h (by omega), fun _ => by omega⟩
      ·rw [List.length_append, List.length_singleton, List.map_append]; exact hown'
      ·exact ((HB.out.alloc HB.out.size _).grown hgrow (by have := HB.out.size; simp; omega) (fun q e => own_base HR.out q e))
     case measure => simp [intOf]; omega
  ·obtain rfl : k = n := by omega
   have hE := HE.out; rw [Nat.sub_self, segF] at hE; have hfl := hfn hn0
   have hol : o.length < k + 1 := by
    have h1 := congrArg List.length hE; rw [List.length_append, List.length_singleton] at h1; have := HL.out
    omega
   have HE2 := Lib.hid hE
   have hcf : ¬c = f := by have := HC.out; omega
   have hcut := cut_l g k c f hf hcf
   have hb1 : o.length + 1 ≤ maxLen := by simp only [maxLen]; omega
   have hb2 : (o.length + 1) * 24 ≤ 140737488355328 := by omega
   clear hE HE hf hfl hol HL HS hk hlt hfn hf0
   go_wp2_with (first | (at_builtin; refine wpList_append_own _ rfl _ _ 24 rfl w.heap.size 47 i0 (.slice none 0 0) 1 24 Tryz.underlying24 hi hz0 hz1 hz2 rfl (by decide) _ _ _ rfl (HR.out.alloc _) ⟨wr.heap.size, 0, none⟩ 1 1 [segV g c (f, k)] rfl rfl (cell_one_new _ _ _) (by simp [Value.oneCell', segV]) hb1 hb2 (by have := HB.out.size; simp; omega) ?_; intro v' w1 hown' hgrow _))
   go_ret; refine ⟨v', by simp, ?_, (HB.out.alloc HB.out.size _).grown hgrow (by have := HB.out.size; simp; omega) (fun q e => own_base HR.out q e)⟩; rw [← HE2.out, List.length_append, List.length_singleton, List.map_append]; exact hown'
end Go.Proofs.YtolbhliepkcihaaGreatDoor.Lab
end
section
namespace Go.Proofs.YtolbhliepkcihaaGreatDoor.Lab
open Go.RowKit Go.Shelf Go.Lib Go.Sort YtolbhliepkcihaaGreatDoorW.PrintWords Kinds Build Tower
theorem begins_walk (q8 q11 : Addr) (gh ch n : Nat) (now : Int) (i : Nat) (x : Int) (W : World) (h8 : W.cell? q8 = some (.slice (some ⟨gh, 0, none⟩) n ch)) (h11 : W.cell? q11 = some (.int .i64 now)) (hx : W.cell? ⟨gh, i, none⟩ = some (.int .i64 x)) (hi : i < n) :
  Calls Tryz.prog 49 #[.int .i64 (i : Int), .pointer (some q8), .pointer (some q11)] W fun e w' => e = .returned (.bool (decide (now < x))) ∧ Below W.heap.size W w' := by
 have p0 : (0 : Int) ≤ (i : Int) := by omega
 have p1 : (i : Int) < (n : Int) := by omega
 go_enter Tryz.func49, Tryz.ntmps49
 go_wp2
 go_quiet (fail)
 go_wp2; go_ret; exact ⟨rfl, qb (Below.refl _ _) _⟩
theorem row2_walk (q11 : Addr) (now : Int) (x : Int) (W : World) (h11 : W.cell? q11 = some (.int .i64 now)) :
  FnGives Tryz.prog 52 #[.pointer (some q11)] #[.int .i64 x] (.bool (decide (x ≤ now))) W := by
 show Calls Tryz.prog 52 #[.int .i64 x, .pointer (some q11)] W _
 go_enter Tryz.func52, Tryz.ntmps52
 go_wp2
 all_goals (go_ret; exact ⟨by simp_all, 0, rfl⟩)
theorem row2_at (q11 : Addr) (now : Int) (w : World) (h11 : w.cell? q11 = some (.int .i64 now)) :
  PredAt Tryz.prog 52 #[.pointer (some q11)] (Value.int .i64) (fun x => decide (x ≤ now)) w :=
 fun W x hb => row2_walk q11 now x W ((hb.cell (qd _ _ h11)).trans h11)
theorem row2_over (q11 : Addr) (now : Int) (blk off size : Nat) (w : World) (hne : q11.block ≠ blk) (h11 : w.cell? q11 = some (.int .i64 now)) :
  PredOver Tryz.prog 52 #[.pointer (some q11)] (Value.int .i64) (fun x => decide (x ≤ now)) blk off size w :=
 fun n os dk x _ => row2_walk q11 now x _ (by
  have hB := qd _ _ h11; unfold sortWorld; rw [cell?_grow _ _ _ (by show q11.block < (putRow _ _ _ _ _).heap.size; rw [size_putRow]; exact hB), cell?_putRow_other _ _ blk off _ _ (Or.inl hne)]
  exact h11)
theorem del_any (g cap base : Nat) (hs : List Int) (now : Int) (q11 : Addr) (w : World) (hown : w.ownsRow base 3 1 (.slice (some ⟨g, 0, none⟩) hs.length cap) hs.length (hs.map (Value.int .i64)))
  (h11 : w.cell? q11 = some (.int .i64 now)) (hne : q11.block ≠ g) (hn : hs.length ≤ 1000000) :
  Calls Tryz.prog 19 #[.slice (some ⟨g, 0, none⟩) hs.length cap, .func (.func 52) #[] #[.pointer (some q11)]] w fun e w' =>
   e = .returned (.slice (some ⟨g, 0, none⟩) (hs.filter fun x => !decide (x ≤ now)).length cap) ∧ w'.ownsRow base 3 1 (.slice (some ⟨g, 0, none⟩) (hs.filter fun x => !decide (x ≤ now)).length cap) (hs.filter fun x => !decide (x ≤ now)).length ((hs.filter fun x => !decide (x ≤ now)).map (Value.int .i64)) ∧ w.grownBy w' (some g) := by
 obtain ⟨hlen, hor⟩ := hown
 rcases hor with ⟨he, _⟩ | ⟨g', cap', cur, hv, hbase, hb, hnc, hcm, hsz, htk⟩
 ·cases he
 ·injection hv with e1 _ e3
  injection e1 with e1
  injection e1 with e1 _ _
  subst e1 e3; rw [Nat.mul_one] at htk hsz; have hH := holds_of_blockI hb htk
  have eg : ∀ args w, (callFunc 52 args).run Tryz.prog w = .ok (.enter 52 args) w := enters_of Tryz.func52 (by kernel_rfl) rfl
  have h := Tryz.slices_DeleteFunc (Value.int .i64) (fun _ => rfl) (fun x => decide (x ≤ now)) 52 #[.pointer (some q11)] eg (0 : Int) Tryz.zeroValue3 g 0 cap hs.toArray w (row2_at q11 now w h11) (row2_over q11 now g 0 _ w hne h11) hH (by simp; omega) (by simpa using hnc); rw [show hs.toArray.size = hs.length from by simp] at h; refine h.mono ?_
  rintro e w' ⟨rfl, q, rfl⟩
  obtain ⟨r, hr⟩ : ∃ r, (hs.filter fun x => !decide (x ≤ now)) = r := ⟨_, rfl⟩
  have hrl : r.length ≤ hs.length := by rw [← hr]; exact List.length_filter_le _ _
  have hl : hs.toArray.toList = hs := by simp
  simp only [hr]
  have hD : (r ++ List.replicate (hs.length - r.length) (0 : Int)).length = hs.length := by rw [List.length_append, List.length_replicate]; omega
  have hg := grownBy_sortedI (w := w) (g := g) (n := q) (os := #[]) (r ++ List.replicate (hs.length - r.length) (0 : Int)).toArray; rw [grow_empty] at hg; have ht := take_putCellsI cur (r ++ List.replicate (hs.length - r.length) (0 : Int)) (by rw [hD]; omega); refine ⟨trivial, ⟨by simp, .inr ⟨g, cap, putCells (Value.int .i64) 0 (r ++ List.replicate (hs.length - r.length) (0 : Int)).toArray cur, rfl, hbase, ?_, by omega, hcm, by rw [Nat.mul_one]; simp [putCells, hsz], ?_⟩⟩, hg⟩
  ·show (mapBlock (Sort.ahead w q) g _).heap[g]? = _
   unfold mapBlock; rw [Array.getElem?_modify, if_pos rfl]
   show (w.heap[g]?).map _ = _
   rw [hb]; rfl
  ·rw [hD] at ht; rw [Nat.mul_one]; have h2 := congrArg (List.take r.length) ht; rw [List.take_take, Nat.min_eq_left hrl, List.map_append, List.take_append_of_le_length (by rw [List.length_map]; exact Nat.le_refl _), show (r.map (Value.int .i64)).take r.length = r.map (Value.int .i64) from List.take_of_length_le (by rw [List.length_map]; exact Nat.le_refl _)] at h2; exact h2
end Go.Proofs.YtolbhliepkcihaaGreatDoor.Lab
end
section
namespace Go.Proofs.YtolbhliepkcihaaGreatDoor.Lab
open Go.RowKit YtolbhliepkcihaaGreatDoorW.PrintWords YtolbhliepkcihaaGreatDoorW.PrintLast Kinds Build Sha Mac Codec Tower Mem
def strV (l : List ByteArray) : List Value := l.map Value.string
def intV (l : List Int) : List Value := l.map (Value.int .i64)
def labs0 (key : ByteArray) (l : List It) : List ByteArray := (ents key l).map fun e => sumS e.t
def hts0 (key : ByteArray) (l : List It) : List Int := (ents key l).map fun e => (e.h : Int)
theorem int_info : (Tryz.prog.info? 3).map (fun i => (i.zero, i.size, i.bytes)) = some (some (.int .i64 0), 1, 8) := by kernel_rfl
theorem labs_len (key : ByteArray) (l : List It) : (labs0 key l).length = l.length + 1 := by unfold labs0 ents; simp
theorem hts_len0 (key : ByteArray) (l : List It) : (hts0 key l).length = l.length + 1 := by unfold hts0 ents; simp
theorem labs_take (key : ByteArray) (l : List It) (k : Nat) (h : k < l.length) : strV ((labs0 key l).take (k + 2)) = strV ((labs0 key l).take (k + 1)) ++ [.string (sumS (itemT l[k]))] := by
 have hl := labs_len key l; rw [show k + 2 = k + 1 + 1 from rfl, List.take_succ_eq_append_getElem (by omega)]; unfold strV; rw [List.map_append]
 congr 1
 simp [labs0, ents, ent]
theorem hts_take (key : ByteArray) (l : List It) (k : Nat) (h : k < l.length) : intV ((hts0 key l).take (k + 2)) = intV ((hts0 key l).take (k + 1)) ++ [.int .i64 ((heightN key l[k].f0.toNat : Nat) : Int)] := by
 have hl := hts_len0 key l; rw [show k + 2 = k + 1 + 1 from rfl, List.take_succ_eq_append_getElem (by omega)]; unfold intV; rw [List.map_append]
 congr 1
 simp [hts0, ents, ent]
theorem own_of_blk {W : World} {g base : Nat} {t : TypeId} {v : Value} (h : Blk W g t #[v]) (hb : base ≤ g) : W.ownsRow base t 1 (.slice (some ⟨g, 0, none⟩) 1 1) 1 [v] :=
 ⟨rfl, .inr ⟨g, 1, #[v], rfl, hb, h, Nat.le_refl _, by unfold maxLen; decide, rfl, rfl⟩⟩
theorem own_succ3 {W : World} {base : Nat} {e : TypeId} {size : Nat} {v : Value} {k : Nat} {xs : List Value} (h : W.ownsRow base e size v (k + 1) xs) : ∃ g cap, v = .slice (some ⟨g, 0, none⟩) (k + 1) cap ∧ k + 1 ≤ cap := by
 rcases h.2 with ⟨_, h0⟩ | ⟨g, cap, cur, rfl, _, _, hc, _⟩
 ·omega
 ·exact ⟨g, cap, rfl, hc⟩
theorem bel_grown {W w5 : World} {row : Option Nat} {B : Nat} {w : World} (hb : Below B w W) (hg : W.grownBy w5 row) (hB : B ≤ W.heap.size) (hr : ∀ k, row = some k → B ≤ k) : Below B w w5 := hb.grown hg hB hr
theorem blk_grown {W w5 : World} {row : Option Nat} {g : Nat} {t : TypeId} {cs : Array Value} (h : Blk W g t cs) (hg : W.grownBy w5 row) (hr : row ≠ some g) : Blk w5 g t cs := (hg.block g h.lt (fun e => hr e.symm)).trans h
theorem own_ne {w : World} {base : Nat} {e : TypeId} {size n : Nat} {v : Value} {xs : List Value} {g : Nat} {t : TypeId} {cs : Array Value} (h : w.ownsRow base e size v n xs) (hg : Blk w g t cs) (hne : e ≠ t) : v.ownBlock ≠ some g := by
 rcases h.2 with ⟨rfl, _⟩ | ⟨g', cap, cur, rfl, _, hh, _⟩
 ·simp [Value.ownBlock]
 ·intro he
  have : g' = g := by simpa [Value.ownBlock] using he
  subst this; unfold Blk at hg; rw [hh] at hg
  injection hg with hg
  injection hg with _ ht
  exact hne ht
theorem own_drew {w : World} {base n : Nat} {e : TypeId} {size : Nat} {v : Value} {xs : List Value} (h : w.ownsRow base e size v n xs) : w.drew.ownsRow base e size v n xs := h
theorem blk_bel {W w5 : World} {g : Nat} {t : TypeId} {cs : Array Value} (h : Blk W g t cs) (hb : Below W.heap.size W w5) : Blk w5 g t cs := h.below hb h.lt
theorem blk_one {W : World} {g : Nat} {t : TypeId} {v : Value} (h : Blk W g t #[v]) : ∀ (j : Nat) (u : Value), [v][j]? = some u → W.cell? ((⟨g, 0, none⟩ : Addr).add j) = some u := by
 intro j u hj
 cases j with
 | zero =>
  obtain rfl := Option.some.inj hj; rw [add0]; exact h.cell 0
 | succ j => simp at hj
theorem step_own {P : Program} {ops : Array Oper} {o : Oper} {a : Act} {w : World} {K : Act → World → Prop} {Q : Exit → Act → World → Prop} {E : Prop}
  (hg : o.guard = none) (s x : Operand) (t : TypeId) (hop : o.op = Op.call { callee := Callee.builtin Builtin.append, args := #[s, x], argTypes := #[t, t] })
  (base : Nat) (e : TypeId) (i : TypeInfo) (z : Value) (size bytes : Nat) (h1 : P.underlying t = some (.slice e)) (h2 : P.info? e = some i) (h3 : i.zero = some z) (h4 : i.size = size) (h5 : i.bytes = bytes) (h6 : z.cells.size = size) (h7 : 0 < size)
  (v : Value) (n : Nat) (xs : List Value) (hs : a.eval s = v) (hown : w.ownsRow base e size v n xs)
  (ad : Addr) (m c : Nat) (news : List Value) (hx : a.eval x = .slice (some ad) m c) (hn : news.length = m * size) (hc : ∀ j u, news[j]? = some u → w.cell? (ad.add j) = some u) (h1c : ∀ u ∈ news, u.oneCell' = true)
  (b1 : n + m ≤ maxLen) (b2 : (n + m) * bytes ≤ 140737488355328) (hbase : base ≤ w.heap.size)
  (hK : ∀ v' w', w'.ownsRow base e size v' (n + m) (xs ++ news) → w.grownBy w' v.ownBlock → K (a.put o.dst v') w') :
  if Region.wanted o (yielded ops a.tmps) = true then Oper.wp P o a w K Q else E := by
 have hw : Region.wanted o (yielded ops a.tmps) = true := by simp [Region.wanted, hg]
 rw [if_pos hw]; obtain ⟨v', w', hrun, r1, r2, _⟩ := run_append_own (P := P) w base t o.type e i z size bytes h1 h2 h3 h4 h5 h6 h7 v n xs hown ad m c news hn hc h1c b1 b2 hbase; unfold Oper.wp; simp [execOp, hop, resolve, invoke, builtin, hs, hx, hrun, Result.andThen]; exact hK v' w' r1 r2
theorem own_ne2 {w : World} {b1 b2 : Nat} {e1 e2 : TypeId} {s1 s2 n1 n2 : Nat} {v1 v2 : Value} {x1 x2 : List Value} (h1 : w.ownsRow b1 e1 s1 v1 n1 x1) (h2 : w.ownsRow b2 e2 s2 v2 n2 x2) (hne : e1 ≠ e2) : v1.ownBlock = none ∨ v1.ownBlock ≠ v2.ownBlock := by
 rcases h1.2 with ⟨rfl, _⟩ | ⟨g, cap, cur, rfl, _, hh, _⟩
 ·exact .inl rfl
 ·refine .inr fun he => ?_
  exact own_ne h2 (show Blk w g e1 cur from hh) (Ne.symm hne) he.symm
theorem set_grown (w : World) (b : Nat) (u : Value) : w.grownBy (w.setCell ⟨b, 0, none⟩ u) (some b) :=
 ⟨rfl, rfl, rfl, by simp, fun k _ hk => heap_setCell_other w ⟨b, 0, none⟩ k u (fun e => hk (by simp [e]))⟩
theorem own_set {w : World} {base n : Nat} {e : TypeId} {size : Nat} {v : Value} {xs : List Value} (h : w.ownsRow base e size v n xs) {G : Nat} (hne : v.ownBlock ≠ some G) (u : Value) : (w.setCell ⟨G, 0, none⟩ u).ownsRow base e size v n xs :=
 h.kept (set_grown w G u) (.inr hne)
theorem blk_ne {w : World} {g G : Nat} {t T : TypeId} {cs Cs : Array Value} (h : Blk w g t cs) (h2 : Blk w G T Cs) (hne : t ≠ T) : g ≠ G := by
 rintro rfl
 unfold Blk at h h2; rw [h] at h2
 injection h2 with h2
 injection h2 with _ ht
 exact hne ht
theorem own_le {w : World} {base base' n : Nat} {e : TypeId} {size : Nat} {v : Value} {xs : List Value} (h : w.ownsRow base e size v n xs) (hb : base' ≤ base) : w.ownsRow base' e size v n xs := by
 obtain ⟨h1, h2⟩ := h; refine ⟨h1, ?_⟩
 rcases h2 with h2 | ⟨g, cap, cur, rfl, hg, r⟩
 ·exact .inl h2
 ·exact .inr ⟨g, cap, cur, rfl, by omega, r⟩
theorem own_fresh {w : World} {base n : Nat} {e : TypeId} {size : Nat} {v : Value} {xs : List Value} (h : w.ownsRow base e size v n xs) : v.ownBlock ≠ some w.heap.size := fun e => by have := (h.lt _ e).2; omega
theorem row_take (es : List E) (m : Nat) (i : Nat) (h : i < (rowF (lab m) m es).length) : strV ((rowF (lab m) m es).take (i + 1)) = strV ((rowF (lab m) m es).take i) ++ [.string (rowF (lab m) m es)[i]] := by
 rw [List.take_succ_eq_append_getElem h]; unfold strV; rw [List.map_append]; rfl
theorem row_size (lv : Nat) : ∀ s : List E, ∀ x, x ∈ rowF (lab lv) lv s → x.size = 32
 | [], x, h => by cases h
 | y :: r, x, h => by
  rw [rowF] at h
  split at h
  ·rcases List.mem_cons.1 h with rfl | h
   ·exact lab_size lv y r
   ·exact row_size lv r x h
  ·exact row_size lv r x h
theorem row_len (lv : Nat) : ∀ s : List E, (rowF (lab lv) lv s).length ≤ s.length
 | [] => Nat.le_refl _
 | y :: r => by
  have := row_len lv r; rw [rowF]
  split <;> simp only [List.length_cons] <;> omega
theorem seg_in (P : Nat → Bool) : ∀ d k f, f ≤ k → ∀ s, s ∈ segF P d k f → s.1 ≤ s.2 ∧ s.2 ≤ k + d
 | 0, k, f, hf, s, h => by
  rw [segF] at h; obtain rfl := List.mem_singleton.1 h; exact ⟨hf, by simp⟩
 | d + 1, k, f, hf, s, h => by
  rw [segF] at h
  split at h
  ·rcases List.mem_cons.1 h with rfl | h
   ·exact ⟨hf, by simp⟩
   ·have := seg_in P d (k + 1) k (by omega) s h
    omega
  ·have := seg_in P d (k + 1) f (by omega) s h
   omega
theorem cut_C {W : World} {base : Nat} {g n cap : Nat} {row : List ByteArray} (h : W.ownsRow base 9 1 (.slice (some ⟨g, 0, none⟩) n cap) n (strV row)) (s : Nat × Nat) (h1 : s.1 ≤ s.2) (h2 : s.2 ≤ n) :
  Kd.C Kd.string W (some ⟨g, s.1, none⟩) (cutL row s).length (cutL row s) := by
 have hl : row.length = n := by have := h.1; unfold strV at this; simpa using this
 have hlen : (cutL row s).length = s.2 - s.1 := by unfold cutL; rw [List.length_drop, qw]; omega
 have hm := hlen; refine ⟨rfl, ?_, fun _ => ⟨_, rfl, fun j p hp => ⟨[.string p], rfl, rfl, fun i u hu => ?_⟩⟩⟩
 ·rcases h.2 with ⟨_, h0⟩ | ⟨g', cap', cur, e1, _, _, q1, q2, _⟩
  ·omega
  ·unfold maxLen at q2; cases e1
   omega
 ·have hj : j < (cutL row s).length := (List.getElem?_eq_some_iff.1 hp).1
  cases i with
  | succ i => simp at hu
  | zero =>
   obtain rfl := Option.some.inj hu
   have hc := h.cells rfl (s.1 + j) (.string p) (by
    unfold strV; rw [List.getElem?_map]; unfold cutL at hp; rw [List.getElem?_drop, List.getElem?_take, if_pos (by omega)] at hp; rw [hp]
    rfl)
   rw [show (⟨g, s.1, none⟩ : Addr).add (j * Kd.string.sz + 0) = (⟨g, 0, none⟩ : Addr).add (s.1 + j) from by
    show (⟨g, s.1, none⟩ : Addr).add (j * 1 + 0) = _
    unfold Addr.add
    by_cases hj0 : j = 0
    ·subst hj0
     by_cases h0 : s.1 = 0
     ·simp [h0]
     ·simp [h0]
    ·simp [hj0]]
   exact hc
theorem cut_size (row : List ByteArray) (hr : ∀ x, x ∈ row → x.size = 32) (s : Nat × Nat) : (catS (cutL row s)).size ≤ 32 * row.length := by
 rw [cat32 (cutL row s) (fun x hx => hr x (List.mem_of_mem_take (List.mem_of_mem_drop hx)))]; unfold cutL; rw [List.length_drop, qw]
 omega
theorem labs_row (key : ByteArray) (l : List It) : labs0 key l = rowF (lab 0) 0 (ents key l) := by
 have : ∀ s : List E, (∀ y, y ∈ s → 0 < y.h) → s.map (fun e => sumS e.t) = rowF (lab 0) 0 s := by
  intro s
  induction s with
  | nil => intro _; rfl
  | cons y r ih =>
   intro h; rw [rowF, if_pos (h y List.mem_cons_self), List.map_cons, ih (fun z hz => h z (List.mem_cons_of_mem _ hz))]; rfl
 refine this _ (fun y hy => ?_); unfold ents at hy
 rcases List.mem_cons.1 hy with rfl | hy
 ·decide
 ·obtain ⟨x, _, rfl⟩ := List.mem_map.1 hy; exact height_lo key _
theorem hts_row0 (key : ByteArray) (l : List It) : hts0 key l = (hts 0 (ents key l)).map (fun h : Nat => (h : Int)) := by
 unfold hts hts0; rw [List.filter_eq_self.2, List.map_map]; (rfl)
 ·intro h hh; obtain ⟨y, hy, rfl⟩ := List.mem_map.1 hh; unfold ents at hy
  rcases List.mem_cons.1 hy with rfl | hy
  ·decide
  ·obtain ⟨x, _, rfl⟩ := List.mem_map.1 hy; exact qj (height_lo key _)
def htI (m : Nat) (s : List E) : List Int := (hts m s).map (fun h : Nat => (h : Int))
theorem htI_up (m : Nat) (s : List E) : (htI m s).filter (fun x => !decide (x ≤ ((m + 1 : Nat) : Int))) = htI (m + 1) s := by
 unfold htI; rw [← hts_up, List.filter_map]
 congr 1
 congr 1
 funext h
 show (!decide ((h : Int) ≤ ((m + 1 : Nat) : Int))) = decide (m + 1 < h)
 by_cases c : m + 1 < h
 ·rw [qj c, decide_eq_false (by omega)]; rfl
 ·rw [decide_eq_false c, qj (by omega)]; rfl
theorem htI_len (m : Nat) (s : List E) : (htI m s).length = (rowF (lab m) m s).length := by unfold htI; rw [List.length_map]; exact hts_len m s
theorem row_head (key : ByteArray) (l : List It) (m : Nat) (hm : m < 9) : 0 < (rowF (lab m) m (ents key l)).length := by
 unfold ents; rw [rowF, if_pos (show m < head.h from hm)]
 simp
theorem row_up (key : ByteArray) (l : List It) (m : Nat) (hm : m + 1 < 9) :
  rowF (lab (m + 1)) (m + 1) (ents key l) = (segs (m + 1) (hts m (ents key l))).map (fun s => sumS (joinT (m + 1) (cutL (rowF (lab m) m (ents key l)) s))) :=
 (groups_row m head (l.map (ent key)) hm).symm
def boxN (W : World) (v : Value) : Nat := match v with
 | .pointer (some a) => match W.cell? a with
  | some u => (intOf u).toNat
  | none => 0
 | _ => 0
theorem boxN_of {W : World} {g n : Nat} {t : TypeId} (h : Blk W g t #[.int .i64 (n : Int)]) : boxN W (.pointer (some ⟨g, 0, none⟩)) = n := by
 unfold boxN; simp only [h.cell 0]
 show (intOf (.int .i64 (n : Int))).toNat = n
 simp [intOf]
theorem htI_at (m : Nat) (es : List E) (i : Nat) (h : i < (rowF (lab m) m es).length) : (intV (htI m es))[i]? = some (.int .i64 (((hts m es).getD i 0 : Nat) : Int)) := by
 have hl := hts_len m es; unfold intV htI; rw [List.getElem?_map, List.getElem?_map, List.getElem?_eq_getElem (by omega), List.getD_eq_getElem?_getD, List.getElem?_eq_getElem (by omega)]; rfl
theorem groups_at (m : Nat) (es : List E) (gl cl gh ch G8 gi base N : Nat) (w : World) (hN : N = (rowF (lab m) m es).length) (hc : N ≤ cl)
  (hh : w.ownsRow base 3 1 (.slice (some ⟨gh, 0, none⟩) N ch) N (intV (htI m es))) (h8 : Blk w G8 36 #[.slice (some ⟨gh, 0, none⟩) N ch]) (hi : Blk w gi 3 #[.int .i64 ((m + 1 : Nat) : Int)]) (h0 : 0 < N) (h1 : N ≤ 1001) :
  Calls Tryz.prog 50 #[.slice (some ⟨gl, 0, none⟩) N cl, .func (.func 49) #[] #[.pointer (some ⟨G8, 0, none⟩), .pointer (some ⟨gi, 0, none⟩)]] w fun e w' =>
   ∃ v, e = .returned v ∧ w'.ownsRow w.heap.size 47 1 v (segs (m + 1) (hts m es)).length ((segs (m + 1) (hts m es)).map (segV gl cl)) ∧ Below w.heap.size w w' := by
 have hs : segs (m + 1) (hts m es) = segF (fun k => decide (0 < k) && decide (m + 1 < (hts m es).getD k 0)) N 0 0 := by
  unfold segs; rw [hts_len, ← hN]
 rw [hs]; refine groups_walk gl cl N (fun k => decide (m + 1 < (hts m es).getD k 0)) _ _ w (by omega) hc h0 rfl ⟨G8, 0, none⟩ ⟨gi, 0, none⟩ rfl (fun i W hi0 hin hb => ?_); refine (begins_walk ⟨G8, 0, none⟩ ⟨gi, 0, none⟩ gh ch N ((m + 1 : Nat) : Int) i (((hts m es).getD i 0 : Nat) : Int) W ((h8.below hb h8.lt).cell 0) ((hi.below hb hi.lt).cell 0) ?_ hin).mono (fun e w' h => ⟨h.1.trans ?_, h.2⟩)
 ·have hx := (own_bel hh hb).cellAt i (by omega); rw [hx]; exact htI_at m es i (by omega)
 ·have : decide (((m + 1 : Nat) : Int) < (((hts m es).getD i 0 : Nat) : Int)) = decide (m + 1 < (hts m es).getD i 0) := decide_eq_decide.2 Int.ofNat_lt; rw [this]
theorem join_at (m : Nat) (hm : m ≤ 8) (es : List E) (gl cl base N : Nat) (w : World) (hN : N = (rowF (lab m) m es).length) (hc : N ≤ cl) (h1 : N ≤ 1001)
  (hl : w.ownsRow base 9 1 (.slice (some ⟨gl, 0, none⟩) N cl) N (strV (rowF (lab m) m es))) (i : Nat) (hi : i < (segs (m + 1) (hts m es)).length) :
  Calls Tryz.prog 51 #[.int .i64 ((m + 1 : Nat) : Int), segV gl cl (segs (m + 1) (hts m es))[i]] w fun e w' =>
   e = .returned (.string (sumS (joinT (m + 1) (cutL (rowF (lab m) m es) (segs (m + 1) (hts m es))[i])))) ∧ Below w.heap.size w w' := by
 have hin : (segs (m + 1) (hts m es))[i].1 ≤ (segs (m + 1) (hts m es))[i].2 ∧ (segs (m + 1) (hts m es))[i].2 ≤ N := by
  have := seg_in _ (hts m es).length 0 0 (Nat.le_refl _) _ (List.getElem_mem hi); rw [hts_len, ← hN] at this
  omega
 generalize (segs (m + 1) (hts m es))[i] = s at *
 have hlen : (cutL (rowF (lab m) m es) s).length = s.2 - s.1 := by unfold cutL; rw [List.length_drop, qw]; omega
 have hz := cut_size (rowF (lab m) m es) (row_size m es) s; have h := join_walk (m + 1) (by omega) (some ⟨gl, s.1, none⟩) (cl - s.1) (cutL (rowF (lab m) m es) s) w (cut_C hl s hin.1 hin.2) (by omega) (by omega) (by omega); rw [hlen] at h; exact h
theorem del_at (m : Nat) (es : List E) (gh ch gi base N : Nat) (w : World) (hN : N = (rowF (lab m) m es).length) (h1 : N ≤ 1001) (hne : gi ≠ gh)
  (hh : w.ownsRow base 3 1 (.slice (some ⟨gh, 0, none⟩) N ch) N (intV (htI m es))) (hi : Blk w gi 3 #[.int .i64 ((m + 1 : Nat) : Int)]) :
  Calls Tryz.prog 19 #[.slice (some ⟨gh, 0, none⟩) N ch, .func (.func 52) #[] #[.pointer (some ⟨gi, 0, none⟩)]] w fun e w' =>
   e = .returned (.slice (some ⟨gh, 0, none⟩) (rowF (lab (m + 1)) (m + 1) es).length ch) ∧ w'.ownsRow base 3 1 (.slice (some ⟨gh, 0, none⟩) (rowF (lab (m + 1)) (m + 1) es).length ch) (rowF (lab (m + 1)) (m + 1) es).length (intV (htI (m + 1) es)) ∧ w.grownBy w' (some gh) := by
 have hl : (htI m es).length = N := (htI_len m es).trans hN.symm; have h := del_any gh ch base (htI m es) ((m + 1 : Nat) : Int) ⟨gi, 0, none⟩ w (by rw [hl]; exact hh) (hi.cell 0) hne (by omega); rw [hl, htI_up, htI_len] at h; exact h
end Go.Proofs.YtolbhliepkcihaaGreatDoor.Lab
end
section
namespace Go.Proofs.YtolbhliepkcihaaGreatDoor.Lab
open Go.RowKit YtolbhliepkcihaaGreatDoorW.PrintWords YtolbhliepkcihaaGreatDoorW.PrintLast Kinds Build Sha Mac Codec Tower Mem
set_option maxRecDepth 100000 in
set_option maxHeartbeats 8000000 in
theorem row_walk (key : ByteArray) (A0 : Option Addr) (c0 : Nat) (l : List It) (lv : Nat) (w : World) (hr0 : Kd.C k44 w A0 l.length l) (hl : l.length ≤ 1000) (hkey : key.size ≤ 1000000000) (hok : ∀ x, x ∈ l → x.f1.size ≤ 4096 ∧ 0 ≤ x.f0 ∧ x.f0 < 18446744073709551616) (hlv : lv ≤ 8) (hT : TabW w) :
  Calls Tryz.prog 37 #[.string key, .slice A0 l.length c0, .int .i64 (lv : Int)] w fun e w' => ∃ v, e = .returned v ∧ w'.ownsRow w.heap.size 9 1 v (rowL key l lv).length (strV (rowL key l lv)) ∧ Below w.heap.size w w' := by
 obtain ⟨i9, hi9, hz9, hs9, hb9⟩ := info_parts str_info; obtain ⟨i3, hi3, hz3, hs3, hb3⟩ := info_parts int_info; have HC := qf hr0; have HO := Lib.hid hok; have HT := Lib.hid hT; have e1 : sha_Sum.f ⟨#[1]⟩ = some (sumS (ofNats [1])) := if_pos (by decide); have HS := Lib.hid (sha_Sum.calls ⟨#[1]⟩ (sumS (ofNats [1])) · e1); clear hr0 hok hT e1
 obtain ⟨s0, hs0⟩ : ∃ s0, sumS (ofNats [1]) = s0 := ⟨_, rfl⟩
 rw [hs0] at HS; have HS0 : Hid (strV ((labs0 key l).take 1) = [.string s0]) := Lib.hid (by rw [← hs0]; rfl); have HH0 : Hid (intV ((hts0 key l).take 1) = [.int .i64 9]) := Lib.hid rfl; clear hs0
 go_enter Tryz.func37, Tryz.ntmps37
 go_wp2_with fail
 refine (HS.out _).mono ?_
 rintro e w1 ⟨rfl, hb1⟩
 have hg8 : w.heap.size ≤ w1.heap.size := hb1.size; have N1 := Blk.new w1 9 #[.string s0]; have N2 := Blk.new (w1.alloc (.cells #[.string s0] 9)) 3 #[.int .i64 9]; have N3 := Blk.new ((w1.alloc (.cells #[.string s0] 9)).alloc (.cells #[.int .i64 9] 3)) 36 #[.slice (some ⟨w1.heap.size + 1, 0, none⟩) 1 1]; have N2' := N2.alloc (.cells #[.slice (some ⟨w1.heap.size + 1, 0, none⟩) 1 1] 36); have N1' := (N1.alloc (.cells #[.int .i64 9] 3)).alloc (.cells #[.slice (some ⟨w1.heap.size + 1, 0, none⟩) 1 1] 36); rw [World.size_alloc, World.size_alloc] at N3; rw [World.size_alloc] at N2'; have R1 := qf (own_of_blk (base := w.heap.size) N1' hg8); have R2 := qf (own_of_blk (base := w.heap.size) N2' (by omega)); have R3 := qf N3; have HB1 := qf (((hb1.alloc hb1.size (.cells #[.string s0] 9)).alloc (by rw [World.size_alloc]; omega) (.cells #[.int .i64 9] 3)).alloc (by rw [World.size_alloc, World.size_alloc]; omega) (.cells #[.slice (some ⟨w1.heap.size + 1, 0, none⟩) 1 1] 36)); clear hb1 N1 N2 N3 N1' N2'; go_wp2
 obtain ⟨G8, hG8⟩ : ∃ G, w1.heap.size + 1 + 1 = G := ⟨_, rfl⟩
 rw [hG8] at R3 ⊢
 have hGB : w.heap.size ≤ G8 := by omega
 clear hG8 hg8
 go_loopw [7, 21] (fun lv7 iv wr => ∃ (k : Nat) (vh : Value), k ≤ l.length ∧ iv = .int .i64 k ∧ Aside0 (wr.ownsRow w.heap.size 9 1 lv7 (k + 1) (strV ((labs0 key l).take (k + 1)))) ∧ Aside0 (wr.ownsRow w.heap.size 3 1 vh (k + 1) (intV ((hts0 key l).take (k + 1)))) ∧ Aside0 (Blk wr G8 36 #[vh]) ∧ Aside0 (Below w.heap.size w wr)) (fun _ iv _ => l.length - (intOf iv).toNat)
 case atStart => exact ⟨0, _, Nat.zero_le _, rfl, by rw [HS0.out]; exact R1, by rw [HH0.out]; exact R2, R3, HB1⟩
 case round =>
  obtain ⟨k, vh, hk, rfl, HRl, HRh, HX8, HB⟩ := hrel; clear R1 R2 R3 HB1
  by_cases hlt : k < l.length
  ·obtain ⟨ad, e1, hc0, hc1⟩ := at_T44 HC.out (k : Int) (by omega) (by omega); cases e1; rw [rd_it l k hlt, Int.toNat_natCast] at hc0 hc1; replace hc0 := (HB.out.cell (qd w _ hc0)).trans hc0; replace hc1 := (HB.out.cell (qd w _ hc1)).trans hc1; obtain ⟨q1, q2, q3⟩ := HO.out _ (List.getElem_mem hlt); have GL := Lib.hid (QLA.label_leaf.calls l[k].f0 l[k].f1 (sumS (itemT l[k])) · (pleaf_f l[k] q2 q3 q1)); have GH := Lib.hid (fun W h => tower_Height.calls key l[k].f0 ((heightN key l[k].f0.toNat : Nat) : Int) W (if_pos ⟨hkey, q2, q3⟩) h); have EL := Lib.hid (labs_take key l k hlt); have EH := Lib.hid (hts_take key l k hlt); have HX := qf (Blk.new wr 44 #[.int .u64 l[k].f0, .string l[k].f1]); replace HRl := qf (HRl.out.alloc (.cells #[.int .u64 l[k].f0, .string l[k].f1] 44)); replace HRh := qf (HRh.out.alloc (.cells #[.int .u64 l[k].f0, .string l[k].f1] 44)); replace HX8 := qf (HX8.out.alloc (.cells #[.int .u64 l[k].f0, .string l[k].f1] 44)); replace HB := qf (HB.out.alloc HB.out.size (.cells #[.int .u64 l[k].f0, .string l[k].f1] 44)); clear q1 q2 q3; generalize sumS (itemT l[k]) = y at *; generalize ((heightN key l[k].f0.toNat : Nat) : Int) = z at *
   go_upto_region 6 with (fail)
   obtain ⟨gx, hgx⟩ : ∃ gx, wr.heap.size = gx := ⟨_, rfl⟩
   rw [hgx] at HX ⊢
   obtain ⟨w5, hw5⟩ : ∃ w5, (wr.alloc (.cells #[.int .u64 l[k].f0, .string l[k].f1] 44)) = w5 := ⟨_, rfl⟩
   rw [hw5] at HX HRl HRh HX8 HB ⊢; generalize l[k].f0 = f0 at *; generalize l[k].f1 = f1 at *; clear hc0 hc1 hw5 hgx; replace HRl := qf (own_drew HRl.out); replace HRh := qf (own_drew HRh.out); replace HX8 := qf (HX8.out.drew); replace HX := qf (HX.out.drew); replace HB := qf (HB.out.drew); have hx0 : w5.drew.cell? ⟨gx, 0, none⟩ = some (.int .u64 f0) := HX.out.cell 0; have hx1 : w5.drew.cell? ⟨gx, 1, none⟩ = some (.string f1) := HX.out.cell 1; have hx8 : w5.drew.cell? ⟨G8, 0, none⟩ = some vh := HX8.out.cell 0; have fx8 := HX8.out.frozen 0
   have hkn : k + 1 ≤ 1000 := by omega
   refine start_ (n := 14) (S := (fun w' : World => w'.cell? ⟨gx, 0, none⟩ = some (.int .u64 f0) ∧ w'.cell? ⟨gx, 1, none⟩ = some (.string f1) ∧ w'.cell? ⟨G8, 0, none⟩ = some vh)) (ds := [13]) (bm 14 0) (by kernel_rfl) rfl rfl ⟨hx0, hx1, hx8⟩ (fun hHeld => ?_); refine pure_ (i := 0) (N := some 25) (v := u7) (a' := ?_) (bm 14 1) rfl rfl (by kernel_rfl) (fun _ _ _ h => h) (Or.inl ⟨by rfl, ?_⟩) ?_ ?_; (intro w'; go_simp); rotate_left; (simp only [Act.put, qs, qt, qu]; rfl); refine pure_ (i := 6) (N := some 31) (v := .string key) (a' := ?_) (bm 14 65) rfl rfl (by kernel_rfl) (fun _ _ _ h => h) (Or.inl ⟨by rfl, ?_⟩) ?_ ?_; (intro w'; go_simp); rotate_left; (simp only [Act.put, qs, qt, qu]; rfl); refine pure_ (i := 7) (N := some 32) (v := .pointer (some ⟨gx, 0, none⟩)) (a' := ?_) (bm 14 193) rfl rfl (by kernel_rfl) (fun _ _ _ h => h) (Or.inl ⟨by rfl, ?_⟩) ?_ ?_; (intro w'; go_simp); rotate_left; (simp only [Act.put, qs, qt, qu]; rfl); refine take_ (i := 1) (N := some 26) (v := .agg #[.int .u64 f0, .string f1]) (a' := ?_) (bm 14 195) rfl rfl (by kernel_rfl) (fun _ _ _ h => h) (Or.inl ⟨by rfl, ?_⟩) hHeld ?_ ?_
   ·intro w' hSw; obtain ⟨q0, q1, q8⟩ := hSw; go_simp
   rotate_left; (simp only [Act.put, qs, qt, qu]; rfl); refine take_ (i := 5) (N := some 30) (v := vh) (a' := ?_) (bm 14 227) rfl rfl (by kernel_rfl) (fun _ _ _ h => h) (Or.inl ⟨by rfl, ?_⟩) hHeld ?_ ?_
   ·intro w' hSw; obtain ⟨q0, q1, q8⟩ := hSw; go_simp
   rotate_left; (simp only [Act.put, qs, qt, qu]; rfl); refine take_ (i := 8) (N := some 33) (v := .int .u64 f0) (a' := ?_) (bm 14 483) rfl rfl (by kernel_rfl) (fun _ _ _ h => h) (Or.inl ⟨by rfl, ?_⟩) hHeld ?_ ?_
   ·intro w' hSw; obtain ⟨q0, q1, q8⟩ := hSw; go_simp
   rotate_left; (simp only [Act.put, qs, qt, qu]; rfl); refine one_ (i := 2) (N := some 27) (bm 14 487) rfl rfl (by kernel_rfl) (by decide) (fun K hK => ?_); clear hHeld; go_simp
   (go_at_call 48; refine (GL.out _).mono ?_; rintro e w5 ⟨rfl, hb5⟩; replace HRl := qf (own_bel HRl.out hb5); replace HRh := qf (own_bel HRh.out hb5); replace HX8 := qf (blk_bel HX8.out hb5); replace HX := qf (blk_bel HX.out hb5); replace HB := qf (HB.out.trans (hb5.mono HB.out.size)); clear hb5; (try clear hx0 hx1 hx8 fx8); have hx0 : w5.cell? ⟨gx, 0, none⟩ = some (.int .u64 f0) := HX.out.cell 0; have hx1 : w5.cell? ⟨gx, 1, none⟩ = some (.string f1) := HX.out.cell 1; have hx8 : w5.cell? ⟨G8, 0, none⟩ = some vh := HX8.out.cell 0; have fx8 := HX8.out.frozen 0)
   refine hK.out _ _ ?_ (fun hHeld => ?_)
   ·first | exact ⟨hx0, hx1, hx8⟩ | exact ⟨Lib.cell?_alloc_some _ hx0, Lib.cell?_alloc_some _ hx1, Lib.cell?_alloc_some _ hx8⟩
   clear hK K
   try simp only [Act.put, qs, qt, qu]
   refine one_ (i := 3) (N := some 28) (bm 14 495) rfl rfl (by kernel_rfl) (by decide) (fun K hK => ?_); clear hHeld; go_simp; refine hK.out _ _ ?_ (fun hHeld => ?_)
   ·first | exact ⟨hx0, hx1, hx8⟩ | exact ⟨Lib.cell?_alloc_some _ hx0, Lib.cell?_alloc_some _ hx1, Lib.cell?_alloc_some _ hx8⟩
   clear hK K
   try simp only [Act.put, qs, qt, qu]
   refine one_ (i := 4) (N := some 29) (bm 14 511) rfl rfl (by kernel_rfl) (by decide) (fun K hK => ?_); clear hHeld; (refine step_own rfl (.tmp 25) (.tmp 28) 47 rfl w.heap.size 9 i9 (.string ⟨#[]⟩) 1 16 Tryz.underlying47 hi9 hz9 hs9 hb9 rfl (by decide) u7 (k + 1) _ (by rfl) (HRl.out.alloc (.cells #[.string y] 9)) ⟨w5.heap.size, 0, none⟩ 1 1 [.string y] (by rfl) rfl (cell_one_new _ _ _) (by simp [Value.oneCell']) (by simp only [maxLen]; omega) (by omega) (HB.out.alloc HB.out.size (.cells #[.string y] 9)).size ?_; intro v6 w5 ho6 hg6; obtain ⟨gl, cpl, rfl, _⟩ := own_succ3 ho6; replace HRh := qf ((HRh.out.alloc (.cells #[.string y] 9)).kept hg6 (own_ne2 (HRh.out.alloc (.cells #[.string y] 9)) (HRl.out.alloc (.cells #[.string y] 9)) (by decide))); replace HX8 := qf (blk_grown (HX8.out.alloc (.cells #[.string y] 9)) hg6 (own_ne (HRl.out.alloc (.cells #[.string y] 9)) (HX8.out.alloc (.cells #[.string y] 9)) (by decide))); replace HX := qf (blk_grown (HX.out.alloc (.cells #[.string y] 9)) hg6 (own_ne (HRl.out.alloc (.cells #[.string y] 9)) (HX.out.alloc (.cells #[.string y] 9)) (by decide))); replace HB := qf (bel_grown (HB.out.alloc HB.out.size (.cells #[.string y] 9)) hg6 (HB.out.alloc HB.out.size (.cells #[.string y] 9)).size (fun q e => own_base (HRl.out.alloc (.cells #[.string y] 9)) q e)); replace HRl := qf ho6; clear ho6 hg6; (try clear hx0 hx1 hx8 fx8); have hx0 : w5.cell? ⟨gx, 0, none⟩ = some (.int .u64 f0) := HX.out.cell 0; have hx1 : w5.cell? ⟨gx, 1, none⟩ = some (.string f1) := HX.out.cell 1; have hx8 : w5.cell? ⟨G8, 0, none⟩ = some vh := HX8.out.cell 0; have fx8 := HX8.out.frozen 0); refine hK.out _ _ ?_ (fun hHeld => ?_)
   ·first | exact ⟨hx0, hx1, hx8⟩ | exact ⟨Lib.cell?_alloc_some _ hx0, Lib.cell?_alloc_some _ hx1, Lib.cell?_alloc_some _ hx8⟩
   clear hK K
   try simp only [Act.put, qs]
   refine one_ (i := 9) (N := some 34) (bm 14 1023) rfl rfl (by kernel_rfl) (by decide) (fun K hK => ?_); clear hHeld; go_simp
   (go_at_call 17; refine (GH.out _ (tab_below HT.out HB.out (Nat.le_refl _))).mono ?_; rintro e w5 ⟨rfl, hb5⟩; replace HRl := qf (own_bel HRl.out hb5); replace HRh := qf (own_bel HRh.out hb5); replace HX8 := qf (blk_bel HX8.out hb5); replace HX := qf (blk_bel HX.out hb5); replace HB := qf (HB.out.trans (hb5.mono HB.out.size)); clear hb5; (try clear hx0 hx1 hx8 fx8); have hx0 : w5.cell? ⟨gx, 0, none⟩ = some (.int .u64 f0) := HX.out.cell 0; have hx1 : w5.cell? ⟨gx, 1, none⟩ = some (.string f1) := HX.out.cell 1; have hx8 : w5.cell? ⟨G8, 0, none⟩ = some vh := HX8.out.cell 0; have fx8 := HX8.out.frozen 0)
   refine hK.out _ _ ?_ (fun hHeld => ?_)
   ·first | exact ⟨hx0, hx1, hx8⟩ | exact ⟨Lib.cell?_alloc_some _ hx0, Lib.cell?_alloc_some _ hx1, Lib.cell?_alloc_some _ hx8⟩
   clear hK K
   try simp only [Act.put, qs, qt, qu]
   refine one_ (i := 10) (N := some 35) (bm 14 2047) rfl rfl (by kernel_rfl) (by decide) (fun K hK => ?_); clear hHeld; go_simp; refine hK.out _ _ ?_ (fun hHeld => ?_)
   ·first | exact ⟨hx0, hx1, hx8⟩ | exact ⟨Lib.cell?_alloc_some _ hx0, Lib.cell?_alloc_some _ hx1, Lib.cell?_alloc_some _ hx8⟩
   clear hK K
   try simp only [Act.put, qs, qt, qu]
   refine one_ (i := 11) (N := some 36) (bm 14 4095) rfl rfl (by kernel_rfl) (by decide) (fun K hK => ?_); clear hHeld; (refine step_own rfl (.tmp 30) (.tmp 35) 36 rfl w.heap.size 3 i3 (.int .i64 0) 1 8 Tryz.underlying36 hi3 hz3 hs3 hb3 rfl (by decide) vh (k + 1) _ (by rfl) (HRh.out.alloc (.cells #[.int .i64 z] 3)) ⟨w5.heap.size, 0, none⟩ 1 1 [.int .i64 z] (by rfl) rfl (cell_one_new _ _ _) (by simp [Value.oneCell']) (by simp only [maxLen]; omega) (by omega) (HB.out.alloc HB.out.size (.cells #[.int .i64 z] 3)).size ?_; intro v6 w5 ho6 hg6; obtain ⟨gh, cph, rfl, _⟩ := own_succ3 ho6; replace HRl := qf ((HRl.out.alloc (.cells #[.int .i64 z] 3)).kept hg6 (own_ne2 (HRl.out.alloc (.cells #[.int .i64 z] 3)) (HRh.out.alloc (.cells #[.int .i64 z] 3)) (by decide))); replace HX8 := qf (blk_grown (HX8.out.alloc (.cells #[.int .i64 z] 3)) hg6 (own_ne (HRh.out.alloc (.cells #[.int .i64 z] 3)) (HX8.out.alloc (.cells #[.int .i64 z] 3)) (by decide))); replace HX := qf (blk_grown (HX.out.alloc (.cells #[.int .i64 z] 3)) hg6 (own_ne (HRh.out.alloc (.cells #[.int .i64 z] 3)) (HX.out.alloc (.cells #[.int .i64 z] 3)) (by decide))); replace HB := qf (bel_grown (HB.out.alloc HB.out.size (.cells #[.int .i64 z] 3)) hg6 (HB.out.alloc HB.out.size (.cells #[.int .i64 z] 3)).size (fun q e => own_base (HRh.out.alloc (.cells #[.int .i64 z] 3)) q e)); replace HRh := qf ho6; clear ho6 hg6; (try clear hx0 hx1 hx8 fx8); have hx0 : w5.cell? ⟨gx, 0, none⟩ = some (.int .u64 f0) := HX.out.cell 0; have hx1 : w5.cell? ⟨gx, 1, none⟩ = some (.string f1) := HX.out.cell 1; have hx8 : w5.cell? ⟨G8, 0, none⟩ = some vh := HX8.out.cell 0; have fx8 := HX8.out.frozen 0); refine hK.out _ _ ?_ (fun hHeld => ?_)
   ·first | exact ⟨hx0, hx1, hx8⟩ | exact ⟨Lib.cell?_alloc_some _ hx0, Lib.cell?_alloc_some _ hx1, Lib.cell?_alloc_some _ hx8⟩
   clear hK K
   try simp only [Act.put, qs]
   refine pure_ (i := 12) (N := some 7) (v := .slice (some ⟨gl, 0, none⟩) (k + 1 + 1) cpl) (a' := ?_) (bm 14 8191) rfl rfl (by kernel_rfl) (fun _ _ _ h => h) (Or.inl ⟨by rfl, ?_⟩) ?_ ?_; (intro w'; go_simp); rotate_left; (simp only [Act.put]; rfl); refine last_ (i := 13) (N := none) (bm 14 16383) rfl rfl (by kernel_rfl) (by decide) (fun K hK => ?_); go_simp; refine hK.out _ _ ?_; refine done_ (by kernel_rfl) ?_; clear hK K hHeld; have QL := qf (own_set HRl.out (own_ne HRl.out HX8.out (by decide)) (.slice (some ⟨gh, 0, none⟩) (k + 1 + 1) cph)); have QH := qf (own_set HRh.out (own_ne HRh.out HX8.out (by decide)) (.slice (some ⟨gh, 0, none⟩) (k + 1 + 1) cph)); have Q8 : Aside0 (Blk (w5.setCell ⟨G8, 0, none⟩ (.slice (some ⟨gh, 0, none⟩) (k + 1 + 1) cph)) G8 36 #[.slice (some ⟨gh, 0, none⟩) (k + 1 + 1) cph]) := qf (HX8.out.set_ 0 _); have QB := qf (HB.out.setCell (p := ⟨G8, 0, none⟩) hGB (.slice (some ⟨gh, 0, none⟩) (k + 1 + 1) cph)); clear HRl HRh HX8 HB HX hx0 hx1 hx8 fx8 GL GH; generalize w5.setCell ⟨G8, 0, none⟩ (.slice (some ⟨gh, 0, none⟩) (k + 1 + 1) cph) = w6 at *; go_wp2
   go_roundw
   case rel => exact ⟨k + 1, _, by omega, by go_num, ⟨by rw [EL.out]; exact QL.out⟩, ⟨by rw [EH.out]; exact QH.out⟩, Q8, QB⟩
   case measure => simp [intOf]; omega
  ·obtain rfl : k = l.length := by omega
   have e0 : strV ((labs0 key l).take (l.length + 1)) = strV (rowF (lab 0) 0 (ents key l)) := by rw [List.take_of_length_le (Nat.le_of_eq (labs_len key l)), labs_row]
   have e1 : intV ((hts0 key l).take (l.length + 1)) = intV (htI 0 (ents key l)) := by rw [List.take_of_length_le (Nat.le_of_eq (hts_len0 key l)), hts_row0]; rfl
   have e2 : (rowF (lab 0) 0 (ents key l)).length = l.length + 1 := by rw [← labs_row, labs_len]
   have HRl2 : Aside0 (wr.ownsRow w.heap.size 9 1 u7 (rowF (lab 0) 0 (ents key l)).length (strV (rowF (lab 0) 0 (ents key l)))) := ⟨by rw [e2, ← e0]; exact HRl.out⟩; have HRh2 : Aside0 (wr.ownsRow w.heap.size 3 1 vh (rowF (lab 0) 0 (ents key l)).length (intV (htI 0 (ents key l)))) := ⟨by rw [e2, ← e1]; exact HRh.out⟩; have HHD := Lib.hid (row_head key l); have HUP := Lib.hid (row_up key l); have HSZ : Hid (∀ m, (rowF (lab m) m (ents key l)).length ≤ 1001) := Lib.hid (fun m => by have := row_len m (ents key l); unfold ents at this; simp at this; unfold ents; omega); have HEND : Hid (rowL key l lv = rowF (lab lv) lv (ents key l)) := Lib.hid rfl; have HF := own_fresh HRh.out; have hGI := HB.out.size; clear e0 e1 e2 HRl HRh HC HO HT HS HS0 HH0; generalize ents key l = es at *; replace HRl2 := qf (HRl2.out.alloc (.cells #[.int .i64 1] 3)); replace HRh2 := qf (HRh2.out.alloc (.cells #[.int .i64 1] 3)); replace HX8 := qf (HX8.out.alloc (.cells #[.int .i64 1] 3)); have HXi := qf (Blk.new wr 3 #[.int .i64 1]); replace HB := qf (HB.out.alloc HB.out.size (.cells #[.int .i64 1] 3)); go_wp2
   go_loopw [7, 11] (fun lv7 pv wr => ∃ (m gi : Nat) (vh : Value), m ≤ lv ∧ pv = .pointer (some ⟨gi, 0, none⟩) ∧ w.heap.size ≤ gi ∧ vh.ownBlock ≠ some gi ∧ Aside0 (wr.ownsRow w.heap.size 9 1 lv7 (rowF (lab m) m es).length (strV (rowF (lab m) m es))) ∧ Aside0 (wr.ownsRow w.heap.size 3 1 vh (rowF (lab m) m es).length (intV (htI m es))) ∧ Aside0 (Blk wr G8 36 #[vh]) ∧ Aside0 (Blk wr gi 3 #[.int .i64 ((m + 1 : Nat) : Int)]) ∧ Aside0 (Below w.heap.size w wr)) (fun _ pv wr => lv + 1 - boxN wr pv)
   case atStart => exact ⟨0, _, _, Nat.zero_le _, rfl, hGI, HF, HRl2, HRh2, HX8, HXi, HB⟩
   case round =>
    obtain ⟨m, gi, vh, hm, rfl, hgi, hfr, HRl, HRh, HX8, HXi, HB⟩ := hrel; clear HRl2 HRh2 HF hGI; have hbox := boxN_of HXi.out
    obtain ⟨n, hn⟩ : ∃ n, (rowF (lab m) m es).length = n + 1 := ⟨(rowF (lab m) m es).length - 1, by have := HHD.out m (by omega); omega⟩
    have hn1 : n + 1 ≤ 1001 := by have := HSZ.out m; omega
    rw [hn] at HRl HRh; obtain ⟨gl, cl, rfl, hcl⟩ := own_succ3 HRl.out; obtain ⟨gh, ch, rfl, hch⟩ := own_succ3 HRh.out; have hcx8 := HX8.out.cell 0; have hcxi := HXi.out.cell 0
    by_cases hmv : m < lv
    ·have hle : decide (((m + 1 : Nat) : Int) ≤ (lv : Int)) = true := qj (by omega); have HG := Lib.hid (groups_at m es gl cl gh ch G8 gi w.heap.size (n + 1) wr hn.symm hcl HRh.out HX8.out HXi.out (by omega) hn1); have hup := HUP.out m (by omega)
     have hslen : (segs (m + 1) (hts m es)).length = (rowF (lab (m + 1)) (m + 1) es).length := by rw [hup, List.length_map]
     obtain ⟨q, hq⟩ : ∃ q, (rowF (lab (m + 1)) (m + 1) es).length = q + 1 := ⟨(rowF (lab (m + 1)) (m + 1) es).length - 1, by have := HHD.out (m + 1) (by omega); omega⟩
     have hq1 : q + 1 ≤ 1001 := by have := HSZ.out (m + 1); omega
     go_wp2_with (go_at_call 50; refine (HG.out).mono ?_; rintro e w1 ⟨v, rfl, hown, hb1⟩; rw [hslen, hq] at hown; obtain ⟨gg, cg, rfl, hcg⟩ := own_succ3 hown; have HGR := qf hown; have HB1 := qf hb1; clear hb1 hown)
     clear HG hcx8 hcxi; replace HRl := qf (own_bel HRl.out HB1.out); replace HRh := qf (own_bel HRh.out HB1.out); replace HX8 := qf (blk_bel HX8.out HB1.out); replace HXi := qf (blk_bel HXi.out HB1.out); replace HB := qf (below_step HB.out HB1.out); have HSL := Lib.hid hslen; have HUPE := Lib.hid hup; clear HB1 hslen hup
     go_loopw [13, 48] (fun ov iv wq => ∃ i : Nat, i ≤ q + 1 ∧ iv = .int .i64 i ∧ Aside0 (wq.ownsRow w1.heap.size 9 1 ov i (strV ((rowF (lab (m + 1)) (m + 1) es).take i))) ∧ Aside0 (Below w1.heap.size w1 wq)) (fun _ iv _ => q + 1 - (intOf iv).toNat)
     case atStart => exact ⟨0, Nat.zero_le _, rfl, ⟨World.ownsRow_nil _ _ _ _⟩, ⟨Below.refl _ _⟩⟩
     case round =>
      obtain ⟨i, hi, rfl, HR, HBB⟩ := hrel
      by_cases hiq : i < q + 1
      ·have hcxi := ((HXi.out.below HBB.out HXi.out.lt).cell 0); have hsl := HSL.out
       have his : i < (segs (m + 1) (hts m es)).length := by omega
       have HJ := Lib.hid (fun W (hb : Below w1.heap.size w1 W) => join_at m (by omega) es gl cl w.heap.size (n + 1) W hn.symm hcl hn1 (own_bel HRl.out hb) i his); have ET := Lib.hid (row_take es (m + 1) i (by omega))
       have hti : (rowF (lab (m + 1)) (m + 1) es)[i]'(by omega) = sumS (joinT (m + 1) (cutL (rowF (lab m) m es) (segs (m + 1) (hts m es))[i])) := by
        simp only [HUPE.out, List.getElem_map]
       have hcg0 : w1.cell? ⟨gg, i, none⟩ = some (segV gl cl (segs (m + 1) (hts m es))[i]) := by
        rw [HGR.out.cellAt i (by omega), List.getElem?_map, List.getElem?_eq_getElem his]; rfl
       have hcgi := (HBB.out.cell (qd _ _ hcg0)).trans hcg0; rw [hti] at ET
       obtain ⟨sg, hsg⟩ : ∃ sg, (segs (m + 1) (hts m es))[i] = sg := ⟨_, rfl⟩
       rw [hsg] at HJ ET hcgi; clear hcg0 hti hsg his hsl; generalize sumS (joinT (m + 1) (cutL (rowF (lab m) m es) sg)) = y at *
       have p0 : (0 : Int) ≤ (i : Int) := by omega
       have p1 : (i : Int) < ((q + 1 : Nat) : Int) := by omega
       have hm1 : i + 1 ≤ maxLen := by simp only [maxLen]; omega
       have hm2 : (i + 1) * 16 ≤ 140737488355328 := by omega
       have hsv : segV gl cl sg = .slice (some ⟨gl, sg.1, none⟩) (sg.2 - sg.1) (cl - sg.1) := rfl; rw [hsv] at hcgi HJ; clear hsv
       go_wp2_with (first | (go_at_call 51; refine (HJ.out _ HBB.out).mono ?_; rintro e w2 ⟨rfl, hb2⟩; replace HR := qf (own_bel HR.out hb2); replace HBB := qf (below_step HBB.out hb2); clear hb2) | (at_builtin; refine wpList_append_own _ rfl _ _ 47 rfl w1.heap.size 9 i9 (.string ⟨#[]⟩) 1 16 Tryz.underlying47 hi9 hz9 hs9 hb9 rfl (by decide) _ _ _ rfl (HR.out.alloc _) ⟨w2.heap.size, 0, none⟩ 1 1 [.string y] rfl rfl (cell_one_new _ _ _) (by simp [Value.oneCell']) hm1 hm2 (by have := HBB.out.size; simp; omega) ?_; intro v' w3 hown' hgrow _))
       go_roundw
       case rel =>
        refine ⟨i + 1, by omega, by go_num, ⟨?_⟩, ⟨?_⟩⟩
        ·rw [ET.out]; exact hown'
        ·exact ((HBB.out.alloc HBB.out.size _).grown hgrow (by have := HBB.out.size; simp; omega) (fun q e => own_base HR.out q e))
       case measure => simp [intOf]; omega
      ·obtain rfl : i = q + 1 := by omega
       have eT : (rowF (lab (m + 1)) (m + 1) es).take (q + 1) = rowF (lab (m + 1)) (m + 1) es := List.take_of_length_le (by omega); rw [eT] at HR; clear eT HGR HSL HUPE hiq hi; replace HRh := qf (own_bel HRh.out HBB.out); replace HX8 := qf (blk_bel HX8.out HBB.out); replace HXi := qf (blk_bel HXi.out HBB.out); have hB1 := HB.out.size; replace HR := qf (own_le HR.out hB1); replace HB := qf (below_step HB.out HBB.out); clear HBB HRl; have hcx8 := HX8.out.cell 0; have hcxi := HXi.out.cell 0
       have hgne : gi ≠ gh := fun e => hfr (by rw [e]; rfl)
       have HD := Lib.hid (del_at m es gh ch gi w.heap.size (n + 1) wr hn.symm hn1 hgne HRh.out HXi.out); rw [hq] at HD; have hgG : gi ≠ G8 := blk_ne HXi.out HX8.out (by decide)
       go_upto_region 19 with (go_at_call 19; refine (HD.out).mono ?_; rintro e w4 ⟨rfl, hoh, hgr⟩; replace HR := qf (HR.out.kept hgr (own_ne2 HR.out HRh.out (by decide))); replace HB := qf (bel_grown HB.out hgr HB.out.size (fun q e => own_base HRh.out q e)); replace HXi := qf (blk_grown HXi.out hgr (fun e => hgne (Option.some.inj e).symm)); replace HX8 := qf (blk_grown HX8.out hgr (own_ne HRh.out HX8.out (by decide))); replace HRh := qf hoh; clear hoh hgr hcx8 hcxi; have hcx8 := HX8.out.cell 0; have hfx8 := HX8.out.frozen 0)
       obtain ⟨vv, hvv⟩ : ∃ vv, Value.slice (some ⟨gh, 0, none⟩) (rowF (lab (m + 1)) (m + 1) es).length ch = vv := ⟨_, rfl⟩
       rw [hq] at hvv; rw [hvv]; have QH := qf (own_set HRh.out (own_ne HRh.out HX8.out (by decide)) vv); have QR := qf (own_set HR.out (own_ne HR.out HX8.out (by decide)) vv); have QI := qf (HXi.out.far (p := ⟨G8, 0, none⟩) hgG vv); have QB := qf (HB.out.setCell (p := ⟨G8, 0, none⟩) hGB vv); have Q8 : Aside0 (Blk (w4.setCell ⟨G8, 0, none⟩ vv) G8 36 #[vv]) := qf (HX8.out.set_ 0 vv); clear HRh HR HXi HB HX8 hcx8 hfx8 HD; generalize w4.setCell ⟨G8, 0, none⟩ vv = w5 at *; have hcxi := QI.out.cell 0
       go_upto_region 10 with (fail)
       have N := qf (Blk.new w5 3 #[.int .i64 ((m : Int) + 1)]); have hfv := own_fresh QH.out; have hgj : w.heap.size ≤ w5.heap.size := QB.out.size; have hfl := own_fresh QR.out
       have h8j : G8 ≠ w5.heap.size := by have := Q8.out.lt; omega
       replace QH := qf (QH.out.alloc (.cells #[.int .i64 ((m : Int) + 1)] 3)); replace QR := qf (QR.out.alloc (.cells #[.int .i64 ((m : Int) + 1)] 3)); replace Q8 := qf (Q8.out.alloc (.cells #[.int .i64 ((m : Int) + 1)] 3)); replace QB := qf (QB.out.alloc QB.out.size (.cells #[.int .i64 ((m : Int) + 1)] 3)); clear QI hcxi; generalize w5.heap.size = gj at *; generalize w5.alloc (.cells #[.int .i64 ((m : Int) + 1)] 3) = w6 at *; have hcj := N.out.cell 0; have hfj := N.out.frozen 0; have E1 := qf (own_set QR.out hfl (.int .i64 ((m : Int) + 1 + 1))); have E2 := qf (own_set QH.out hfv (.int .i64 ((m : Int) + 1 + 1))); have E3 := qf (Q8.out.far (p := ⟨gj, 0, none⟩) h8j (.int .i64 ((m : Int) + 1 + 1))); have E4 : Aside0 (Blk (w6.setCell ⟨gj, 0, none⟩ (.int .i64 ((m : Int) + 1 + 1))) gj 3 #[.int .i64 ((m : Int) + 1 + 1)]) := qf (N.out.set_ 0 _); have E5 := qf (QB.out.setCell (p := ⟨gj, 0, none⟩) hgj (.int .i64 ((m : Int) + 1 + 1))); go_wp2
       go_roundw
       case rel =>
        subst hvv; exact ⟨m + 1, gj, _, by omega, rfl, hgj, hfv, ⟨by rw [hq]; exact E1.out⟩, ⟨by rw [hq]; exact E2.out⟩, E3, E4, E5⟩
       case measure =>
        have hb2 : boxN (w6.setCell ⟨gj, 0, none⟩ (.int .i64 ((m : Int) + 1 + 1))) (.pointer (some ⟨gj, 0, none⟩)) = m + 1 + 1 := boxN_of (n := m + 1 + 1) E4.out
        show lv + 1 - boxN (w6.setCell ⟨gj, 0, none⟩ (.int .i64 ((m : Int) + 1 + 1))) (.pointer (some ⟨gj, 0, none⟩)) < lv + 1 - boxN _ (.pointer (some ⟨gi, 0, none⟩))
        rw [hb2, hbox]
        omega
    ·obtain rfl : m = lv := by omega
     have hle : decide (((m + 1 : Nat) : Int) ≤ (m : Int)) = false := decide_eq_false (by omega); have hEE := HEND.out; go_wp2; go_ret; refine ⟨_, rfl, ?_, HB.out⟩; rw [hEE, hn]; exact HRl.out
end Go.Proofs.YtolbhliepkcihaaGreatDoor.Lab
end
section
namespace Go.Proofs.YtolbhliepkcihaaGreatDoor.QSF
open Go.RowKit Kinds YtolbhliepkcihaaGreatDoorW.PrintWords YtolbhliepkcihaaGreatDoorW.PrintLast YtolbhliepkcihaaGreatDoorW.PrintMore
attribute [local go_sem] max2_int min2_int max_two min_two max_three min_three max_four min_four   -- for this text's walks alone
set_option linter.unusedVariables false
set_option linter.unusedSimpArgs false
def errW : Option Int → Value
 | none => .nilIface
 | some c => .iface 0 (.int .i64 c)
theorem errW_none : errW none = .nilIface := rfl
theorem errW_some (c : Int) : errW (some c) = .iface 0 (.int .i64 c) := rfl
theorem info3 : (Tryz.prog.info? 3).map (fun i => (i.zero, i.size, i.bytes)) = some (some (.int .i64 0), 1, 8) := by kernel_rfl
theorem info23 : (Tryz.prog.info? 23).map (fun i => (i.zero, i.size, i.bytes)) = some (some (.int .u64 0), 1, 8) := by kernel_rfl
theorem info44 : (Tryz.prog.info? 44).map (fun i => (i.zero, i.size, i.bytes)) = some (some (.agg #[(.int .u64 0), (.string ⟨#[]⟩)]), 2, 24) := by kernel_rfl
end Go.Proofs.YtolbhliepkcihaaGreatDoor.QSF
end
section
namespace Go.Proofs.YtolbhliepkcihaaGreatDoor.QSF
open Go.RowKit Kinds YtolbhliepkcihaaGreatDoorW.PrintWords YtolbhliepkcihaaGreatDoorW.PrintLast YtolbhliepkcihaaGreatDoorW.PrintMore
attribute [local go_sem] max2_int min2_int max_two min_two max_three min_three max_four min_four   -- for this text's walks alone
set_option linter.unusedVariables false
set_option linter.unusedSimpArgs false
/-! ### skip_Right: function 14 -/
def skip_Right.l0 : Nat → List (S44) → List (S44) → Int → Int → Option (Bool)
 | 0, _, _, _, _ => none
 | k + 1, x0, x5, x6, x7 => if x7 < x6 then (if 0 ≤ x7 then (if x7 < (x5.length : Int) then (if (((rd_T44 x5 x7).f1).size : Int) > 64 then (some false) else (if x7 > 0 then (if 0 ≤ (wrap64 (x7 - 1)) then (if (wrap64 (x7 - 1)) < (x0.length : Int) then (if ((rd_T44 x0 (wrap64 (x7 - 1))).f0) ≥ ((rd_T44 x5 x7).f0) then (some false) else (skip_Right.l0 k x0 x5 x6 (wrap64 (x7 + 1)))) else (none)) else (none)) else (skip_Right.l0 k x0 x5 x6 (wrap64 (x7 + 1))))) else (none)) else (none)) else (some (decide ((x0.length : Int) ≤ 64)))
/-! ### saltusref16_Right: function 9 -/
mutual
def saltusref16_Right.l0 : Nat → List (S44) → List (S44) → Int → Int → Option (Bool)
 | 0, _, _, _, _ => none
 | k + 1, x0, x7, x8, x9 => if x9 < x8 then (if 0 ≤ x9 then (if x9 < (x7.length : Int) then (if (((rd_T44 x7 x9).f1).size : Int) > 64 then (some false) else (if x9 ≤ (x0.length : Int) then ((some (x0.take (x9 : Int).toNat : List (S44))).bind fun y106 => (saltusref16_Right.l1 k x0 x7 x8 x9 y106 (y106.length : Int) 0 ((rd_T44 x7 x9).f0) ((rd_T44 x7 x9).f1))) else (none))) else (none)) else (none)) else (some (decide ((x0.length : Int) ≤ 64)))
def saltusref16_Right.l1 : Nat → List (S44) → List (S44) → Int → Int → List (S44) → Int → Int → Int → ByteArray → Option (Bool)
 | 0, _, _, _, _, _, _, _, _, _ => none
 | k + 1, x0, x7, x8, x9, x20, x21, x22, x106000, x106001 => if x22 < x21 then (if 0 ≤ x22 then (if x22 < (x20.length : Int) then (if ((rd_T44 x20 x22).f0) ≥ x106000 then (some false) else (saltusref16_Right.l1 k x0 x7 x8 x9 x20 x21 (wrap64 (x22 + 1)) x106000 x106001)) else (none)) else (none)) else (saltusref16_Right.l0 k x0 x7 x8 (wrap64 (x9 + 1)))
end
def saltusref16_Right.f (k : Nat) (l0 : List (S44)) : Option (Bool) := saltusref16_Right.l0 k l0 l0 (l0.length : Int) 0
set_option maxHeartbeats 8000000 in
set_option maxRecDepth 100000 in
theorem saltusref16_Right.calls (k : Nat) (A0 : Option Addr) (c0 : Nat) (l0 : List (S44)) (r : Bool) (w : World) (hr0 : Kd.C k44 w A0 l0.length l0) (hc0 : l0.length ≤ c0) (h : saltusref16_Right.f k l0 = some r) :
  Calls Tryz.prog 9 #[.slice A0 l0.length c0] w fun e w' => e = .returned (.bool r) ∧ Below w.heap.size w w' := by
 have hu44 := Tryz.underlying44; have HR0 := qf hr0; have HC0 := qf hc0; clear hr0 hc0; have HB := qf (Below.refl w.heap.size w); have H : (saltusref16_Right.l0 k l0 l0 (l0.length : Int) 0) = some r := h; clear h; have H' := qf H; clear H
 go_enter Tryz.func9, Tryz.ntmps9
 go_wp2
 go_loopg [9] k (fun kq v9 w' => ∃ (x9_1 : Int), v9 = .int .i64 x9_1 ∧ Aside0 (saltusref16_Right.l0 kq l0 l0 (l0.length : Int) x9_1 = some r) ∧ Aside0 (kq ≤ k) ∧ Aside0 (Below w.heap.size w w'))
 case atStart => exact ⟨(0), (by first | rfl | (simp; done) | (simp [*]; done)), H', ⟨Nat.le_refl _⟩, ⟨by repeat (first | (with_reducible first | exact HB.out | apply qa | apply qb | apply qc) | exact HB.out)⟩⟩
 case round =>
  clear H'; obtain ⟨x9_1, rfl, HA, HK1, HB⟩ := hrel
  cases gk with
  | zero => exact absurd HA.out (by simp [saltusref16_Right.l0])
  | succ k1 =>
   have H := HA.out; clear HA; simp only [saltusref16_Right.l0] at H
   by_cases c2 : x9_1 < (l0.length : Int)
   ·rw [if_pos c2] at H; have c2b0 := qj c2; clear c2
    by_cases c3 : 0 ≤ x9_1
    ·rw [if_pos c3] at H; have c3b0 := qj c3; clear c3
     by_cases c4 : x9_1 < (l0.length : Int)
     ·rw [if_pos c4] at H; have c4b0 := qj c4; clear c4
      by_cases c5 : (((rd_T44 l0 x9_1).f1).size : Int) > 64
      ·rw [if_pos c5] at H; have c5b0 := qj c5; have c5b1 : decide (64 < ((rd_T44 l0 x9_1).f1).size) = true := qj (by omega); clear c5; obtain rfl := Option.some.inj H; have p104 : 0 ≤ (x9_1 : Int) := qe (by with_reducible assumption); have q104 : x9_1 < (l0.length : Int) := qe (by with_reducible assumption); obtain ⟨ad104, e104, hx104_0, hx104_1⟩ := at_T44 HR0.out x9_1 p104 q104; cases e104; replace hx104_0 := (HB.out.cell (qd w _ hx104_0)).trans hx104_0; replace hx104_1 := (HB.out.cell (qd w _ hx104_1)).trans hx104_1; replace p104 := eq_true p104; replace q104 := eq_true q104
       go_wp2_with (first | ((with_reducible refine gate_dst (N := 4) rfl ?_); refine box_event ?hg (N := 4) ?hd (cs := #[.int .u64 0, .string (⟨#[]⟩ : ByteArray)]) (t := 44) ?hr ?_; (case hd => rfl); (case hg => rfl); (case hr => first | (go_simp; done) | (go_simp; rfl)); intro gb105 hg w6 hbox hb; have n0_ := qf (below_step (by repeat (first | (with_reducible first | exact HB.out | apply qa | apply qb | apply qc) | exact HB.out)) hb); have n1_ := qf (hbox); have n2_ := qf ((by rw [hg]; exact (below_size (by repeat (first | (with_reducible first | exact HB.out | apply qa | apply qb | apply qc) | exact HB.out))) : w.heap.size ≤ gb105)); have n3_ := qf ((by rw [hg]; exact (below_size (by repeat (first | (with_reducible first | exact HB.out | apply qa | apply qb | apply qc) | exact HB.out))) : w.heap.size ≤ gb105)); clear HB; have HB := n0_; have BK105 := n1_; have GW105 := n2_; have GE105 := n3_; clear n0_ n1_ n2_ n3_ hb hbox hg; have hcz7_0 : w6.cell? ⟨gb105, 0, none⟩ = some (.int .u64 0) := (blk_cell BK105.out 0).trans rfl; have hcz7_1 : w6.cell? ⟨gb105, 1, none⟩ = some (.string (⟨#[]⟩ : ByteArray)) := (blk_cell BK105.out 1).trans rfl; have hfz7_0 := blk_frozen BK105.out 0; have hfz7_1 := blk_frozen BK105.out 1))
       go_ret; exact ⟨by first | rfl | (simp [errW_none, errW_some] <;> rfl) | (simp [*, errW_none, errW_some] <;> rfl), by repeat (first | (with_reducible first | exact HB.out | apply qa | apply qb | apply qc | refine qg ?_ GE105.out) | exact HB.out)⟩
      ·rw [if_neg c5] at H; have c5b0 := decide_eq_false c5; have c5b1 : decide (64 < ((rd_T44 l0 x9_1).f1).size) = false := decide_eq_false (by omega); clear c5; have c8b0 := eq_true (qe (by with_reducible assumption) : 0 ≤ x9_1)
       by_cases c9 : x9_1 ≤ (l0.length : Int)
       ·rw [if_pos c9] at H; have c9b0 := eq_true c9; have c9b1 := qj c9; clear c9
        obtain ⟨y106, hy106⟩ : ∃ y_ : List (S44), y_ = (l0.take (x9_1 : Int).toNat) := ⟨_, rfl⟩
        replace H : (saltusref16_Right.l1 k1 l0 l0 (l0.length : Int) x9_1 y106 (y106.length : Int) 0 ((rd_T44 l0 x9_1).f0) ((rd_T44 l0 x9_1).f1)) = some r := by first | (rw [hy106]; with_reducible exact H) | (have H2_ := (qv _ _).symm.trans H; rw [hy106]; with_reducible exact H2_) | (have H2_ := (qv _ _).symm.trans H; with_reducible exact H2_) | with_reducible exact H | (rw [hy106]; exact H) | exact H
        have Ny106 := qf hy106; clear hy106; have H' := qf H; clear H; have p104 : 0 ≤ (x9_1 : Int) := qe (by with_reducible assumption); have q104 : x9_1 < (l0.length : Int) := qe (by with_reducible assumption); obtain ⟨ad104, e104, hx104_0, hx104_1⟩ := at_T44 HR0.out x9_1 p104 q104; cases e104; replace hx104_0 := (HB.out.cell (qd w _ hx104_0)).trans hx104_0; replace hx104_1 := (HB.out.cell (qd w _ hx104_1)).trans hx104_1; replace p104 := eq_true p104; replace q104 := eq_true q104
        go_wp2_with (first | ((with_reducible refine gate_dst (N := 4) rfl ?_); refine box_event ?hg (N := 4) ?hd (cs := #[.int .u64 0, .string (⟨#[]⟩ : ByteArray)]) (t := 44) ?hr ?_; (case hd => rfl); (case hg => rfl); (case hr => first | (go_simp; done) | (go_simp; rfl)); intro gb105 hg w10 hbox hb; have n0_ := qf (below_step (by repeat (first | (with_reducible first | exact HB.out | apply qa | apply qb | apply qc) | exact HB.out)) hb); have n1_ := qf (hbox); have n2_ := qf ((by rw [hg]; exact (below_size (by repeat (first | (with_reducible first | exact HB.out | apply qa | apply qb | apply qc) | exact HB.out))) : w.heap.size ≤ gb105)); have n3_ := qf ((by rw [hg]; exact (below_size (by repeat (first | (with_reducible first | exact HB.out | apply qa | apply qb | apply qc) | exact HB.out))) : w.heap.size ≤ gb105)); clear HB; have HB := n0_; have BK105 := n1_; have GW105 := n2_; have GE105 := n3_; clear n0_ n1_ n2_ n3_ hb hbox hg; have hcz11_0 : w10.cell? ⟨gb105, 0, none⟩ = some (.int .u64 0) := (blk_cell BK105.out 0).trans rfl; have hcz11_1 : w10.cell? ⟨gb105, 1, none⟩ = some (.string (⟨#[]⟩ : ByteArray)) := (blk_cell BK105.out 1).trans rfl; have hfz11_0 := blk_frozen BK105.out 0; have hfz11_1 := blk_frozen BK105.out 1) | ((with_reducible refine gate_store (t := 44) (p := 4) rfl ?_); refine store_event (t := 44) (p := 4) (v := ?vo_w12) (w1 := ((w10.setCell ⟨gb105, 0, none⟩ (.int .u64 ((rd_T44 l0 x9_1).f0))).setCell ⟨gb105, 1, none⟩ (.string ((rd_T44 l0 x9_1).f1)))) ?hg ?ho ?hn ?hr ?_; (case ho => rfl); (case hg => rfl); (case hn => rfl); (case hr => first | (go_simp; done) | (go_simp; rfl)); intro w12 hw; have n0_ : Aside0 (w12.heap[gb105]? = some (.cells #[.int .u64 ((rd_T44 l0 x9_1).f0), .string ((rd_T44 l0 x9_1).f1)] 44 (0, 0))) := ⟨(by rw [hw]; exact (by (with_reducible repeat (first | refine blk_drewN ?_ _ | refine blk_drew ?_ | refine qh ?_ _)); refine blk_put (cs := #[.int .u64 ((rd_T44 l0 x9_1).f0), .string (⟨#[]⟩ : ByteArray)]) ?_ 1 _ rfl; (with_reducible repeat (first | refine blk_drewN ?_ _ | refine blk_drew ?_ | refine qh ?_ _)); refine blk_put (cs := #[.int .u64 0, .string (⟨#[]⟩ : ByteArray)]) ?_ 0 _ rfl; (with_reducible repeat (first | refine blk_drewN ?_ _ | refine blk_drew ?_ | refine qh ?_ _)); exact BK105.out))⟩; have n1_ : Aside0 (Below w.heap.size w w12) := ⟨(by rw [hw]; exact (by repeat (first | (with_reducible first | exact HB.out | apply qa | apply qb | apply qc | refine qg ?_ GE105.out) | exact HB.out)))⟩; clear hw BK105 HB; have BK105 := n0_; have HB := n1_; clear n0_ n1_; have hcz13_0 : w12.cell? ⟨gb105, 0, none⟩ = some (.int .u64 ((rd_T44 l0 x9_1).f0)) := (blk_cell BK105.out 0).trans rfl; have hcz13_1 : w12.cell? ⟨gb105, 1, none⟩ = some (.string ((rd_T44 l0 x9_1).f1)) := (blk_cell BK105.out 1).trans rfl; have hfz13_0 := blk_frozen BK105.out 0; have hfz13_1 := blk_frozen BK105.out 1; have q14 : (x9_1 : Int) ≤ ((l0.length : Int) : Int) := qe (by with_reducible assumption); obtain ⟨i014, hi014, _, hsz14, _⟩ := info_parts info44; have hroom14 : l0.length ≤ c0 := HC0.out; have hC14 : Kd.C k44 _ (some ad104) l0.length l0 := HR0.out; have hcut14 := cut_to (P := Tryz.prog) 22 44 .i64 Tryz.underlying22 hi014 (some ad104) l0.length c0 x9_1 (qe (by with_reducible assumption)) q14 hroom14; have hr14 := Kd.C_take (m := (x9_1 : Int).toNat) hC14 (by omega); have hy14 : y106.length = (x9_1 : Int).toNat := (by rw [Ny106.out, qw]; omega); rw [← Ny106.out] at hr14; rw [← hy14] at hcut14; have HR109 := qf hr14; have HC109 := qf (show y106.length ≤ c0 from by omega); clear hr14 hC14 hroom14 hi014 hsz14; have KY14 := qf hy14; clear hy14; replace q14 := eq_true q14))
        go_loopg [22] k1 (fun kq v22 w' => ∃ (x22_2 : Int), v22 = .int .i64 x22_2 ∧ Aside0 (saltusref16_Right.l1 kq l0 l0 (l0.length : Int) x9_1 y106 (y106.length : Int) x22_2 ((rd_T44 l0 x9_1).f0) ((rd_T44 l0 x9_1).f1) = some r) ∧ Aside0 (kq ≤ k1) ∧ Aside0 (w'.heap[gb105]? = some (.cells #[.int .u64 ((rd_T44 l0 x9_1).f0), .string ((rd_T44 l0 x9_1).f1)] 44 (0, 0))) ∧ Aside0 (Below w.heap.size w w'))
        case atStart => exact ⟨(0), (by first | rfl | (simp; done) | (simp [*]; done)), H', ⟨Nat.le_refl _⟩, ⟨by (with_reducible repeat (first | refine blk_drewN ?_ _ | refine blk_drew ?_ | refine qh ?_ _)); exact BK105.out⟩, ⟨by repeat (first | (with_reducible first | exact HB.out | apply qa | apply qb | apply qc | refine qg ?_ GE105.out) | exact HB.out)⟩⟩
        case round =>
         clear H'; (try clear p1); (try clear q1); (try clear hx1); (try clear c2); (try clear c2b0); (try clear p2); (try clear c3); (try clear c3b0); (try clear c4); (try clear c4b0); (try clear c5); (try clear c5b0); (try clear c5b1); (try clear c8); (try clear c8b0); (try clear c9); (try clear c9b0); (try clear c9b1); (try clear p10); (try clear q10); (try clear hx10); (try clear q14); (try clear hcz11_0); (try clear hcz11_1); (try clear hcz13_0); (try clear hcz13_1); (try clear hcz7_0); (try clear hcz7_1); (try clear hfz11_0); (try clear hfz11_1); (try clear hfz13_0); (try clear hfz13_1); (try clear hfz7_0); (try clear hfz7_1); (try clear hx104_0); (try clear hx104_1); (try clear p104); (try clear q104); (try clear q14); obtain ⟨x22_2, rfl, HA, HK2, BK105, HB⟩ := hrel
         cases gk with
         | zero => exact absurd HA.out (by simp [saltusref16_Right.l1])
         | succ k2 =>
          have H := HA.out; clear HA; simp only [saltusref16_Right.l1] at H
          by_cases c15 : x22_2 < (y106.length : Int)
          ·rw [if_pos c15] at H; have c15b0 := qj c15; clear c15
           by_cases c16 : 0 ≤ x22_2
           ·rw [if_pos c16] at H; have c16b0 := qj c16; clear c16
            by_cases c17 : x22_2 < (y106.length : Int)
            ·rw [if_pos c17] at H; have c17b0 := qj c17; clear c17
             by_cases c18 : ((rd_T44 y106 x22_2).f0) ≥ ((rd_T44 l0 x9_1).f0)
             ·rw [if_pos c18] at H; have c18b0 := qj c18; clear c18; obtain rfl := Option.some.inj H; have p110 : 0 ≤ (x22_2 : Int) := qe (by with_reducible assumption); have q110 : x22_2 < (y106.length : Int) := qe (by with_reducible assumption); obtain ⟨ad110, e110, hx110_0, hx110_1⟩ := at_T44 HR109.out x22_2 p110 q110; obtain rfl : ad104 = ad110 := (by injection e110); replace hx110_0 := (HB.out.cell (qd w _ hx110_0)).trans hx110_0; replace hx110_1 := (HB.out.cell (qd w _ hx110_1)).trans hx110_1; replace p110 := eq_true p110; replace q110 := eq_true q110
              go_wp2_with (first | ((with_reducible refine gate_dst (N := 6) rfl ?_); refine box_event ?hg (N := 6) ?hd (cs := #[.int .u64 0, .string (⟨#[]⟩ : ByteArray)]) (t := 44) ?hr ?_; (case hd => rfl); (case hg => rfl); (case hr => first | (go_simp; done) | (go_simp; rfl)); intro gb111 hg w19 hbox hb; have n0_ := qf (blk_below (g := gb105) (o := .cells #[.int .u64 ((rd_T44 l0 x9_1).f0), .string ((rd_T44 l0 x9_1).f1)] 44 (0, 0)) (by (with_reducible repeat (first | refine blk_drewN ?_ _ | refine blk_drew ?_ | refine qh ?_ _)); exact BK105.out) hb); have n1_ := qf (below_step (by repeat (first | (with_reducible first | exact HB.out | apply qa | apply qb | apply qc | refine qg ?_ GE105.out) | exact HB.out)) hb); have n2_ := qf (hbox); have n3_ := qf ((by rw [hg]; exact (below_size (by repeat (first | (with_reducible first | exact HB.out | apply qa | apply qb | apply qc | refine qg ?_ GE105.out) | exact HB.out))) : w.heap.size ≤ gb111)); have n4_ := qf ((by rw [hg]; exact (below_size (by repeat (first | (with_reducible first | exact HB.out | apply qa | apply qb | apply qc | refine qg ?_ GE105.out) | exact HB.out))) : w.heap.size ≤ gb111)); have n5_ := qf ((by rw [hg]; exact Nat.ne_of_lt (blk_lt (g := gb105) (o := .cells #[.int .u64 ((rd_T44 l0 x9_1).f0), .string ((rd_T44 l0 x9_1).f1)] 44 (0, 0)) (by (with_reducible repeat (first | refine blk_drewN ?_ _ | refine blk_drew ?_ | refine qh ?_ _)); exact BK105.out)) : gb105 ≠ gb111)); have n6_ := qf ((by rw [hg]; exact Nat.ne_of_gt (blk_lt (g := gb105) (o := .cells #[.int .u64 ((rd_T44 l0 x9_1).f0), .string ((rd_T44 l0 x9_1).f1)] 44 (0, 0)) (by (with_reducible repeat (first | refine blk_drewN ?_ _ | refine blk_drew ?_ | refine qh ?_ _)); exact BK105.out)) : gb111 ≠ gb105)); clear BK105 HB; have BK105 := n0_; have HB := n1_; have BK111 := n2_; have GW111 := n3_; have GE111 := n4_; have NB105_111 := n5_; have NB111_105 := n6_; clear n0_ n1_ n2_ n3_ n4_ n5_ n6_ hb hbox hg; have hnb20 := NB111_105.out; have hnc20 := NB105_111.out; have hcz21_0 : w19.cell? ⟨gb111, 0, none⟩ = some (.int .u64 0) := (blk_cell BK111.out 0).trans rfl; have hcz21_1 : w19.cell? ⟨gb111, 1, none⟩ = some (.string (⟨#[]⟩ : ByteArray)) := (blk_cell BK111.out 1).trans rfl; have hfz21_0 := blk_frozen BK111.out 0; have hfz21_1 := blk_frozen BK111.out 1; have hcz22_0 : w19.cell? ⟨gb105, 0, none⟩ = some (.int .u64 ((rd_T44 l0 x9_1).f0)) := (blk_cell BK105.out 0).trans rfl; have hcz22_1 : w19.cell? ⟨gb105, 1, none⟩ = some (.string ((rd_T44 l0 x9_1).f1)) := (blk_cell BK105.out 1).trans rfl; have hfz22_0 := blk_frozen BK105.out 0; have hfz22_1 := blk_frozen BK105.out 1))
              go_ret; exact ⟨by first | rfl | (simp [errW_none, errW_some] <;> rfl) | (simp [*, errW_none, errW_some] <;> rfl), by repeat (first | (with_reducible first | exact HB.out | apply qa | apply qb | apply qc | refine qg ?_ GE105.out | refine qg ?_ GE111.out) | exact HB.out)⟩
             ·rw [if_neg c18] at H; have c18b0 := decide_eq_false c18; clear c18; have H' := qf H; clear H; have p110 : 0 ≤ (x22_2 : Int) := qe (by with_reducible assumption); have q110 : x22_2 < (y106.length : Int) := qe (by with_reducible assumption); obtain ⟨ad110, e110, hx110_0, hx110_1⟩ := at_T44 HR109.out x22_2 p110 q110; obtain rfl : ad104 = ad110 := (by injection e110); replace hx110_0 := (HB.out.cell (qd w _ hx110_0)).trans hx110_0; replace hx110_1 := (HB.out.cell (qd w _ hx110_1)).trans hx110_1; replace p110 := eq_true p110; replace q110 := eq_true q110
              go_wp2_with (first | ((with_reducible refine gate_dst (N := 6) rfl ?_); refine box_event ?hg (N := 6) ?hd (cs := #[.int .u64 0, .string (⟨#[]⟩ : ByteArray)]) (t := 44) ?hr ?_; (case hd => rfl); (case hg => rfl); (case hr => first | (go_simp; done) | (go_simp; rfl)); intro gb111 hg w23 hbox hb; have n0_ := qf (blk_below (g := gb105) (o := .cells #[.int .u64 ((rd_T44 l0 x9_1).f0), .string ((rd_T44 l0 x9_1).f1)] 44 (0, 0)) (by (with_reducible repeat (first | refine blk_drewN ?_ _ | refine blk_drew ?_ | refine qh ?_ _)); exact BK105.out) hb); have n1_ := qf (below_step (by repeat (first | (with_reducible first | exact HB.out | apply qa | apply qb | apply qc | refine qg ?_ GE105.out) | exact HB.out)) hb); have n2_ := qf (hbox); have n3_ := qf ((by rw [hg]; exact (below_size (by repeat (first | (with_reducible first | exact HB.out | apply qa | apply qb | apply qc | refine qg ?_ GE105.out) | exact HB.out))) : w.heap.size ≤ gb111)); have n4_ := qf ((by rw [hg]; exact (below_size (by repeat (first | (with_reducible first | exact HB.out | apply qa | apply qb | apply qc | refine qg ?_ GE105.out) | exact HB.out))) : w.heap.size ≤ gb111)); have n5_ := qf ((by rw [hg]; exact Nat.ne_of_lt (blk_lt (g := gb105) (o := .cells #[.int .u64 ((rd_T44 l0 x9_1).f0), .string ((rd_T44 l0 x9_1).f1)] 44 (0, 0)) (by (with_reducible repeat (first | refine blk_drewN ?_ _ | refine blk_drew ?_ | refine qh ?_ _)); exact BK105.out)) : gb105 ≠ gb111)); have n6_ := qf ((by rw [hg]; exact Nat.ne_of_gt (blk_lt (g := gb105) (o := .cells #[.int .u64 ((rd_T44 l0 x9_1).f0), .string ((rd_T44 l0 x9_1).f1)] 44 (0, 0)) (by (with_reducible repeat (first | refine blk_drewN ?_ _ | refine blk_drew ?_ | refine qh ?_ _)); exact BK105.out)) : gb111 ≠ gb105)); clear BK105 HB; have BK105 := n0_; have HB := n1_; have BK111 := n2_; have GW111 := n3_; have GE111 := n4_; have NB105_111 := n5_; have NB111_105 := n6_; clear n0_ n1_ n2_ n3_ n4_ n5_ n6_ hb hbox hg; have hnb24 := NB111_105.out; have hnc24 := NB105_111.out; have hcz25_0 : w23.cell? ⟨gb111, 0, none⟩ = some (.int .u64 0) := (blk_cell BK111.out 0).trans rfl; have hcz25_1 : w23.cell? ⟨gb111, 1, none⟩ = some (.string (⟨#[]⟩ : ByteArray)) := (blk_cell BK111.out 1).trans rfl; have hfz25_0 := blk_frozen BK111.out 0; have hfz25_1 := blk_frozen BK111.out 1; have hcz26_0 : w23.cell? ⟨gb105, 0, none⟩ = some (.int .u64 ((rd_T44 l0 x9_1).f0)) := (blk_cell BK105.out 0).trans rfl; have hcz26_1 : w23.cell? ⟨gb105, 1, none⟩ = some (.string ((rd_T44 l0 x9_1).f1)) := (blk_cell BK105.out 1).trans rfl; have hfz26_0 := blk_frozen BK105.out 0; have hfz26_1 := blk_frozen BK105.out 1))
              go_roundg k2
              case measure => have := HK1.out; have := HK2.out; omega
              case rel => exact ⟨(wrap64 (x22_2 + 1)), (by first | rfl | (simp; done) | (simp [*]; done)), H', ⟨by have := HK1.out; have := HK2.out; omega⟩, ⟨by (with_reducible repeat (first | refine blk_drewN ?_ _ | refine blk_drew ?_ | refine qh ?_ _)); refine blk_far ?_ NB105_111.out _; (with_reducible repeat (first | refine blk_drewN ?_ _ | refine blk_drew ?_ | refine qh ?_ _)); refine blk_far ?_ NB105_111.out _; (with_reducible repeat (first | refine blk_drewN ?_ _ | refine blk_drew ?_ | refine qh ?_ _)); exact BK105.out⟩, ⟨by repeat (first | (with_reducible first | exact HB.out | apply qa | apply qb | apply qc | refine qg ?_ GE105.out | refine qg ?_ GE111.out) | exact HB.out)⟩⟩
            ·rw [if_neg c17] at H; exact absurd H (by simp)
           ·rw [if_neg c16] at H; exact absurd H (by simp)
          ·rw [if_neg c15] at H; have c15b0 := decide_eq_false c15; clear c15; have H' := qf H; clear H; go_wp2
           go_roundg k2
           case measure => have := HK1.out; have := HK2.out; omega
           case rel => exact ⟨(wrap64 (x9_1 + 1)), (by first | rfl | (simp; done) | (simp [*]; done)), H', ⟨by have := HK1.out; have := HK2.out; omega⟩, ⟨by repeat (first | (with_reducible first | exact HB.out | apply qa | apply qb | apply qc | refine qg ?_ GE105.out) | exact HB.out)⟩⟩
       ·rw [if_neg c9] at H; exact absurd H (by simp)
     ·rw [if_neg c4] at H; exact absurd H (by simp)
    ·rw [if_neg c3] at H; exact absurd H (by simp)
   ·rw [if_neg c2] at H; have c2b0 := decide_eq_false c2; clear c2; obtain rfl := Option.some.inj H; go_wp2; go_ret; exact ⟨by first | rfl | (simp [errW_none, errW_some] <;> rfl) | (simp [*, errW_none, errW_some] <;> rfl), by repeat (first | (with_reducible first | exact HB.out | apply qa | apply qb | apply qc) | exact HB.out)⟩
/-! ### saltusref16_At: function 10 -/
def saltusref16_At.l0 : Nat → Int → List (S44) → Int → Int → Option (Int)
 | 0, _, _, _, _ => none
 | k + 1, x1, x7, x8, x9 => if x9 < x8 then (if 0 ≤ x9 then (if x9 < (x7.length : Int) then (if ((rd_T44 x7 x9).f0) = x1 then (some x9) else (saltusref16_At.l0 k x1 x7 x8 (wrap64 (x9 + 1)))) else (none)) else (none)) else (some (-1))
def saltusref16_At.f (k : Nat) (l0 : List (S44)) (a1 : Int) : Option (Int) := saltusref16_At.l0 k a1 l0 (l0.length : Int) 0
set_option maxHeartbeats 8000000 in
set_option maxRecDepth 100000 in
theorem saltusref16_At.calls (k : Nat) (A0 : Option Addr) (c0 : Nat) (l0 : List (S44)) (a1 : Int) (r : Int) (w : World) (hr0 : Kd.C k44 w A0 l0.length l0) (hc0 : l0.length ≤ c0) (h : saltusref16_At.f k l0 a1 = some r) :
  Calls Tryz.prog 10 #[.slice A0 l0.length c0, .int .u64 a1] w fun e w' => e = .returned (.int .i64 r) ∧ Below w.heap.size w w' := by
 have hu44 := Tryz.underlying44; have HR0 := qf hr0; have HC0 := qf hc0; clear hr0 hc0; have HB := qf (Below.refl w.heap.size w); have H : (saltusref16_At.l0 k a1 l0 (l0.length : Int) 0) = some r := h; clear h; have H' := qf H; clear H
 go_enter Tryz.func10, Tryz.ntmps10
 go_wp2
 go_loopg [9] k (fun kq v9 w' => ∃ (x9_1 : Int), v9 = .int .i64 x9_1 ∧ Aside0 (saltusref16_At.l0 kq a1 l0 (l0.length : Int) x9_1 = some r) ∧ Aside0 (kq ≤ k) ∧ Aside0 (Below w.heap.size w w'))
 case atStart => exact ⟨(0), (by first | rfl | (simp; done) | (simp [*]; done)), H', ⟨Nat.le_refl _⟩, ⟨by repeat (first | (with_reducible first | exact HB.out | apply qa | apply qb | apply qc) | exact HB.out)⟩⟩
 case round =>
  clear H'; (try clear c1); (try clear p2); obtain ⟨x9_1, rfl, HA, HK1, HB⟩ := hrel
  cases gk with
  | zero => exact absurd HA.out (by simp [saltusref16_At.l0])
  | succ k1 =>
   have H := HA.out; clear HA; simp only [saltusref16_At.l0] at H
   by_cases c3 : x9_1 < (l0.length : Int)
   ·rw [if_pos c3] at H; have c3b0 := qj c3; clear c3
    by_cases c4 : 0 ≤ x9_1
    ·rw [if_pos c4] at H; have c4b0 := qj c4; clear c4
     by_cases c5 : x9_1 < (l0.length : Int)
     ·rw [if_pos c5] at H; have c5b0 := qj c5; clear c5
      by_cases c6 : ((rd_T44 l0 x9_1).f0) = a1
      ·rw [if_pos c6] at H; have c6b0 : (((rd_T44 l0 x9_1).f0) == a1) = true := beq_iff_eq.mpr c6; have c6b1 : (((rd_T44 l0 x9_1).f0) != a1) = false := bne_eq_false_iff_eq.mpr c6; clear c6; obtain rfl := Option.some.inj H; have p112 : 0 ≤ (x9_1 : Int) := qe (by with_reducible assumption); have q112 : x9_1 < (l0.length : Int) := qe (by with_reducible assumption); obtain ⟨ad112, e112, hx112_0, hx112_1⟩ := at_T44 HR0.out x9_1 p112 q112; cases e112; replace hx112_0 := (HB.out.cell (qd w _ hx112_0)).trans hx112_0; replace hx112_1 := (HB.out.cell (qd w _ hx112_1)).trans hx112_1; replace p112 := eq_true p112; replace q112 := eq_true q112
       go_wp2_with (first | ((with_reducible refine gate_dst (N := 6) rfl ?_); refine box_event ?hg (N := 6) ?hd (cs := #[.int .u64 0, .string (⟨#[]⟩ : ByteArray)]) (t := 44) ?hr ?_; (case hd => rfl); (case hg => rfl); (case hr => first | (go_simp; done) | (go_simp; rfl)); intro gb113 hg w7 hbox hb; have n0_ := qf (below_step (by repeat (first | (with_reducible first | exact HB.out | apply qa | apply qb | apply qc) | exact HB.out)) hb); have n1_ := qf (hbox); have n2_ := qf ((by rw [hg]; exact (below_size (by repeat (first | (with_reducible first | exact HB.out | apply qa | apply qb | apply qc) | exact HB.out))) : w.heap.size ≤ gb113)); have n3_ := qf ((by rw [hg]; exact (below_size (by repeat (first | (with_reducible first | exact HB.out | apply qa | apply qb | apply qc) | exact HB.out))) : w.heap.size ≤ gb113)); clear HB; have HB := n0_; have BK113 := n1_; have GW113 := n2_; have GE113 := n3_; clear n0_ n1_ n2_ n3_ hb hbox hg; have hcz8_0 : w7.cell? ⟨gb113, 0, none⟩ = some (.int .u64 0) := (blk_cell BK113.out 0).trans rfl; have hcz8_1 : w7.cell? ⟨gb113, 1, none⟩ = some (.string (⟨#[]⟩ : ByteArray)) := (blk_cell BK113.out 1).trans rfl; have hfz8_0 := blk_frozen BK113.out 0; have hfz8_1 := blk_frozen BK113.out 1))
       go_ret; exact ⟨by first | rfl | (simp [errW_none, errW_some] <;> rfl) | (simp [*, errW_none, errW_some] <;> rfl), by repeat (first | (with_reducible first | exact HB.out | apply qa | apply qb | apply qc | refine qg ?_ GE113.out) | exact HB.out)⟩
      ·rw [if_neg c6] at H; have c6b0 : (((rd_T44 l0 x9_1).f0) == a1) = false := beq_eq_false_iff_ne.mpr c6; have c6b1 : (((rd_T44 l0 x9_1).f0) != a1) = true := bne_iff_ne.mpr c6; have H' := qf H; clear H; have p112 : 0 ≤ (x9_1 : Int) := qe (by with_reducible assumption); have q112 : x9_1 < (l0.length : Int) := qe (by with_reducible assumption); obtain ⟨ad112, e112, hx112_0, hx112_1⟩ := at_T44 HR0.out x9_1 p112 q112; cases e112; replace hx112_0 := (HB.out.cell (qd w _ hx112_0)).trans hx112_0; replace hx112_1 := (HB.out.cell (qd w _ hx112_1)).trans hx112_1; replace p112 := eq_true p112; replace q112 := eq_true q112
       go_wp2_with (first | ((with_reducible refine gate_dst (N := 6) rfl ?_); refine box_event ?hg (N := 6) ?hd (cs := #[.int .u64 0, .string (⟨#[]⟩ : ByteArray)]) (t := 44) ?hr ?_; (case hd => rfl); (case hg => rfl); (case hr => first | (go_simp; done) | (go_simp; rfl)); intro gb113 hg w9 hbox hb; have n0_ := qf (below_step (by repeat (first | (with_reducible first | exact HB.out | apply qa | apply qb | apply qc) | exact HB.out)) hb); have n1_ := qf (hbox); have n2_ := qf ((by rw [hg]; exact (below_size (by repeat (first | (with_reducible first | exact HB.out | apply qa | apply qb | apply qc) | exact HB.out))) : w.heap.size ≤ gb113)); have n3_ := qf ((by rw [hg]; exact (below_size (by repeat (first | (with_reducible first | exact HB.out | apply qa | apply qb | apply qc) | exact HB.out))) : w.heap.size ≤ gb113)); clear HB; have HB := n0_; have BK113 := n1_; have GW113 := n2_; have GE113 := n3_; clear n0_ n1_ n2_ n3_ hb hbox hg; have hcz10_0 : w9.cell? ⟨gb113, 0, none⟩ = some (.int .u64 0) := (blk_cell BK113.out 0).trans rfl; have hcz10_1 : w9.cell? ⟨gb113, 1, none⟩ = some (.string (⟨#[]⟩ : ByteArray)) := (blk_cell BK113.out 1).trans rfl; have hfz10_0 := blk_frozen BK113.out 0; have hfz10_1 := blk_frozen BK113.out 1))
       go_roundg k1
       case measure => have := HK1.out; omega
       case rel => exact ⟨(wrap64 (x9_1 + 1)), (by first | rfl | (simp; done) | (simp [*]; done)), H', ⟨by have := HK1.out; omega⟩, ⟨by repeat (first | (with_reducible first | exact HB.out | apply qa | apply qb | apply qc | refine qg ?_ GE113.out) | exact HB.out)⟩⟩
     ·rw [if_neg c5] at H; exact absurd H (by simp)
    ·rw [if_neg c4] at H; exact absurd H (by simp)
   ·rw [if_neg c3] at H; have c3b0 := decide_eq_false c3; clear c3; obtain rfl := Option.some.inj H; go_wp2; go_ret; exact ⟨by first | rfl | (simp [errW_none, errW_some] <;> rfl) | (simp [*, errW_none, errW_some] <;> rfl), by repeat (first | (with_reducible first | exact HB.out | apply qa | apply qb | apply qc) | exact HB.out)⟩
/-! ### saltusref15_Height: function 45 -/
def saltusref15_Height.l0 : Nat → Int → Int → Option (Int)
 | 0, _, _ => none
 | k + 1, x5, x6 => if (Int.tmod x5 2) = 0 then (if x6 < 8 then (saltusref15_Height.l0 k (IntKind.u64.wrap (Int.tdiv x5 2)) (wrap64 (x6 + 1))) else (some x6)) else (some x6)
def saltusref15_Height.f (k : Nat) (a0 : ByteArray) (a1 : Int) : Option (Int) := (saltusref02_Low.f a1 8).bind fun t114 => ((saltusref10_Word.f a0 t114).bind fun t115 => (saltusref15_Height.l0 k t115 1))
set_option maxHeartbeats 8000000 in
set_option maxRecDepth 100000 in
theorem saltusref15_Height.calls (k : Nat) (a0 : ByteArray) (a1 : Int) (r : Int) (w : World) (h : saltusref15_Height.f k a0 a1 = some r) :
  Calls Tryz.prog 45 #[.string a0, .int .u64 a1] w fun e w' => e = .returned (.int .i64 r) ∧ Below w.heap.size w w' := by
 have HB := qf (Below.refl w.heap.size w); have H : ((saltusref02_Low.f a1 8).bind fun t114 => ((saltusref10_Word.f a0 t114).bind fun t115 => (saltusref15_Height.l0 k t115 1))) = some r := h; clear h; replace H := qi H; obtain ⟨t114, A30, H⟩ := H
 (try dsimp only at H)
 have A3 := qf A30; clear A30; replace H := qi H; obtain ⟨t115, A40, H⟩ := H
 (try dsimp only at H)
 have A4 := qf A40; clear A40; have H' := qf H; clear H
 go_enter Tryz.func45, Tryz.ntmps45
 go_wp2_with (first | ((with_reducible refine gate_callee (f := 64) rfl ?_); refine goesL_ (some 9) rfl rfl Tryz.func64 (by kernel_rfl) rfl #[.int .u64 a1, .int .i64 8] rfl (by (try simp only [List.map_toArray, List.map_cons, List.map_nil]); first | done | rfl | (simp only [List.length_drop, qw]; rfl)) ?_; (with_reducible refine (saltusref02_Low.calls a1 8 t114 _ A3.out).mono ?_); rintro e w5 ⟨rfl, hb⟩; refine ⟨_, rfl, ?_⟩; have n0_ := qf (below_step (by repeat (first | (with_reducible first | exact HB.out | apply qa | apply qb | apply qc) | exact HB.out)) hb); clear HB; have HB := n0_; clear n0_; (try clear hb); (try clear hi)) | ((with_reducible refine gate_callee (f := 66) rfl ?_); refine goesL_ (some 10) rfl rfl Tryz.func66 (by kernel_rfl) rfl #[.string a0, .string t114] rfl (by (try simp only [List.map_toArray, List.map_cons, List.map_nil]); first | done | rfl | (simp only [List.length_drop, qw]; rfl)) ?_; (with_reducible refine (saltusref10_Word.calls a0 t114 t115 _ A4.out).mono ?_); rintro e w6 ⟨rfl, hb⟩; refine ⟨_, rfl, ?_⟩; have n0_ := qf (below_step (by repeat (first | (with_reducible first | exact HB.out | apply qa | apply qb | apply qc) | exact HB.out)) hb); clear HB; have HB := n0_; clear n0_; (try clear hb); (try clear hi)))
 go_loopg [5, 6] k (fun kq v5 v6 w' => ∃ (x5_1 : Int) (x6_1 : Int), v5 = .int .u64 x5_1 ∧ v6 = .int .i64 x6_1 ∧ Aside0 (saltusref15_Height.l0 kq x5_1 x6_1 = some r) ∧ Aside0 (kq ≤ k) ∧ Aside0 (Below w.heap.size w w'))
 case atStart => exact ⟨(t115), (1), (by first | rfl | (simp; done) | (simp [*]; done)), (by first | rfl | (simp; done) | (simp [*]; done)), H', ⟨Nat.le_refl _⟩, ⟨by repeat (first | (with_reducible first | exact HB.out | apply qa | apply qb | apply qc) | exact HB.out)⟩⟩
 case round =>
  clear H'; (try clear p2); (try clear c4); (try clear c6); obtain ⟨x5_1, x6_1, rfl, rfl, HA, HK1, HB⟩ := hrel
  cases gk with
  | zero => exact absurd HA.out (by simp [saltusref15_Height.l0])
  | succ k1 =>
   have H := HA.out; clear HA; simp only [saltusref15_Height.l0] at H
   by_cases c7 : (Int.tmod x5_1 2) = 0
   ·rw [if_pos c7] at H; have c7b0 : ((Int.tmod x5_1 2) == 0) = true := beq_iff_eq.mpr c7; have c7b1 : ((Int.tmod x5_1 2) != 0) = false := bne_eq_false_iff_eq.mpr c7; clear c7
    by_cases c8 : x6_1 < 8
    ·rw [if_pos c8] at H; have c8b0 := qj c8; clear c8; have H' := qf H; clear H; go_wp2
     go_roundg k1
     case measure => have := HK1.out; omega
     case rel => exact ⟨(IntKind.u64.wrap (Int.tdiv x5_1 2)), (wrap64 (x6_1 + 1)), (by first | rfl | (simp; done) | (simp [*]; done)), (by first | rfl | (simp; done) | (simp [*]; done)), H', ⟨by have := HK1.out; omega⟩, ⟨by repeat (first | (with_reducible first | exact HB.out | apply qa | apply qb | apply qc) | exact HB.out)⟩⟩
    ·rw [if_neg c8] at H; have c8b0 := decide_eq_false c8; clear c8; obtain rfl := Option.some.inj H; go_wp2; go_ret; exact ⟨by first | rfl | (simp [errW_none, errW_some] <;> rfl) | (simp [*, errW_none, errW_some] <;> rfl), by repeat (first | (with_reducible first | exact HB.out | apply qa | apply qb | apply qc) | exact HB.out)⟩
   ·rw [if_neg c7] at H; have c7b0 : ((Int.tmod x5_1 2) == 0) = false := beq_eq_false_iff_ne.mpr c7; have c7b1 : ((Int.tmod x5_1 2) != 0) = true := bne_iff_ne.mpr c7; obtain rfl := Option.some.inj H; go_wp2; go_ret; exact ⟨by first | rfl | (simp [errW_none, errW_some] <;> rfl) | (simp [*, errW_none, errW_some] <;> rfl), by repeat (first | (with_reducible first | exact HB.out | apply qa | apply qb | apply qc) | exact HB.out)⟩
/-! ### saltusref15_Heights: function 32 -/
def saltusref15_Heights.l0 : Nat → ByteArray → List Int → List Int → Int → Int → Option (List Int)
 | 0, _, _, _, _, _ => none
 | k + 1, x0, x5, x9, x10, x11 => if x11 < x10 then (if 0 ≤ x11 then (if x11 < (x9.length : Int) then ((saltusref15_Height.f k x0 (rd x9 x11)).bind fun t120 => (if x5.length < 17592186044416 then (saltusref15_Heights.l0 k x0 (x5 ++ [t120]) x9 x10 (wrap64 (x11 + 1))) else (none))) else (none)) else (none)) else (some x5)
def saltusref15_Heights.f (k : Nat) (a0 : ByteArray) (l1 : List Int) : Option (List Int) := saltusref15_Heights.l0 k a0 (([] : List Int)) l1 (l1.length : Int) 0
set_option maxHeartbeats 8000000 in
set_option maxRecDepth 100000 in
theorem saltusref15_Heights.calls (k : Nat) (a0 : ByteArray) (A1 : Option Addr) (c1 : Nat) (l1 : List Int) (r : List Int) (w : World) (hr1 : Kd.C (Kd.int .u64) w A1 l1.length l1) (hc1 : l1.length ≤ c1) (h : saltusref15_Heights.f k a0 l1 = some r) :
  Calls Tryz.prog 32 #[.string a0, .slice A1 l1.length c1] w fun e w' => ∃ v0_ : Value, e = .returned (v0_) ∧ Kd.R (Kd.int .i64) 3 w' w.heap.size (fun _ => True) v0_ r ∧ Below w.heap.size w w' := by
 have HR1 := qf hr1; have HC1 := qf hc1; clear hr1 hc1; have HB := qf (Below.refl w.heap.size w); have H : (saltusref15_Heights.l0 k a0 (([] : List Int)) l1 (l1.length : Int) 0) = some r := h; clear h
 obtain ⟨y116, hy116⟩ : ∃ y_ : List Int, y_ = (([] : List Int)) := ⟨_, rfl⟩
 replace H : (saltusref15_Heights.l0 k a0 y116 l1 (l1.length : Int) 0) = some r := by first | (rw [hy116]; with_reducible exact H) | (have H2_ := (qv _ _).symm.trans H; rw [hy116]; with_reducible exact H2_) | (have H2_ := (qv _ _).symm.trans H; with_reducible exact H2_) | with_reducible exact H | (rw [hy116]; exact H) | exact H
 have Ny116 := qf hy116; clear hy116; have H' := qf H; clear H
 go_enter Tryz.func32, Tryz.ntmps32
 go_wp2_with (first | ((with_reducible refine gate_dst (N := 8) rfl ?_); refine Kd.R_lit (Kd.int .i64) _ 3 ?hg (N := 8) ?hd (xs := ([] : List Int)) (inner := []) (ok := fun _ => True) (okp := fun _ => True) ?hr ?hp (fun _ hk => hk) trivial (Below.refl _ _) (Nat.le_refl _) (by simp) ?_; (case hd => rfl); (case hg => rfl); (case hr => first | (go_simp; done) | (go_simp; rfl)); (case hp => exact (Reps.none _ _)); intro v117 w3 ho4 hb hg_ hnew_; clear hg_ hnew_; (first | rw [← Ny116.out] at ho4 | (simp only [Int.reduceToNat] at ho4; rw [← Ny116.out] at ho4)); have n0_ := qf (Kd.R_lower ho4 (below_size (by repeat (first | (with_reducible first | exact HB.out | apply qa | apply qb | apply qc) | exact HB.out)))); have n1_ := qf (below_step (by repeat (first | (with_reducible first | exact HB.out | apply qa | apply qb | apply qc) | exact HB.out)) hb); clear HB; have HO118 := n0_; have HB := n1_; clear n0_ n1_ hb ho4))
 go_loopg [5, 11] k (fun kq v5 v11 w' => ∃ (x5_1 : List Int) (x11_1 : Int), v11 = .int .i64 x11_1 ∧ Aside0 (saltusref15_Heights.l0 kq a0 x5_1 l1 (l1.length : Int) x11_1 = some r) ∧ Aside0 (kq ≤ k) ∧ Aside0 (Kd.R (Kd.int .i64) 3 w' w.heap.size (fun _ => True) v5 x5_1) ∧ Aside0 (Below w.heap.size w w'))
 case atStart => exact ⟨(y116), (0), (by first | rfl | (simp; done) | (simp [*]; done)), H', ⟨Nat.le_refl _⟩, ⟨by (with_reducible repeat (first | apply Kd.R_alloc | apply Kd.R_drewN | apply Kd.R_drew)); exact HO118.out⟩, ⟨by repeat (first | (with_reducible first | exact HB.out | apply qa | apply qb | apply qc) | exact HB.out)⟩⟩
 case round =>
  clear H'; (try clear c1); (try clear p2); (try clear c3); obtain ⟨x5_1, x11_1, rfl, HA, HK1, HO_5, HB⟩ := hrel
  cases gk with
  | zero => exact absurd HA.out (by simp [saltusref15_Heights.l0])
  | succ k1 =>
   have H := HA.out; clear HA; simp only [saltusref15_Heights.l0] at H
   by_cases c5 : x11_1 < (l1.length : Int)
   ·rw [if_pos c5] at H; have c5b0 := qj c5; clear c5
    by_cases c6 : 0 ≤ x11_1
    ·rw [if_pos c6] at H; have c6b0 := qj c6; clear c6
     by_cases c7 : x11_1 < (l1.length : Int)
     ·rw [if_pos c7] at H; have c7b0 := qj c7; clear c7; replace H := qi H; obtain ⟨t120, A80, H⟩ := H
      (try dsimp only at H)
      have A8 := qf A80; clear A80
      by_cases c9 : x5_1.length < 17592186044416
      ·rw [if_pos c9] at H; have LMc9 := qf c9; clear c9
       obtain ⟨y121, hy121⟩ : ∃ y_ : List Int, y_ = (x5_1 ++ [t120]) := ⟨_, rfl⟩
       replace H : (saltusref15_Heights.l0 k1 a0 y121 l1 (l1.length : Int) (wrap64 (x11_1 + 1))) = some r := by first | (rw [hy121]; with_reducible exact H) | (have H2_ := (qv _ _).symm.trans H; rw [hy121]; with_reducible exact H2_) | (have H2_ := (qv _ _).symm.trans H; with_reducible exact H2_) | with_reducible exact H | (rw [hy121]; exact H) | exact H
       have Ny121 := qf hy121; clear hy121; have H' := qf H; clear H; have p119 : 0 ≤ (x11_1 : Int) := qe (by with_reducible assumption); have q119 : x11_1 < (l1.length : Int) := qe (by with_reducible assumption); obtain ⟨ad119, e119, hx119_0⟩ := Kd.at_int HR1.out x11_1 p119 q119; cases e119; replace hx119_0 := (HB.out.cell (qd w _ hx119_0)).trans hx119_0; replace p119 := eq_true p119; replace q119 := eq_true q119
       go_wp2_with (first | ((with_reducible refine gate_callee (f := 45) rfl ?_); refine goesL_ (some 18) rfl rfl Tryz.func45 (by kernel_rfl) rfl #[.string a0, .int .u64 (rd l1 x11_1)] rfl (by (try simp only [List.map_toArray, List.map_cons, List.map_nil]); first | done | rfl | (simp only [List.length_drop, qw]; rfl)) ?_; (with_reducible refine (saltusref15_Height.calls k1 a0 (rd l1 x11_1) t120 _ A8.out).mono ?_); rintro e w10 ⟨rfl, hb⟩; refine ⟨_, rfl, ?_⟩; have n0_ := qf (Kd.R_below (by (with_reducible repeat (first | apply Kd.R_alloc | apply Kd.R_drewN | apply Kd.R_drew)); exact HO_5.out) hb); have n1_ := qf (below_step (by repeat (first | (with_reducible first | exact HB.out | apply qa | apply qb | apply qc) | exact HB.out)) hb); clear HO_5 HB; have HO_5 := n0_; have HB := n1_; clear n0_ n1_; (try clear hb); (try clear hi)) | ((with_reducible refine gate_builtin (b := .append) (xs := #[.tmp 15, .tmp 19]) rfl ?_); at_builtin; refine Kd.R_append (Kd.int .i64) (w0 := w) w.heap.size rfl (.tmp 15) (.tmp 19) 36 3 (.int .i64 0) 8 rfl Tryz.underlying36 info3 rfl (by decide) (by omega) u5 x5_1 t120 [.int .i64 t120] (fun _ => True) (fun _ => False) rfl rfl ?aP (fun _ hk => hk.elim) ?aF ?aO ?aB ?aS ?aL ?_; (case aP => exact rfl); (case aB => exact (by repeat (first | (with_reducible first | exact HB.out | apply qa | apply qb | apply qc) | exact HB.out))); (case aF => exact (fun _ _ => trivial)); (case aO => exact (by (with_reducible repeat (first | apply Kd.R_alloc | apply Kd.R_drewN | apply Kd.R_drew)); exact HO_5.out)); (case aS => exact (below_size (by repeat (first | (with_reducible first | exact HB.out | apply qa | apply qb | apply qc) | exact HB.out)))); (case aL => have := LMc9.out; omega); intro v122 w11 ho hb hg hat; rw [← Ny121.out] at ho; have n0_ := qf (hb); have n1_ := qf (ho); clear HB HO_5; have HB := n0_; have HO123 := n1_; clear n0_ n1_ ho hb hg hat))
       go_roundg k1
       case measure => have := HK1.out; omega
       case rel => exact ⟨(y121), (wrap64 (x11_1 + 1)), (by first | rfl | (simp; done) | (simp [*]; done)), H', ⟨by have := HK1.out; omega⟩, ⟨by (with_reducible repeat (first | apply Kd.R_alloc | apply Kd.R_drewN | apply Kd.R_drew)); exact HO123.out⟩, ⟨by repeat (first | (with_reducible first | exact HB.out | apply qa | apply qb | apply qc) | exact HB.out)⟩⟩
      ·rw [if_neg c9] at H; exact absurd H (by simp)
     ·rw [if_neg c7] at H; exact absurd H (by simp)
    ·rw [if_neg c6] at H; exact absurd H (by simp)
   ·rw [if_neg c5] at H; have c5b0 := decide_eq_false c5; clear c5; obtain rfl := Option.some.inj H; go_wp2; go_ret; exact ⟨_, by first | rfl | (simp [errW_none, errW_some] <;> rfl) | (simp [*, errW_none, errW_some] <;> rfl), by (with_reducible repeat (first | apply Kd.R_alloc | apply Kd.R_drewN | apply Kd.R_drew)); exact HO_5.out, by repeat (first | (with_reducible first | exact HB.out | apply qa | apply qb | apply qc) | exact HB.out)⟩
end Go.Proofs.YtolbhliepkcihaaGreatDoor.QSF
end
section
namespace Go.Proofs.YtolbhliepkcihaaGreatDoor.QSF
open Go.RowKit Kinds YtolbhliepkcihaaGreatDoorW.PrintWords YtolbhliepkcihaaGreatDoorW.PrintLast YtolbhliepkcihaaGreatDoorW.PrintMore
attribute [local go_sem] max2_int min2_int max_two min_two max_three min_three max_four min_four   -- for this text's walks alone
set_option linter.unusedVariables false
set_option linter.unusedSimpArgs false
/-! ### saltusref16_Keys: function 33 -/
def saltusref16_Keys.l0 : Nat → List Int → List (S44) → Int → Int → Option (List Int)
 | 0, _, _, _, _ => none
 | k + 1, x3, x7, x8, x9 => if x9 < x8 then (if 0 ≤ x9 then (if x9 < (x7.length : Int) then (if x3.length < 17592186044416 then (saltusref16_Keys.l0 k (x3 ++ [(rd_T44 x7 x9).f0]) x7 x8 (wrap64 (x9 + 1))) else (none)) else (none)) else (none)) else (some x3)
def saltusref16_Keys.f (k : Nat) (l0 : List (S44)) : Option (List Int) := saltusref16_Keys.l0 k (([] : List Int)) l0 (l0.length : Int) 0
set_option maxHeartbeats 8000000 in
set_option maxRecDepth 100000 in
theorem saltusref16_Keys.calls (k : Nat) (A0 : Option Addr) (c0 : Nat) (l0 : List (S44)) (r : List Int) (w : World) (hr0 : Kd.C k44 w A0 l0.length l0) (hc0 : l0.length ≤ c0) (h : saltusref16_Keys.f k l0 = some r) :
  Calls Tryz.prog 33 #[.slice A0 l0.length c0] w fun e w' => ∃ v0_ : Value, e = .returned (v0_) ∧ Kd.R (Kd.int .u64) 23 w' w.heap.size (fun _ => True) v0_ r ∧ Below w.heap.size w w' := by
 have hu44 := Tryz.underlying44; have HR0 := qf hr0; have HC0 := qf hc0; clear hr0 hc0; have HB := qf (Below.refl w.heap.size w); have H : (saltusref16_Keys.l0 k (([] : List Int)) l0 (l0.length : Int) 0) = some r := h; clear h
 obtain ⟨y124, hy124⟩ : ∃ y_ : List Int, y_ = (([] : List Int)) := ⟨_, rfl⟩
 replace H : (saltusref16_Keys.l0 k y124 l0 (l0.length : Int) 0) = some r := by first | (rw [hy124]; with_reducible exact H) | (have H2_ := (qv _ _).symm.trans H; rw [hy124]; with_reducible exact H2_) | (have H2_ := (qv _ _).symm.trans H; with_reducible exact H2_) | with_reducible exact H | (rw [hy124]; exact H) | exact H
 have Ny124 := qf hy124; clear hy124; have H' := qf H; clear H
 go_enter Tryz.func33, Tryz.ntmps33
 go_wp2_with (first | ((with_reducible refine gate_dst (N := 6) rfl ?_); refine Kd.R_lit (Kd.int .u64) _ 23 ?hg (N := 6) ?hd (xs := ([] : List Int)) (inner := []) (ok := fun _ => True) (okp := fun _ => True) ?hr ?hp (fun _ hk => hk) trivial (Below.refl _ _) (Nat.le_refl _) (by simp) ?_; (case hd => rfl); (case hg => rfl); (case hr => first | (go_simp; done) | (go_simp; rfl)); (case hp => exact (Reps.none _ _)); intro v125 w2 ho3 hb hg_ hnew_; clear hg_ hnew_; (first | rw [← Ny124.out] at ho3 | (simp only [Int.reduceToNat] at ho3; rw [← Ny124.out] at ho3)); have n0_ := qf (Kd.R_lower ho3 (below_size (by repeat (first | (with_reducible first | exact HB.out | apply qa | apply qb | apply qc) | exact HB.out)))); have n1_ := qf (below_step (by repeat (first | (with_reducible first | exact HB.out | apply qa | apply qb | apply qc) | exact HB.out)) hb); clear HB; have HO126 := n0_; have HB := n1_; clear n0_ n1_ hb ho3))
 go_loopg [3, 9] k (fun kq v3 v9 w' => ∃ (x3_1 : List Int) (x9_1 : Int), v9 = .int .i64 x9_1 ∧ Aside0 (saltusref16_Keys.l0 kq x3_1 l0 (l0.length : Int) x9_1 = some r) ∧ Aside0 (kq ≤ k) ∧ Aside0 (Kd.R (Kd.int .u64) 23 w' w.heap.size (fun _ => True) v3 x3_1) ∧ Aside0 (Below w.heap.size w w'))
 case atStart => exact ⟨(y124), (0), (by first | rfl | (simp; done) | (simp [*]; done)), H', ⟨Nat.le_refl _⟩, ⟨by (with_reducible repeat (first | apply Kd.R_alloc | apply Kd.R_drewN | apply Kd.R_drew)); exact HO126.out⟩, ⟨by repeat (first | (with_reducible first | exact HB.out | apply qa | apply qb | apply qc) | exact HB.out)⟩⟩
 case round =>
  clear H'; (try clear p2); (try clear c3); obtain ⟨x3_1, x9_1, rfl, HA, HK1, HO_3, HB⟩ := hrel
  cases gk with
  | zero => exact absurd HA.out (by simp [saltusref16_Keys.l0])
  | succ k1 =>
   have H := HA.out; clear HA; simp only [saltusref16_Keys.l0] at H
   by_cases c4 : x9_1 < (l0.length : Int)
   ·rw [if_pos c4] at H; have c4b0 := qj c4; clear c4
    by_cases c5 : 0 ≤ x9_1
    ·rw [if_pos c5] at H; have c5b0 := qj c5; clear c5
     by_cases c6 : x9_1 < (l0.length : Int)
     ·rw [if_pos c6] at H; have c6b0 := qj c6; clear c6
      by_cases c7 : x3_1.length < 17592186044416
      ·rw [if_pos c7] at H; have LMc7 := qf c7; clear c7
       obtain ⟨y129, hy129⟩ : ∃ y_ : List Int, y_ = (x3_1 ++ [(rd_T44 l0 x9_1).f0]) := ⟨_, rfl⟩
       replace H : (saltusref16_Keys.l0 k1 y129 l0 (l0.length : Int) (wrap64 (x9_1 + 1))) = some r := by first | (rw [hy129]; with_reducible exact H) | (have H2_ := (qv _ _).symm.trans H; rw [hy129]; with_reducible exact H2_) | (have H2_ := (qv _ _).symm.trans H; with_reducible exact H2_) | with_reducible exact H | (rw [hy129]; exact H) | exact H
       have Ny129 := qf hy129; clear hy129; have H' := qf H; clear H; have p127 : 0 ≤ (x9_1 : Int) := qe (by with_reducible assumption); have q127 : x9_1 < (l0.length : Int) := qe (by with_reducible assumption); obtain ⟨ad127, e127, hx127_0, hx127_1⟩ := at_T44 HR0.out x9_1 p127 q127; cases e127; replace hx127_0 := (HB.out.cell (qd w _ hx127_0)).trans hx127_0; replace hx127_1 := (HB.out.cell (qd w _ hx127_1)).trans hx127_1; replace p127 := eq_true p127; replace q127 := eq_true q127
       go_wp2_with (first | ((with_reducible refine gate_dst (N := 5) rfl ?_); refine box_event ?hg (N := 5) ?hd (cs := #[.int .u64 0, .string (⟨#[]⟩ : ByteArray)]) (t := 44) ?hr ?_; (case hd => rfl); (case hg => rfl); (case hr => first | (go_simp; done) | (go_simp; rfl)); intro gb128 hg w8 hbox hb; have n0_ := qf (Kd.R_below (by (with_reducible repeat (first | apply Kd.R_alloc | apply Kd.R_drewN | apply Kd.R_drew)); exact HO_3.out) hb); have n1_ := qf (below_step (by repeat (first | (with_reducible first | exact HB.out | apply qa | apply qb | apply qc) | exact HB.out)) hb); have n2_ := qf (hbox); have n3_ := qf ((by rw [hg]; exact (below_size (by repeat (first | (with_reducible first | exact HB.out | apply qa | apply qb | apply qc) | exact HB.out))) : w.heap.size ≤ gb128)); have n4_ := qf ((by rw [hg]; exact (below_size (by repeat (first | (with_reducible first | exact HB.out | apply qa | apply qb | apply qc) | exact HB.out))) : w.heap.size ≤ gb128)); clear HO_3 HB; have HO_3 := n0_; have HB := n1_; have BK128 := n2_; have GW128 := n3_; have GE128 := n4_; clear n0_ n1_ n2_ n3_ n4_ hb hbox hg; have hcz9_0 : w8.cell? ⟨gb128, 0, none⟩ = some (.int .u64 0) := (blk_cell BK128.out 0).trans rfl; have hcz9_1 : w8.cell? ⟨gb128, 1, none⟩ = some (.string (⟨#[]⟩ : ByteArray)) := (blk_cell BK128.out 1).trans rfl; have hfz9_0 := blk_frozen BK128.out 0; have hfz9_1 := blk_frozen BK128.out 1) | ((with_reducible refine gate_builtin (b := .append) (xs := #[.tmp 13, .tmp 16]) rfl ?_); at_builtin; refine Kd.R_append (Kd.int .u64) (w0 := w) w.heap.size rfl (.tmp 13) (.tmp 16) 63 23 (.int .u64 0) 8 rfl Tryz.underlying63 info23 rfl (by decide) (by omega) u3 x3_1 ((rd_T44 l0 x9_1).f0) [.int .u64 ((rd_T44 l0 x9_1).f0)] (fun _ => True) (fun _ => False) rfl (by first | (go_simp; done) | (go_simp; rfl)) ?aP (fun _ hk => hk.elim) ?aF ?aO ?aB ?aS ?aL ?_; (case aP => exact rfl); (case aB => exact (by repeat (first | (with_reducible first | exact HB.out | apply qa | apply qb | apply qc | refine qg ?_ GE128.out) | exact HB.out))); (case aF => exact (fun _ _ => trivial)); (case aO => exact (by (with_reducible repeat (first | apply Kd.R_alloc | apply Kd.R_drewN | apply Kd.R_drew)); exact Kd.R_mono (Kd.R_far (p := ⟨gb128, 1, none⟩) (Kd.R_far (p := ⟨gb128, 0, none⟩) (Kd.R_types HO_3.out BK128.out (by decide)) (fun _ hk => hk.2) (.int .u64 ((rd_T44 l0 x9_1).f0))) (fun _ hk => hk.2) (.string ((rd_T44 l0 x9_1).f1))) (fun _ hk => trivial))); (case aS => exact (below_size (by repeat (first | (with_reducible first | exact HB.out | apply qa | apply qb | apply qc | refine qg ?_ GE128.out) | exact HB.out)))); (case aL => have := LMc7.out; omega); intro v130 w10 ho hb hg hat; rw [← Ny129.out] at ho; have n0_ := qf (blk_grown (g := gb128) (o := .cells #[.int .u64 ((rd_T44 l0 x9_1).f0), .string ((rd_T44 l0 x9_1).f1)] 44 (0, 0)) (by (with_reducible repeat (first | refine blk_drewN ?_ _ | refine blk_drew ?_ | refine qh ?_ _)); refine blk_put (cs := #[.int .u64 ((rd_T44 l0 x9_1).f0), .string (⟨#[]⟩ : ByteArray)]) ?_ 1 _ rfl; (with_reducible repeat (first | refine blk_drewN ?_ _ | refine blk_drew ?_ | refine qh ?_ _)); refine blk_put (cs := #[.int .u64 0, .string (⟨#[]⟩ : ByteArray)]) ?_ 0 _ rfl; (with_reducible repeat (first | refine blk_drewN ?_ _ | refine blk_drew ?_ | refine qh ?_ _)); exact BK128.out) hg (Kd.R_ne HO_3.out BK128.out (by decide))); have n1_ := qf (hb); have n2_ := qf (ho); clear BK128 HB HO_3; have BK128 := n0_; have HB := n1_; have HO131 := n2_; clear n0_ n1_ n2_ ho hb hg hat))
       go_roundg k1
       case measure => have := HK1.out; omega
       case rel => exact ⟨(y129), (wrap64 (x9_1 + 1)), (by first | rfl | (simp; done) | (simp [*]; done)), H', ⟨by have := HK1.out; omega⟩, ⟨by (with_reducible repeat (first | apply Kd.R_alloc | apply Kd.R_drewN | apply Kd.R_drew)); exact HO131.out⟩, ⟨by repeat (first | (with_reducible first | exact HB.out | apply qa | apply qb | apply qc | refine qg ?_ GE128.out) | exact HB.out)⟩⟩
      ·rw [if_neg c7] at H; exact absurd H (by simp)
     ·rw [if_neg c6] at H; exact absurd H (by simp)
    ·rw [if_neg c5] at H; exact absurd H (by simp)
   ·rw [if_neg c4] at H; have c4b0 := decide_eq_false c4; clear c4; obtain rfl := Option.some.inj H; go_wp2; go_ret; exact ⟨_, by first | rfl | (simp [errW_none, errW_some] <;> rfl) | (simp [*, errW_none, errW_some] <;> rfl), by (with_reducible repeat (first | apply Kd.R_alloc | apply Kd.R_drewN | apply Kd.R_drew)); exact HO_3.out, by repeat (first | (with_reducible first | exact HB.out | apply qa | apply qb | apply qc) | exact HB.out)⟩
end Go.Proofs.YtolbhliepkcihaaGreatDoor.QSF
end
