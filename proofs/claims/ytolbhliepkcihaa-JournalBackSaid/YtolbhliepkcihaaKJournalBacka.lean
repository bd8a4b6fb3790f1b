/- Joined by a program of this session (wip/pack.py) for this claim: StrRow, Build, Jour, JourPure, JourLoop, JourIter, RegIn, JourScan, JourStub, QJNx0, QJNx1, QJNx3, QJNx4, JourLaw, QJNx2, JourLaw2, QJNx5, JourLaw3. -/
import Derived.Test.YtolbhliepkcihaaPWa
import Derived.ProofKit
import Derived.SliceStrings
import Derived.Test.YtolbhliepkcihaaBaseF
import Derived.Test.YtolbhliepkcihaaBaseC
import Derived.Shelf.Strings.OnBuilder
import Derived.Lib.Builder
import Derived.Lib.AppendStr
import Derived.Laws.Externs
import Derived.RangeFuncNested
import Derived.RangeFuncBound
import Derived.RangeFuncCalls
import Derived.RangeFuncLeaves
import Derived.Shelf.Abstract
import Derived.Shelf.RegionOpen
import Derived.WalkKit
import Derived.OwnWalkIn
import Derived.TacticsInMore
import Derived.LoopNIn
import Derived.LoopIn
import Derived.RangeFuncBox
import Derived.Maps.AppendAt
import Derived.Outline
import Derived.Sort.QuietTacIn
import Derived.Sort.BigQuietIn
import Derived.Test.YtolbhliepkcihaaBaseA
import Derived.RegionIn
import Derived.OrdersIn
import Derived.Test.YtolbhliepkcihaaProg
import Derived.Below
import Derived.Deep.Draws
import Derived.Deep.AppendLies
import Derived.OwnWalk
import Derived.Laws.BytesArg
import Derived.Laws.MakeOwn
import Derived.Laws.OwnMore
import Derived.Deep.OwnRows
import Derived.Tactics
import Derived.Lib.ConvBytes
import Derived.Laws.Slices
import Derived.KernelRfl
import Derived.RowKit3
import Derived.Deep.LoopGhost
import Derived.Deep.QuietTactic
import Derived.BigQuiet
import Derived.WideLaws
import Derived.Deep.DeepCutAuto
import Derived.Deep.CutBlock
import Derived.Deep.RegionHeld3
import Derived.Laws.Rows
import Derived.ArgAppend
import Derived.Laws.IdiomCopy
import Derived.OrdersHeld
import Derived.Laws.BitsLemmas
import Derived.RowKit
section
namespace Go.Proofs.Ytolbhliepkcihaa
open Go.ChangeShapes Go.WideShapes Go.RowKit Go.Proofs.YtolbhliepkcihaaW.PrintWords
theorem row_strs {H : Type} {enc : TypeId × Value → H} {P : Program} {W : World} {base : Nat} {spare : Nat → Bool} {held : Bool} {t e : TypeId} {fuel : Nat} {A : Option Addr} {len cap : Nat} {x : DataW H × List MemPlace}
  (ht : P.underlying t = some (.slice e)) (he : P.underlying e = some .string) (hc : P.cellsOf e = 1) (h : DataW.trod enc P W base spare held fuel t (Value.cells (.slice A len cap)).toList = some x) :
  ∃ l : List ByteArray, l.length = len ∧ len ≤ cap ∧ Kd.C Kd.string W A l.length l := by
 rcases open_strings ht he hc h with ⟨hcs, _⟩ | ⟨a, len', cap', ss, hcs, _, hl, hm, hz, _, hcell, _⟩
 ·simp [Value.cells] at hcs
  obtain ⟨rfl, rfl, rfl⟩ := hcs
  exact ⟨[], rfl, Nat.le_refl _, Kd.C_nil _ _⟩
 ·simp [Value.cells] at hcs
  obtain ⟨rfl, rfl, rfl⟩ := hcs
  have hls : len ≤ ss.length := by
   rw [hz]
   split
   ·exact hl
   ·exact Nat.le_refl _
  have h1 : (ss.take len).length = len := by rw [List.length_take]; omega
  unfold maxLen at hm
  refine ⟨ss.take len, h1, hl, ?_⟩
  rw [h1]
  refine ⟨h1, by omega, fun _ => ⟨a, rfl, fun j p hj => ⟨[.string p], rfl, rfl, fun i u hu => ?_⟩⟩⟩
  have hjl : j < len := by
   have := (List.getElem?_eq_some_iff.1 hj).1
   omega
  match i, hu with
  | 0, hu =>
   have hu : Value.string p = u := by simpa using hu
   subst hu
   rw [List.getElem?_take, if_pos hjl] at hj
   have h2 := hcell j (by omega)
   rw [List.getD_eq_getElem?_getD, hj] at h2
   show W.cell? (a.add (j * 1 + 0)) = _
   rw [Nat.mul_one, Nat.add_zero]
   exact h2
end Go.Proofs.Ytolbhliepkcihaa
end
section
namespace Go.Proofs.Ytolbhliepkcihaa.Build
open Go.RowKit Go.Proofs.YtolbhliepkcihaaW.PrintWords Go.Proofs.Ytolbhliepkcihaa.Sha Go.Proofs.Ytolbhliepkcihaa.Mac Go.Proofs.Ytolbhliepkcihaa.Codec
theorem b_info : (Try.prog.info? 105).map (·.size) = some 2 := by kernel_rfl
theorem b_lies : liesAt Try.prog Try.prog.depth 105 (2 / Try.prog.cellsOf 105) 0 105 1 = true := by kernel_rfl
theorem u8_info : (Try.prog.info? 5).map (fun i => (i.zero, i.size, i.bytes)) = some (some (.int .u8 0), 1, 1) := by kernel_rfl
set_option maxHeartbeats 1000000 in
set_option maxRecDepth 100000 in
theorem check_used (b : Nat) (w : World) (h0 : w.cell? ⟨b, 0, none⟩ = some (.pointer (some ⟨b, 0, none⟩))) :
  Calls Try.prog 110 #[.pointer (some ⟨b, 0, none⟩)] w fun e w' => e = .returned (.tuple #[]) ∧ w' = w := by
 obtain ⟨j, hj, _⟩ := Option.map_eq_some_iff.1 b_info
 have hq := Lib.run_neq_ptr_same (P := Try.prog) w ⟨b, 0, none⟩ Try.underlying103 hj
 go_enter Try.func110, Try.ntmps110
 go_wp2
 go_end0
 exact ⟨rfl, rfl⟩
set_option maxHeartbeats 1000000 in
set_option maxRecDepth 100000 in
theorem check_fresh (b : Nat) (w : World) (h0 : w.cell? ⟨b, 0, none⟩ = some (.pointer none)) (hsh : w.shape? b = some (105, 2)) (hfz : w.frozen? ⟨b, 0, none⟩ = false) :
  Calls Try.prog 110 #[.pointer (some ⟨b, 0, none⟩)] w fun e w' => e = .returned (.tuple #[]) ∧ w' = w.setCell ⟨b, 0, none⟩ (.pointer (some ⟨b, 0, none⟩)) := by
 obtain ⟨j, hj, hjs⟩ := Option.map_eq_some_iff.1 b_info
 go_enter Try.func110, Try.ntmps110
 go_wp2
 rw [Lib.run_to_unsafe w ⟨b, 0, none⟩ Try.underlying103 Try.underlying139 hj (by rw [hjs]; decide) hsh (Nat.zero_lt_succ 1)]
 simp only [Result.andThen]
 rw [Oper.upon_value]
 go_wp2
 rw [run_callFunc_extern Try.func116 (by kernel_rfl) (by kernel_rfl) (by kernel_rfl) (e := Extern.AbiNoEscape.same) (by kernel_rfl)]
 rw [Lib.run_noEscape]
 simp only [Result.andThen]
 rw [Oper.upon_value]
 go_wp2
 rw [Lib.run_from_unsafe w ⟨b, 0, none⟩ Try.underlying139 Try.underlying103 hj hsh b_lies]
 simp only [Result.andThen]
 rw [Oper.upon_value]
 go_wp2
 go_end0
 exact ⟨rfl, rfl⟩
theorem check_any (B b : Nat) (bs : List Value) (w : World) (h : Lib.IsBuilder 105 5 B b bs w) :
  Calls Try.prog 110 #[.pointer (some ⟨b, 0, none⟩)] w fun e w' => e = .returned (.tuple #[]) ∧ (Lib.BuilderAt 105 5 B b (.pointer (some ⟨b, 0, none⟩)) bs w' ∧ Below B w w') := by
 rcases h with h | h
 ·refine (check_fresh b w h.cell0 h.shape h.frozen0).mono ?_
  rintro e w' ⟨rfl, rfl⟩
  exact ⟨rfl, h.used _, (Below.refl B w).setCell (p := ⟨b, 0, none⟩) h.1 _⟩
 ·refine (check_used b w h.cell0).mono ?_
  rintro e w' ⟨rfl, rfl⟩
  exact ⟨rfl, h, Below.refl B _⟩
set_option maxHeartbeats 2000000 in
set_option maxRecDepth 100000 in
theorem write_any (B b : Nat) (bs : List Value) (s : ByteArray) (w : World) (h : Lib.IsBuilder 105 5 B b bs w) (hlen : bs.length + s.size ≤ 140737488355328) (hBw : B ≤ w.heap.size) :
  Calls Try.prog 89 #[.pointer (some ⟨b, 0, none⟩), .string s] w fun e w' => e = .returned (.tuple #[.int .i64 s.size, .nilIface]) ∧ (Lib.BuilderAt 105 5 B b (.pointer (some ⟨b, 0, none⟩)) (bs ++ Lib.strCells s) w' ∧ Below B w w') := by
 obtain ⟨i0, hi, hz0, hz1, hz2⟩ := info_parts u8_info
 go_enter Try.func89, Try.ntmps89
 go_wp2_with (go_at_call 110; refine (check_any B b bs _ h).mono ?_)
 rintro e w1 ⟨rfl, h1, hb1⟩
 obtain ⟨hB, v, hbk, hown, hne⟩ := h1
 have c0 : w1.cell? ⟨b, 0, none⟩ = some (.pointer (some ⟨b, 0, none⟩)) := by rw [Lib.cell_of_heap hbk]; rfl
 have c1 : w1.cell? ⟨b, 1, none⟩ = some v := by rw [Lib.cell_of_heap hbk]; rfl
 go_wp2_with (at_builtin; refine Lib.wpList_append_own_string _ rfl _ _ 37 9 rfl B 5 i0 Try.underlying37 Try.underlying9 hi hz0 hz1 hz2 _ _ _ rfl hown s rfl ?c3 ?c4 ?c5 ?_)
 case c3 => unfold maxLen; omega
 case c4 => omega
 case c5 => have := hb1.size; omega
 intro v' w2 hown' hgrow _
 have hlt : b < w1.heap.size := by
  rcases Nat.lt_or_ge b w1.heap.size with h' | h'
  ·exact h'
  ·simp [Array.getElem?_eq_none h'] at hbk
 have hb2 : w2.heap[b]? = some (.cells #[.pointer (some ⟨b, 0, none⟩), v] 105 (0, 0)) := by
  rw [hgrow.block b hlt (fun e => hne e.symm)]
  exact hbk
 have d0 : w2.cell? ⟨b, 0, none⟩ = some (.pointer (some ⟨b, 0, none⟩)) := by rw [Lib.cell_of_heap hb2]; rfl
 have d1 : w2.cell? ⟨b, 1, none⟩ = some v := by rw [Lib.cell_of_heap hb2]; rfl
 have f1 : w2.frozen? ⟨b, 1, none⟩ = false := Lib.frozen_of_heap hb2 1
 obtain ⟨ao, n', cap, rfl⟩ : ∃ ao n' cap, v' = .slice ao n' cap := by
  rcases hown'.2 with ⟨hv, _⟩ | ⟨g, cap, cur, hv, _⟩
  ·exact ⟨_, _, _, hv⟩
  ·exact ⟨_, _, _, hv⟩
 go_wp2
 go_ret2
 refine ⟨rfl, ?_, ?_⟩
 ·exact Lib.BuilderAt.put (T := 105) (e := 5) hB hb2 (bs' := bs ++ Lib.strCells s) (by simpa [Lib.strCells_length] using hown') (by decide)
 ·exact (hb1.grown hgrow (by have := hb1.size; omega) (fun k hk => (hown.lt k hk).1)).setCell (p := ⟨b, 1, none⟩) hB _
end Go.Proofs.Ytolbhliepkcihaa.Build
end
section
namespace Go.Proofs.Ytolbhliepkcihaa.Jour
open Go.RowKit Go.Proofs.YtolbhliepkcihaaW.PrintWords Go.Proofs.Ytolbhliepkcihaa.Sha Go.Proofs.Ytolbhliepkcihaa.Mac Go.Proofs.Ytolbhliepkcihaa.Codec Go.Proofs.Ytolbhliepkcihaa.Build
def nextN (key : ByteArray) (last : Nat) (s : ByteArray) : Nat := wordN key (numS last ++ textS s)
def recS (key : ByteArray) (last : Nat) (s : ByteArray) : ByteArray := textS s ++ numS (nextN key last s)
def goN (key : ByteArray) : Nat → List ByteArray → Nat
 | last, [] => last
 | last, s :: r => goN key (nextN key last s) r
def wrS (key : ByteArray) : Nat → List ByteArray → ByteArray
 | _, [] => ⟨#[]⟩
 | last, s :: r => recS key last s ++ wrS key (nextN key last s) r
theorem nextN_lt (key : ByteArray) (last : Nat) (s : ByteArray) : nextN key last s < 18446744073709551616 := wordN_lt key (numS last ++ textS s)
theorem recS_size (key : ByteArray) (last : Nat) (s : ByteArray) : (recS key last s).size = s.size + 10 := by unfold recS; rw [ByteArray.size_append, textS_size, numS_size]
theorem goN_app (key : ByteArray) : ∀ (a b : List ByteArray) (last : Nat), goN key last (a ++ b) = goN key (goN key last a) b
 | [], _, _ => rfl
 | s :: a, b, last => goN_app key a b (nextN key last s)
theorem wrS_app (key : ByteArray) : ∀ (a b : List ByteArray) (last : Nat), wrS key last (a ++ b) = wrS key last a ++ wrS key (goN key last a) b
 | [], b, last => (ByteArray.empty_append (b := wrS key last b)).symm
 | s :: a, b, last => by
  show recS key last s ++ wrS key (nextN key last s) (a ++ b) = recS key last s ++ wrS key (nextN key last s) a ++ wrS key (goN key (nextN key last s) a) b
  rw [wrS_app key a b, ByteArray.append_assoc]
theorem goN_lt (key : ByteArray) : ∀ (l : List ByteArray) (last : Nat), last < 18446744073709551616 → goN key last l < 18446744073709551616
 | [], _, h => h
 | s :: r, last, _ => goN_lt key r _ (nextN_lt key last s)
theorem wrS_size (key : ByteArray) : ∀ (l : List ByteArray) (last : Nat), (∀ s, s ∈ l → s.size ≤ 4096) → (wrS key last l).size ≤ 4106 * l.length
 | [], _, _ => Nat.le_refl 0
 | s :: r, last, h => by
  have ih := wrS_size key r (nextN key last s) (fun t ht => h t (List.mem_cons_of_mem _ ht))
  have h1 := h s List.mem_cons_self
  show (recS key last s ++ wrS key (nextN key last s) r).size ≤ _
  rw [ByteArray.size_append, recS_size, List.length_cons]
  omega
theorem wrS_one (key : ByteArray) (last : Nat) (s : ByteArray) : wrS key last [s] = recS key last s := ByteArray.append_empty (b := recS key last s)
theorem cells_app (a b : ByteArray) : Lib.strCells (a ++ b) = Lib.strCells a ++ Lib.strCells b := by
 rw [Lib.strCells_eq, Lib.strCells_eq, Lib.strCells_eq, ← Lib.byteCells_append]
 rfl
theorem below_grows {B : Nat} {w w' : World} (h : Below B w w') (row : Option Nat) (hB : w.heap.size ≤ B) : w.grownBy w' row := ⟨h.os, h.tape, h.output, h.size, fun i hi _ => h.block i (by omega)⟩
theorem bat_below {T e : TypeId} {B b : Nat} {p : Value} {bs : List Value} {w w' : World} (h : Lib.BuilderAt T e B b p bs w) (hb : Below w.heap.size w w') : Lib.BuilderAt T e B b p bs w' := by
 have hlt := h.lt
 obtain ⟨hB, v, h1, h2, h3⟩ := h
 refine ⟨hB, v, (hb.block b hlt).trans h1, h2.kept (row := none) (below_grows hb none (Nat.le_refl _)) (by cases v.ownBlock <;> simp), h3⟩
theorem is_below {T e : TypeId} {B b : Nat} {bs : List Value} {w w' : World} (h : Lib.IsBuilder T e B b bs w) (hb : Below w.heap.size w w') : Lib.IsBuilder T e B b bs w' := h.imp (bat_below · hb) (bat_below · hb)
theorem str_at {w : World} {A : Option Addr} {l : List ByteArray} (h : Kd.C Kd.string w A l.length l) (h0 : 0 < l.length) : ∃ ad, A = some ad ∧ ∀ k, (hk : k < l.length) → w.cell? (ad.add k) = some (.string l[k]) := by
 obtain ⟨ad, e, _⟩ := h.2.2 h0
 refine ⟨ad, e, fun k hk => ?_⟩
 obtain ⟨ad', c, e', _, hK, hc⟩ := Kd.C_get h (⟨#[]⟩ : ByteArray) (k : Int) (by omega) (by omega)
 rw [e] at e'
 cases e'
 obtain rfl := hK
 have h1 := hc 0 _ rfl
 have h2 : l.getD k (⟨#[]⟩ : ByteArray) = l[k] := by rw [List.getD_eq_getElem?_getD, List.getElem?_eq_getElem hk]; rfl
 have h3 : (k : Int).toNat * Kd.string.sz + 0 = k := by show (k : Int).toNat * 1 + 0 = k; omega
 rw [h3, Int.toNat_natCast, h2] at h1
 exact h1
/-! ### Start, Record -/
set_option maxRecDepth 100000 in
theorem start_any (key first : ByteArray) (w : World) (hk : key.size ≤ 1000000000) (hf : first.size ≤ 1000000000) :
  Calls Try.prog 54 #[.string key, .string first] w fun e w' => e = .returned (.int .u64 (wordN key first : Nat)) ∧ Below w.heap.size w w' := by
 have G := Lib.hid (trust_Word.calls key first _ w (if_pos ⟨hk, hf⟩))
 go_enter Try.func54, Try.ntmps54
 go_wp2_with (go_at_call 44; refine (G.out).mono ?_; rintro e w1 ⟨rfl, hb⟩)
 go_ret
 exact ⟨rfl, hb⟩
set_option maxRecDepth 100000 in
set_option maxHeartbeats 1000000 in
theorem rec_bad (key : ByteArray) (last : Int) (s : ByteArray) (w : World) (hs : 4096 < s.size) :
  Calls Try.prog 56 #[.string key, .int .u64 last, .string s] w fun e w' => e = .returned (.tuple #[.string ⟨#[]⟩, .int .u64 0, .int .i64 4]) ∧ Below w.heap.size w w' := by
 have G := Lib.hid (codec_Text.calls s ⟨#[]⟩ 4 w (if_neg (by omega)))
 go_enter Try.func56, Try.ntmps56
 go_wp2_with (go_at_call 82; refine (G.out).mono ?_; rintro e w1 ⟨rfl, hb⟩)
 go_ret3
 exact ⟨rfl, hb⟩
set_option maxRecDepth 100000 in
set_option maxHeartbeats 1000000 in
theorem rec_ok (key : ByteArray) (last : Nat) (s : ByteArray) (w : World) (hk : key.size ≤ 1000000000) (hl : last < 18446744073709551616) (hs : s.size ≤ 4096) :
  Calls Try.prog 56 #[.string key, .int .u64 (last : Int), .string s] w fun e w' => e = .returned (.tuple #[.string (recS key last s), .int .u64 (nextN key last s : Nat), .int .i64 0]) ∧ Below w.heap.size w w' := by
 have G1 := Lib.hid (codec_Text.calls s (textS s) 0 · (if_pos hs))
 have G2 := Lib.hid (codec_Number.calls (last : Int) (numS last) · (by unfold codec_Number.f; rw [if_pos ⟨by omega, by omega⟩, Int.toNat_natCast]))
 have G3 := Lib.hid (trust_Word.calls key (numS last ++ textS s) _ · (if_pos ⟨hk, by rw [ByteArray.size_append, numS_size, textS_size]; omega⟩))
 have hn := nextN_lt key last s
 have G4 := Lib.hid (codec_Number.calls (nextN key last s : Nat) (numS (nextN key last s)) · (by unfold codec_Number.f; rw [if_pos ⟨by omega, by omega⟩, Int.toNat_natCast]))
 have HR : Hid (recS key last s = textS s ++ numS (nextN key last s)) := Lib.hid rfl
 have z1 : (numS last).size = 8 := numS_size _
 have z2 : (textS s).size ≤ 4098 := by rw [textS_size]; omega
 have z3 : (numS (nextN key last s)).size = 8 := numS_size _
 have HNE : Hid (nextN key last s = wordN key (numS last ++ textS s)) := Lib.hid rfl
 rw [← HNE.out] at G3
 rw [HR.out]
 generalize nextN key last s = n at *
 generalize hy1 : numS last = y1 at *
 generalize hy2 : textS s = y2 at *
 generalize hy3 : numS n = y3 at *
 clear HR HNE hy1 hy2 hy3
 have HB := Aside0.mk (Below.refl w.heap.size w)
 go_enter Try.func56, Try.ntmps56
 go_wp2_with (first | (go_at_call 82; refine (G1.out _).mono ?_; rintro e w1 ⟨rfl, hb⟩; replace HB := Aside0.mk (below_step HB.out hb); clear hb) | (go_at_call 91; ((with_reducible refine (G2.out _).mono ?_); rintro e w1 ⟨rfl, hb⟩; replace HB := Aside0.mk (below_step HB.out hb); clear hb)) | (go_at_call 91; ((with_reducible refine (G4.out _).mono ?_); rintro e w1 ⟨rfl, hb⟩; replace HB := Aside0.mk (below_step HB.out hb); clear hb)) | (go_at_call 44; refine (G3.out _).mono ?_; rintro e w1 ⟨rfl, hb⟩; replace HB := Aside0.mk (below_step HB.out hb); clear hb))
 go_ret3
 exact ⟨rfl, HB.out⟩
/-! ### Write -/
def longB (l : List ByteArray) : Bool := l.any fun s => decide (4096 < s.size)
def wrR (key first : ByteArray) (l : List ByteArray) : ByteArray × Int := if longB l = true then (⟨#[]⟩, 4) else (wrS key (wordN key first) l, 0)
set_option maxRecDepth 100000 in
set_option maxHeartbeats 4000000 in
theorem write_any2 (key first : ByteArray) (A : Option Addr) (c : Nat) (l : List ByteArray) (w : World) (hr : Kd.C Kd.string w A l.length l) (_ : l.length ≤ c) (hn : l.length ≤ 1000000) (hk : key.size ≤ 1000000000) (hf : first.size ≤ 1000000000) :
  Calls Try.prog 53 #[.string key, .string first, .slice A l.length c] w fun e w' => e = .returned (.tuple #[.string (wrR key first l).1, .int .i64 (wrR key first l).2]) ∧ Below w.heap.size w w' := by
 have HC := Aside0.mk hr
 have HU0 := Aside0.mk (Lib.fresh_isBuilder 105 5 w)
 have HA := Aside0.mk ((Below.refl w.heap.size w).alloc (Nat.le_refl _) (.cells #[.pointer none, .slice none 0 0] 105))
 have HW0 := Lib.hid (wordN_lt key first)
 have HP : Hid (∀ _ : Nat, wrR key first l = if longB l = true then (⟨#[]⟩, 4) else (wrS key (wordN key first) l, 0)) := Lib.hid (fun _ => rfl)
 have GS := Lib.hid (fun W => start_any key first W hk hf)
 generalize wordN key first = w0 at *
 clear hr
 go_enter Try.func53, Try.ntmps53
 go_upto_region 3 with (go_at_call 54; refine (GS.out _).mono ?_; rintro e w1 ⟨rfl, hb⟩; replace HU0 := Aside0.mk (is_below HU0.out hb); replace HA := Aside0.mk (HA.out.trans (hb.mono (by simp))); clear hb)
 go_wp2
 go_loopw [9, 20] (fun nv iv wr => ∃ k : Nat, k ≤ l.length ∧ iv = .int .i64 k ∧ nv = .int .u64 (goN key w0 (l.take k) : Nat) ∧ Hid (∀ s, s ∈ l.take k → s.size ≤ 4096) ∧ Aside0 (Lib.IsBuilder 105 5 w.heap.size w.heap.size (Lib.strCells (wrS key w0 (l.take k))) wr) ∧ Aside0 (Below w.heap.size w wr)) (fun _ iv _ => l.length - (intOf iv).toNat)
 case atStart => exact ⟨0, Nat.zero_le _, rfl, rfl, Lib.hid (fun s h => by cases h), HU0, HA⟩
 case round =>
  obtain ⟨k, hkl, rfl, rfl, HZ, HU, HB⟩ := hrel
  clear HU0 HA
  by_cases hlt : k < l.length
  ·obtain ⟨ad, e1, hx⟩ := str_at HC.out (by omega)
   subst e1
   have hx0 := hx k hlt
   replace hx0 := (HB.out.cell (World.block_lt_of_cell? w _ hx0)).trans hx0
   clear hx
   have hB2 : w.heap.size < wr.heap.size := by
    rcases HU.out with h | h
    ·exact h.lt
    ·exact h.lt
   have hg : goN key w0 (l.take k) < 18446744073709551616 := goN_lt key _ _ HW0.out
   have i0 : (0 : Int) ≤ (k : Int) := by omega
   have i1 : (k : Int) < (l.length : Int) := by omega
   by_cases hs : l[k].size ≤ 4096
   ·have G := Lib.hid (fun W => rec_ok key (goN key w0 (l.take k)) l[k] W hk hg hs)
    have ET : l.take (k + 1) = l.take k ++ [l[k]] := List.take_succ_eq_append_getElem hlt
    have HZ2 : Hid (∀ s, s ∈ l.take (k + 1) → s.size ≤ 4096) := Lib.hid (fun s h => by
     rw [ET] at h
     rcases List.mem_append.1 h with h | h
     ·exact HZ.out s h
     ·rw [List.mem_singleton.1 h]; exact hs)
    have HG : Hid (goN key w0 (l.take (k + 1)) = nextN key (goN key w0 (l.take k)) l[k]) := Lib.hid (by rw [ET, goN_app]; rfl)
    have HT : Hid (Lib.strCells (wrS key w0 (l.take (k + 1))) = Lib.strCells (wrS key w0 (l.take k)) ++ Lib.strCells (recS key (goN key w0 (l.take k)) l[k])) := Lib.hid (by rw [ET, wrS_app, wrS_one, cells_app])
    have hbl : (Lib.strCells (wrS key w0 (l.take k))).length = (wrS key w0 (l.take k)).size := Lib.strCells_length _
    have hsz := wrS_size key (l.take k) w0 HZ.out
    have hrz := recS_size key (goN key w0 (l.take k)) l[k]
    rw [List.length_take] at hsz
    have W1 := Lib.hid (fun (W : World) (h : Lib.IsBuilder 105 5 w.heap.size w.heap.size (Lib.strCells (wrS key w0 (l.take k))) W) (hB : Below w.heap.size w W) => write_any w.heap.size w.heap.size _ (recS key (goN key w0 (l.take k)) l[k]) W h (by rw [hbl]; omega) hB.size)
    clear hbl hsz hrz ET hg HZ
    generalize recS key (goN key w0 (l.take k)) l[k] = y at *
    generalize nextN key (goN key w0 (l.take k)) l[k] = n at *
    generalize goN key w0 (l.take k) = m at *
    generalize l[k] = s at *
    clear hs
    go_wp2_with fail
    refine (G.out _).mono ?_
    rintro e w3 ⟨rfl, hb3⟩
    replace HU := Aside0.mk (is_below HU.out hb3)
    replace HB := Aside0.mk (HB.out.trans (hb3.mono (by omega)))
    clear hb3 G
    go_wp2_with fail
    refine (W1.out _ HU.out HB.out).mono ?_
    rintro e w4 ⟨rfl, hu4, hb4⟩
    replace HB := Aside0.mk (HB.out.trans hb4)
    clear hb4
    go_wp2
    go_roundw
    case rel => exact ⟨k + 1, by omega, by go_num, by rw [HG.out], HZ2, ⟨by rw [HT.out]; exact .inr hu4⟩, HB⟩
    case measure => simp [intOf]; omega
   ·have G := Lib.hid (fun W => rec_bad key (goN key w0 (l.take k) : Nat) l[k] W (by omega))
    have HL : Hid (longB l = true) := Lib.hid (List.any_eq_true.2 ⟨_, List.getElem_mem hlt, decide_eq_true (by omega)⟩)
    clear hg HZ hs
    generalize goN key w0 (l.take k) = m at *
    generalize l[k] = s at *
    go_wp2_with fail
    refine (G.out _).mono ?_
    rintro e w3 ⟨rfl, hb3⟩
    replace HB := Aside0.mk (HB.out.trans (hb3.mono (by omega)))
    clear hb3 G
    go_wp2
    go_ret2
    exact ⟨by rw [HP.out 0, if_pos HL.out]; rfl, HB.out⟩
  ·obtain rfl : k = l.length := by omega
   rw [List.take_length] at HU HZ
   have HL : Hid (¬ longB l = true) := Lib.hid (fun h => by
    obtain ⟨s, hs, h2⟩ := List.any_eq_true.1 h
    have := HZ.out s hs
    have := of_decide_eq_true h2
    omega)
   have hs : Lib.strCells (wrS key w0 l) = Lib.byteCells (wrS key w0 l).data.toList := rfl
   rw [hs] at HU
   have HE := Lib.hid (Try.Builder_String_any w.heap.size w.heap.size (wrS key w0 l).data.toList wr HU.out HB.out.size)
   clear hs hkl hlt
   go_wp2_with fail
   refine (HE.out).mono ?_
   rintro e w3 ⟨rfl, hb3⟩
   go_wp2
   go_ret2
   exact ⟨by rw [HP.out 0, if_neg HL.out]; rfl, HB.out.trans hb3⟩
end Go.Proofs.Ytolbhliepkcihaa.Jour
end
section
namespace Go.Proofs.Ytolbhliepkcihaa.Jour
open Go.RowKit Go.Proofs.YtolbhliepkcihaaW.PrintWords Go.Proofs.Ytolbhliepkcihaa.Sha Go.Proofs.Ytolbhliepkcihaa.Mac Go.Proofs.Ytolbhliepkcihaa.Codec Go.Proofs.Ytolbhliepkcihaa.Build
def lenAt (log : ByteArray) : Nat := (log.get! 0).toNat + 256 * (log.get! 1).toNat
def oneJ (key : ByteArray) (last : Nat) (log : ByteArray) : Option ByteArray :=
 if 2 ≤ log.size ∧ lenAt log + 10 ≤ log.size ∧ lenAt log ≤ 4096 ∧ log.extract 0 (lenAt log + 10) = recS key last (log.extract 2 (lenAt log + 2)) then some (log.extract 2 (lenAt log + 2)) else none
abbrev Pr := ByteArray × Nat
def scanX (key : ByteArray) : Nat → Nat → ByteArray → List Pr
 | 0, _, _ => []
 | f + 1, last, log => match oneJ key last log with
  | none => []
  | some s => (s, nextN key last s) :: scanX key f (nextN key last s) (log.extract (s.size + 10) log.size)
theorem one_size {key : ByteArray} {last : Nat} {log s : ByteArray} (h : oneJ key last log = some s) : s.size = lenAt log ∧ s.size ≤ 4096 ∧ s.size + 10 ≤ log.size ∧ s = log.extract 2 (lenAt log + 2) ∧ log.extract 0 (s.size + 10) = recS key last s := by
 unfold oneJ at h
 split at h
 ·rename_i c
  obtain rfl := Option.some.inj h
  obtain ⟨c1, c2, c3, c4⟩ := c
  have hz : (log.extract 2 (lenAt log + 2)).size = lenAt log := by rw [ByteArray.size_extract]; omega
  refine ⟨hz, by omega, by omega, rfl, by rw [hz]; exact c4⟩
 ·cases h
theorem scan_fuel (key : ByteArray) : ∀ (f last : Nat) (log : ByteArray), log.size ≤ f → ∀ g, log.size ≤ g → scanX key f last log = scanX key g last log
 | 0, last, log, h, g, _ => by
  cases g with
  | zero => rfl
  | succ g =>
   have : oneJ key last log = none := by
    unfold oneJ
    rw [if_neg (by omega)]
   rw [scanX, scanX, this]
 | f + 1, last, log, h, g, hg => by
  cases g with
  | zero =>
   have : oneJ key last log = none := by
    unfold oneJ
    rw [if_neg (by omega)]
   rw [scanX, scanX, this]
  | succ g =>
   rw [scanX, scanX]
   cases e : oneJ key last log with
   | none => rfl
   | some s =>
    obtain ⟨_, _, q, _⟩ := one_size e
    have hz : (log.extract (s.size + 10) log.size).size = log.size - (s.size + 10) := by rw [ByteArray.size_extract]; omega
    simp only
    rw [scan_fuel key f (nextN key last s) _ (by omega) g (by omega)]
def scanL (key : ByteArray) (last : Nat) (log : ByteArray) : List Pr := scanX key log.size last log
theorem scanL_some {key : ByteArray} {last : Nat} {log s : ByteArray} (h : oneJ key last log = some s) : scanL key last log = (s, nextN key last s) :: scanL key (nextN key last s) (log.extract (s.size + 10) log.size) := by
 obtain ⟨_, _, q, _⟩ := one_size h
 have hz : (log.extract (s.size + 10) log.size).size = log.size - (s.size + 10) := by rw [ByteArray.size_extract]; omega
 unfold scanL
 obtain ⟨f, hf⟩ : ∃ f, log.size = f + 1 := ⟨log.size - 1, by omega⟩
 conv => lhs; rw [hf]
 rw [scanX, h]
 simp only
 rw [scan_fuel key f (nextN key last s) _ (by omega) _ (Nat.le_refl _)]
theorem scanL_none {key : ByteArray} {last : Nat} {log : ByteArray} (h : oneJ key last log = none) : scanL key last log = [] := by
 unfold scanL
 cases log.size with
 | zero => rfl
 | succ f => rw [scanX, h]
def endX : List Pr → Nat
 | [] => 0
 | p :: r => p.1.size + 10 + endX r
def lastX (last : Nat) : List Pr → Nat
 | [] => last
 | p :: r => lastX p.2 r
theorem endX_app (a b : List Pr) : endX (a ++ b) = endX a + endX b := by
 induction a with
 | nil => simp [endX]
 | cons p a ih => simp only [List.cons_append, endX, ih]; omega
theorem lastX_app (last : Nat) (a b : List Pr) : lastX last (a ++ b) = lastX (lastX last a) b := by
 induction a generalizing last with
 | nil => rfl
 | cons p a ih => exact ih p.2
theorem scan_end (key : ByteArray) : ∀ (f last : Nat) (log : ByteArray), endX (scanX key f last log) ≤ log.size
 | 0, _, _ => Nat.zero_le _
 | f + 1, last, log => by
  rw [scanX]
  cases e : oneJ key last log with
  | none => exact Nat.zero_le _
  | some s =>
   obtain ⟨_, _, q, _⟩ := one_size e
   have hz : (log.extract (s.size + 10) log.size).size = log.size - (s.size + 10) := by rw [ByteArray.size_extract]; omega
   have ih := scan_end key f (nextN key last s) (log.extract (s.size + 10) log.size)
   show s.size + 10 + endX _ ≤ _
   omega
theorem scan_len (key : ByteArray) (last : Nat) (log : ByteArray) : (scanL key last log).length ≤ log.size := by
 have h : ∀ l : List Pr, l.length ≤ endX l := fun l => by
  induction l with
  | nil => exact Nat.le_refl _
  | cons p l ih => simp only [List.length_cons, endX]; omega
 exact Nat.le_trans (h _) (scan_end key log.size last log)
end Go.Proofs.Ytolbhliepkcihaa.Jour
end
section
namespace Go.Proofs.Ytolbhliepkcihaa.JLoop
open Go.RowKit
variable {F : Fence} {n : Nat} {P : Program}
def SeqBox {α : Type} (F : Fence) (n : Nat) (P : Program) (g : Nat) (lb : Array Value) (encs : α → Array Value) (Bx : Nat → Prop) (Kp : World → World → Prop) (xs : List α) (w : World) : Prop :=
 ∀ (l : Nat) (J : List α → World → Prop) (W : World), w.heap.size ≤ W.heap.size → Kp w W → AbidesFrom W.heap.size J → (∀ pre W1 b u, Bx b → J pre W1 → J pre (W1.setCell ⟨b, 0, none⟩ u)) → (∀ pre W1, J pre W1 → W.heap.size ≤ W1.heap.size) →
  (∀ pre x W1, J pre W1 → (∃ r, xs = pre ++ x :: r) → YieldAt F (n - 1) P l (encs x) W1 fun e W' => e = .returned (.bool true) ∧ J (pre ++ [x]) W' ∧ Kp W1 W') →
  J [] W → CallsIn F n P g (#[.func (.yield l) #[] #[]] ++ lb) W fun e W' => (∃ v, e = .returned v) ∧ J xs W'
def goesOn {α : Type} (B : Nat) (Kp : World → World → Prop) (I : List α → World → Prop) (xs : List α) (W : World) : Exit → Act → World → Prop
 | .normal, _, W' => KeepsFrom B W W' ∧ Kp W W' ∧ I xs W'
 | _, _, _ => False
theorem wpIn_box {α : Type} {g : Operand} {ps : Array Tmp} {assign body : Code} {Q : Exit → Act → World → Prop} {a : Act} {w : World}
  (hro : F.round = none) (h1 : 1 ≤ n) {gf : Nat} {lb : Array Value} (hg : a.eval g = .func (.func gf) #[] lb) (hFg : F.fn gf) (eg : ∀ args w, (callFunc gf args).run P w = .ok (.enter gf args) w)
  {encs : α → Array Value} {Bx : Nat → Prop} {Kp : World → World → Prop} {xs : List α} (hseq : SeqBox F (n - 1) P gf lb encs Bx Kp xs w)
  (hKt : ∀ {A B C : World}, Kp A B → Kp B C → Kp A C) (hKa : ∀ (W : World) (o : Obj), w.heap.size ≤ W.heap.size → Kp W (W.alloc o)) (hKb : ∀ (W : World) (l : Nat) (o' : Obj), w.heap.size ≤ l → l < W.heap.size → Kp W (W.putObj l o'))
  (hBx : ∀ b, Bx b → b < w.heap.size) (hps : ∀ x, (encs x).size = ps.size)
  (I : List α → World → Prop) (hI : OwnFrom w.heap.size I) (hIB : ∀ pre W1 b u, Bx b → I pre W1 → I pre (W1.setCell ⟨b, 0, none⟩ u)) (h0 : I [] w) (a₁ : α → Act)
  (hassign : ∀ (l : Nat) (x : α) (W : World) (K : Act → World → Prop), K (a₁ x) W →
   assign.wpIn (F.inRound l) (n - 1 - 1) P (Exit.then K (fun _ _ _ => False)) { tmps := (ps.zip (encs x)).foldl (fun t (p, v) => t.setIfInBounds p v) a.tmps, defers := [] } W)
  (hbody : ∀ (l : Nat) (pre : List α) (x : α) (W : World), I pre W → (∃ r, xs = pre ++ x :: r) → body.wpIn (F.inRound l) (n - 1 - 1) P (goesOn w.heap.size Kp I (pre ++ [x]) W) (a₁ x) W)
  (hdone : ∀ (D : Nat) (W : World), w.heap.size ≤ D → I xs W → W.heap[D]? = some (.deferred (some [])) → Q .normal { a with defers := { target := .collected D, args := #[] } :: a.defers } W) :
  (Code.rangeFunc g ps assign body).wpIn F n P Q a w := by
 refine wpIn_rangeFunc fun fn hfn => ?_
 rw [hro]
 let D := w.heap.size
 let L := w.heap.size + 1
 let rc : LoopState → Option Code → Loop := fun st pe => { state := st, pending := pe, fn, tmps := a.tmps, params := ps, assign, body, defers := D }
 obtain ⟨W1, hW1⟩ : ∃ W1, (w.alloc (.deferred (some []))).alloc (.loop (rc .ready none)) = W1 := ⟨_, rfl⟩
 have hL1 : W1.heap[L]? = some (.loop (rc .ready none)) := by
  rw [← hW1]; have := World.alloc_heap_new (w.alloc (.deferred (some []))) (.loop (rc .ready none)); rwa [World.size_alloc] at this
 have hD1 : W1.heap[D]? = some (.deferred (some [])) := by
  rw [← hW1]; exact (Below.heap_alloc _ _ _ (by simp [D])).trans (World.alloc_heap_new w _)
 have hz1 : W1.heap.size = w.heap.size + 2 := by rw [← hW1]; simp
 have hI1 : I [] W1 := by rw [← hW1]; exact hI.alloc _ (hI.alloc _ h0)
 have hK1 : Kp w W1 := by rw [← hW1]; exact hKt (hKa w _ (Nat.le_refl _)) (hKa _ _ (by simp))
 refine ⟨L, [{ target := .collected D, args := #[] }], W1, { target := .fn (.func gf) lb, args := #[.func (.yield L) #[] #[]] }, W1, gf, #[.func (.yield L) #[] #[]] ++ lb, W1, ?_, ?_, ?_, ?_, fun _ => h1, ?_⟩
 ·rw [← hW1]; exact run_enterLoop_outer _ _ _ _ _
 ·simp only [resolve, hg]; simp [go_sem]
 ·intro f' hf'; simp [Target.leads] at hf'; subst hf'; exact hFg
 ·simp [invoke, go_sem, eg]
 ·refine (hseq L (fun pre W => I pre W ∧ W.heap[L]? = some (.loop (rc .ready none)) ∧ W.heap[D]? = some (.deferred (some [])))
   W1 (by omega) hK1 ?_ ?_ ?_ ?_ ⟨hI1, hL1, hD1⟩).mono ?_
  ·intro s A B row hs hg' hr
   refine ⟨hI s A B row hs.1 hg' (fun r e => ?_), (grownBy_keeps hg' (fun r e => (hr r e).2) hs.2.1 rfl).trans hs.2.1, (grownBy_keeps hg' (fun r e => (hr r e).2) hs.2.2 rfl).trans hs.2.2⟩
   obtain ⟨hB, o, ho, hw⟩ := hr r e
   exact ⟨by omega, o, ho, Obj.not_cells_of_walk hw⟩
  ·rintro pre W b u hb ⟨hi, hl, hd⟩
   have hlt := hBx b hb
   exact ⟨hIB pre W b u hb hi, (heap_setCell_other W ⟨b, 0, none⟩ L u (by simp [L]; omega)).trans hl, (heap_setCell_other W ⟨b, 0, none⟩ D u (by simp [D]; omega)).trans hd⟩
  ·rintro pre W ⟨_, hl, _⟩
   have := (Array.getElem?_eq_some_iff.1 hl).1
   simp [L] at this
   omega
  ·rintro pre x W ⟨hi, hl, hd⟩ hlen
   have hlt : L < W.heap.size := (Array.getElem?_eq_some_iff.1 hl).1
   refine ⟨fn, _, assign, body, run_yield (P := P) (args := encs x) hl (by simp [rc, hps]), roundIn_of_wpIn hfn (hassign _ x W _ ⟨_, run_beginRound hl rfl, ?_⟩)⟩
   have hl2 : (W.putObj L (.loop { rc .ready none with state := .busy })).heap[L]? = some (.loop { rc .ready none with state := .busy }) := World.putObj_heap_same hlt
   have hd2 : (W.putObj L (.loop { rc .ready none with state := .busy })).heap[D]? = some (.deferred (some [])) := (World.putObj_heap_other (by simp [D, L])).trans hd
   have hk1 : Kp W (W.putObj L (.loop { rc .ready none with state := .busy })) := hKb W L _ (by simp [L]) hlt
   refine wpIn_mono (hbody _ pre x _ (hI.putObj _ hi (by simp [L]) hl rfl) hlen) ?_
   intro e a3 W3 hp
   cases e with
   | normal =>
    obtain ⟨hk3, hb3, hi3⟩ := hp
    have hl3 := hk3.same _ _ (by simp [L]) hl2 rfl
    have hlt3 := (Array.getElem?_eq_some_iff.1 hl3).1
    exact ⟨_, _, run_endRound (P := P) none hl3, rfl, ⟨hI.putObj _ hi3 (by simp [L]) hl3 rfl, World.putObj_heap_same hlt3, (World.putObj_heap_other (by simp [D, L])).trans (hk3.same _ _ (by simp [D]) hd2 rfl)⟩, hKt (hKt hk1 hb3) (hKb W3 L _ (by simp [L]) hlt3)⟩
   | exit id => exact hp.elim
   | ret => exact hp.elim
   | goto t => exact hp.elim
   | panic ch => exact hp.elim
   | outgrown => exact hp.elim
  ·rintro e W2 ⟨⟨v, rfl⟩, hi, hl, hd⟩
   exact ⟨none, _, run_endLoop (P := P) hl (by simp [rc]), hdone _ _ (Nat.le_refl _) (hI.putObj _ hi (by simp [L]) hl rfl) ((World.putObj_heap_other (by simp [D, L])).trans hd)⟩
end Go.Proofs.Ytolbhliepkcihaa.JLoop
end
section
namespace Go.Proofs.Ytolbhliepkcihaa.Jour
open Go.RowKit Go.Shelf Go.Proofs.Ytolbhliepkcihaa.Mem Go.Proofs.YtolbhliepkcihaaW.PrintWords Go.Proofs.Ytolbhliepkcihaa.Sha Go.Proofs.Ytolbhliepkcihaa.Mac Go.Proofs.Ytolbhliepkcihaa.Codec Go.Proofs.Ytolbhliepkcihaa.Build Go.Proofs.Ytolbhliepkcihaa.JLoop
attribute [local go_sem] Oper.semAt_some
structure KQ (ex : Nat → Prop) (n₀ : Nat) (W W' : World) : Prop where
 blk : ∀ b, b < n₀ → ¬ex b → W'.heap[b]? = W.heap[b]?
theorem KQ.trans {ex : Nat → Prop} {n₀ : Nat} {A B C : World} (h : KQ ex n₀ A B) (k : KQ ex n₀ B C) : KQ ex n₀ A C := ⟨fun b h1 h2 => (k.blk b h1 h2).trans (h.blk b h1 h2)⟩
theorem KQ.one {ex : Nat → Prop} {n₀ : Nat} {W W' : World} (h : KQ ex n₀ W W') {b : Nat} {t : TypeId} {cs : Array Value} (hb : Blk W b t cs) (h1 : b < n₀) (h2 : ¬ex b) : Blk W' b t cs := (h.blk b h1 h2).trans hb
def strN (W : World) (b : Nat) : Nat := match W.cell? ⟨b, 0, none⟩ with
 | some (.string s) => s.size
 | _ => 0
theorem strN_of {W : World} {b : Nat} {t : TypeId} {s : ByteArray} (h : Blk W b t #[.string s]) : strN W b = s.size := by
 unfold strN
 rw [h.cell 0]
 rfl
theorem abide {N : Nat} {J : List Pr → World → Prop} (h : AbidesFrom N J) {pre : List Pr} {A B : World} (hj : J pre A) (hb : Below A.heap.size A B) : J pre B := h pre A B none hj (below_grows hb none (Nat.le_refl _)) (fun r e => by cases e)
theorem blk_bel {W w5 : World} {g : Nat} {t : TypeId} {cs : Array Value} (h : Blk W g t cs) (hb : Below W.heap.size W w5) : Blk w5 g t cs := h.below hb h.lt
theorem ext_list (b : ByteArray) (m : Nat) : (b.extract 0 m).data.toList = b.data.toList.take m := by
 rw [ByteArray.data_extract, Array.toList_extract]
 simp [List.extract]
theorem pre_iff (log r : ByteArray) : Lib.hasPrefix log.data.toList r.data.toList = true ↔ log.extract 0 r.size = r := by
 unfold Lib.hasPrefix
 rw [List.isPrefixOf_iff_prefix, List.prefix_iff_eq_take, Array.length_toList]
 show r.data.toList = log.data.toList.take r.size ↔ _
 constructor
 ·intro e
  refine ByteArray.ext (Array.toList_inj.1 ?_)
  rw [ext_list, ← e]
 ·intro e
  rw [← ext_list, e]
theorem get_bang (log : ByteArray) (i : Nat) (h : i < log.size) : log.get! i = log[i] := by
 show log.data[i]! = log.data[i]
 exact getElem!_pos log.data i h
set_option maxRecDepth 100000 in
set_option maxHeartbeats 4000000 in
theorem records_seq (n : Nat) (hn : 2 ≤ n) (key : ByteArray) (last0 : Nat) (log0 : ByteArray) (w : World) (bl bk bn n₀ : Nat) (ex : Nat → Prop) (hkey : key.size ≤ 1000000000) (hl0 : last0 < 18446744073709551616) (hz0 : log0.size ≤ 1000000000)
  (h1 : bl < n₀) (h2 : bk < n₀) (h3 : bn < n₀) (e1 : ¬ex bl) (e2 : ¬ex bk) (e3 : ¬ex bn) (d1 : bl ≠ bk) (d2 : bl ≠ bn) (d3 : bk ≠ bn)
  (hbl : Blk w bl 9 #[.string log0]) (hbk : Blk w bk 9 #[.string key]) (hbn : Blk w bn 47 #[.int .u64 (last0 : Int)]) :
  SeqBox Fence.wide n Try.prog 111 #[.pointer (some ⟨bl, 0, none⟩), .pointer (some ⟨bk, 0, none⟩), .pointer (some ⟨bn, 0, none⟩)] (fun x : Pr => #[.string x.1, .int .u64 (x.2 : Nat)]) (fun b => b = bl ∨ b = bn) (KQ ex n₀) (scanL key last0 log0) w := by
 intro l J W hWz hW hA hB hJz hY h0
 have BL := Aside0.mk (hW.one hbl h1 e1)
 have BK := Aside0.mk (hW.one hbk h2 e2)
 have BN := Aside0.mk (hW.one hbn h3 e3)
 have HJ := Aside0.mk h0
 have HA := Aside0.mk hA
 have HBx := Lib.hid hB
 have HY := Lib.hid hY
 have HJZ := Lib.hid hJz
 have HL0 := Lib.hid hl0
 clear hbl hbk hbn hW h0 hA hB hY hJz hl0
 refine callsIn_of_wp Try.func111 rfl trivial ?_ rfl
 simp only [Try.ntmps111, List.size_toArray, List.length_cons, List.length_nil, Nat.reduceAdd, Nat.reduceSub, Array.replicate_succ, Array.replicate_zero, List.push_toArray, List.append_toArray, List.nil_append, List.cons_append]
 gi_wp2
 gi_loopw [5] (fun _ wr => ∃ (pre : List Pr) (last : Nat) (log : ByteArray), Hid (scanL key last0 log0 = pre ++ scanL key last log) ∧ log.size ≤ 1000000000 ∧ last < 18446744073709551616 ∧ Aside0 (J pre wr) ∧ Aside0 (Blk wr bl 9 #[.string log]) ∧ Aside0 (Blk wr bk 9 #[.string key]) ∧ Aside0 (Blk wr bn 47 #[.int .u64 (last : Int)]))
  (fun _ wr => strN wr bl)
 case atStart => exact ⟨[], last0, log0, Lib.hid rfl, hz0, HL0.out, HJ, BL, BK, BN⟩
 case round =>
  clear BL BK BN HJ
  obtain ⟨pre, last, log, HS, hz, hl, HJ, BL, BK, BN⟩ := hrel
  have hsn := strN_of BL.out
  have c1 := BL.out.cell 0
  have c2 := BK.out.cell 0
  have c3 := BN.out.cell 0
  by_cases g2 : 2 ≤ log.size
  ·have t1 : decide ((log.size : Int) ≥ 2) = true := decide_eq_true (by omega)
   have i0 : 0 < log.size := by omega
   have i1 : 1 < log.size := by omega
   have i1' : (1 : Int) < (log.size : Int) := by omega
   obtain ⟨b0, hb0⟩ : ∃ b0, (log[0]'i0).toNat = b0 := ⟨_, rfl⟩
   obtain ⟨b1, hb1⟩ : ∃ b1, (log[1]'i1).toNat = b1 := ⟨_, rfl⟩
   have b0l : b0 < 256 := by rw [← hb0]; exact (log[0]'i0).toNat_lt
   have b1l : b1 < 256 := by rw [← hb1]; exact (log[1]'i1).toNat_lt
   have hw0 : IntKind.i64.wrap (b0 : Int) = (b0 : Int) := IntWalk.i64_in _ (by omega)
   have hw1 : IntKind.i64.wrap (b1 : Int) = (b1 : Int) := IntWalk.i64_in _ (by omega)
   have hw2 : IntKind.i64.wrap (2 + (b0 : Int)) = 2 + (b0 : Int) := IntWalk.i64_in _ (by omega)
   have hw3 : IntKind.i64.wrap ((b1 : Int) * 256) = (b1 : Int) * 256 := IntWalk.i64_in _ (by omega)
   obtain ⟨L, hL⟩ : ∃ L, lenAt log = L := ⟨_, rfl⟩
   have hLb : L = b0 + 256 * b1 := by rw [← hL, ← hb0, ← hb1]; unfold lenAt; rw [get_bang log 0 i0, get_bang log 1 i1]
   have hw4 : IntKind.i64.wrap (2 + (b0 : Int) + (b1 : Int) * 256) = (L : Int) + 2 := by rw [IntWalk.i64_in _ (by omega)]; omega
   have HL := Lib.hid hL
   have hLl : L < 65536 := by omega
   clear hL hLb
   gi_wp2
   gi_quiet_th (fail)
   have hbn := pw_below_drewN (Below.refl wr.heap.size wr) nq
   replace HJ := Aside0.mk (abide HA.out HJ.out hbn)
   replace BL := Aside0.mk (blk_bel BL.out hbn)
   replace BK := Aside0.mk (blk_bel BK.out hbn)
   replace BN := Aside0.mk (blk_bel BN.out hbn)
   clear hbn hw0 hw1 hw2 hw3 hw4 b0l b1l hb0 hb1 c1 c2 c3 t1
   have c1 := BL.out.cell 0
   have c2 := BK.out.cell 0
   have c3 := BN.out.cell 0
   by_cases g3 : L + 10 ≤ log.size
   ·have t2 : decide ((log.size : Int) < (L : Int) + 2 + 8) = false := decide_eq_false (by omega)
    have hN : ((L : Int) + 2).toNat = L + 2 := by omega
    have q0 : (2 : Int) ≤ (L : Int) + 2 := by omega
    have q1 : (L : Int) + 2 ≤ (log.size : Int) := by omega
    obtain ⟨s, hs⟩ : ∃ s, log.extract 2 (L + 2) = s := ⟨_, rfl⟩
    have hsz : s.size = L := by rw [← hs, ByteArray.size_extract]; omega
    by_cases g4 : s.size ≤ 4096
    ·have G := Lib.hid (fun W => rec_ok key last s W hkey hl g4)
     have hrz := recS_size key last s
     have hpi := pre_iff log (recS key last s)
     rw [hrz] at hpi
     have hno : Hid (Lib.hasPrefix log.data.toList (recS key last s).data.toList = false → scanL key last log = []) := Lib.hid (fun q => scanL_none (by
      unfold oneJ
      rw [if_neg]
      rintro ⟨_, _, _, q2⟩
      rw [HL.out, hs] at q2
      rw [← hsz] at q2
      rw [hpi.2 q2] at q
      cases q))
     have hyes : Hid (Lib.hasPrefix log.data.toList (recS key last s).data.toList = true → scanL key last log = (s, nextN key last s) :: scanL key (nextN key last s) (log.extract (s.size + 10) log.size)) := Lib.hid (fun q => scanL_some (by
      unfold oneJ
      rw [if_pos ⟨by omega, by rw [HL.out]; omega, by rw [HL.out]; omega, by rw [HL.out, hs, ← hsz]; exact hpi.1 q⟩, HL.out, hs]))
     have HNL := Lib.hid (nextN_lt key last s)
     clear hpi
     generalize recS key last s = r at *
     generalize nextN key last s = nx at *
     cases hp : Lib.hasPrefix log.data.toList r.data.toList with
     | false =>
      have GP := Lib.hid (fun W => Try.strings_HasPrefix log r W)
      rw [hp] at GP
      have hnone := Lib.hid (hno.out hp)
      clear hno hyes hp hsz hrz g4 g3
      gi_wp2
      refine ⟨trivial, fun _ => by omega, ?_⟩
      refine (callsIn_wide.2 (G.out _)).mono ?_
      rintro e w5 ⟨rfl, hb5⟩
      replace HJ := Aside0.mk (abide HA.out HJ.out hb5)
      replace BL := Aside0.mk (blk_bel BL.out hb5)
      have c1 := BL.out.cell 0
      clear hb5
      gi_wp2
      refine ⟨trivial, fun _ => by omega, ?_⟩
      refine (callsIn_wide.2 (GP.out _)).mono ?_
      rintro e w6 ⟨rfl, rfl⟩
      gi_wp2
      all_goals (try (refine ⟨fun _ h => (by cases h), ?_⟩; gi_wp2))
      refine bodyPost_ret (results_none rfl _ _ _) rfl ?_
      exact ⟨⟨_, rfl⟩, by rw [HS.out, hnone.out, List.append_nil]; exact HJ.out⟩
     | true =>
      have GP := Lib.hid (fun W => Try.strings_HasPrefix log r W)
      rw [hp] at GP
      have hsome := Lib.hid (hyes.out hp)
      clear hno hyes hp
      have HLEN : Hid (∃ r, scanL key last0 log0 = pre ++ (s, nx) :: r) := Lib.hid ⟨_, by rw [HS.out, hsome.out]⟩
      clear g4
      gi_wp2
      refine ⟨trivial, fun _ => by omega, ?_⟩
      refine (callsIn_wide.2 (G.out _)).mono ?_
      rintro e w5 ⟨rfl, hb5⟩
      replace HJ := Aside0.mk (abide HA.out HJ.out hb5)
      replace BL := Aside0.mk (blk_bel BL.out hb5)
      replace BK := Aside0.mk (blk_bel BK.out hb5)
      replace BN := Aside0.mk (blk_bel BN.out hb5)
      have c1 := BL.out.cell 0
      clear hb5
      gi_wp2
      refine ⟨trivial, fun _ => by omega, ?_⟩
      refine (callsIn_wide.2 (GP.out _)).mono ?_
      rintro e w6 ⟨rfl, rfl⟩
      obtain ⟨fn, tmps, assign, body, hy, hR⟩ := HY.out pre (s, nx) w6 HJ.out HLEN.out
      gi_wp2
      refine ⟨fun _ => by omega, ?_⟩
      refine hR.mono ?_
      rintro e W3 ⟨rfl, hJ3, hk3⟩
      replace BL := Aside0.mk (hk3.one BL.out h1 e1)
      replace BK := Aside0.mk (hk3.one BK.out h2 e2)
      replace BN := Aside0.mk (hk3.one BN.out h3 e3)
      have HJ3 := Aside0.mk hJ3
      clear hJ3 hk3 c1 c2 c3 hy hR
      have c1 := BL.out.cell 0
      have c3 := BN.out.cell 0
      have f1 := BL.out.frozen 0
      have f3 := BN.out.frozen 0
      have p0 : (0 : Int) ≤ (r.size : Int) := by omega
      have p1 : (r.size : Int) ≤ (log.size : Int) := by omega
      have J0 := HBx.out _ W3 bn (.int .u64 (nx : Int)) (.inr rfl) HJ3.out
      have J1 := HBx.out _ _ bl (.string (log.extract (L + 10) log.size)) (.inl rfl) J0
      have JF := Aside0.mk (abide HA.out J1 (Below.refl _ _).drew)
      have BLF := Aside0.mk (((BL.out.far (p := ⟨bn, 0, none⟩) d2 (.int .u64 (nx : Int))).set_ 0 (.string (log.extract (L + 10) log.size))).drew)
      have BKF := Aside0.mk (((BK.out.far (p := ⟨bn, 0, none⟩) d3 (.int .u64 (nx : Int))).far (p := ⟨bl, 0, none⟩) (Ne.symm d1) (.string (log.extract (L + 10) log.size))).drew)
      have BNF := Aside0.mk (((BN.out.set_ 0 (.int .u64 (nx : Int))).far (p := ⟨bl, 0, none⟩) (Ne.symm d2) (.string (log.extract (L + 10) log.size))).drew)
      have HSF : Hid (scanL key last0 log0 = (pre ++ [(s, nx)]) ++ scanL key nx (log.extract (L + 10) log.size)) := Lib.hid (by
       rw [HS.out, hsome.out, hsz, List.append_assoc]
       rfl)
      have hlz : (log.extract (L + 10) log.size).size = log.size - (L + 10) := by rw [ByteArray.size_extract]; omega
      have HLZ := Lib.hid hlz
      clear J0 J1 hlz
      gi_wp2
      gi_region
      clear BL BK BN HJ3 c1 c3 f1 f3
      gi_wp2
      go_roundw
      case rel => exact ⟨_, nx, _, HSF, by rw [HLZ.out]; omega, HNL.out, JF, BLF, BKF, BNF⟩
      case measure =>
       have hm := strN_of BLF.out
       show strN _ bl < strN wr bl
       rw [hsn]
       have hm2 := HLZ.out
       have hm3 : (log.extract (L + 10) log.size).size < log.size := by omega
       first | exact Nat.lt_of_le_of_lt (Nat.le_of_eq hm) hm3 | (rw [hm]; exact hm3)
    ·have G := Lib.hid (fun W => rec_bad key (last : Int) s W (by omega))
     have hnone : Hid (scanL key last log = []) := Lib.hid (scanL_none (by unfold oneJ; rw [if_neg (by rw [HL.out]; omega)]))
     clear hsz g4 g3
     gi_wp2
     refine ⟨trivial, fun _ => by omega, ?_⟩
     refine (callsIn_wide.2 (G.out _)).mono ?_
     rintro e w5 ⟨rfl, hb5⟩
     replace HJ := Aside0.mk (abide HA.out HJ.out hb5)
     clear hb5
     gi_wp2
     refine ⟨trivial, ?_⟩
     gi_wp2
     all_goals (try (refine ⟨fun _ h => (by cases h), ?_⟩; gi_wp2))
     refine bodyPost_ret (results_none rfl _ _ _) rfl ?_
     exact ⟨⟨_, rfl⟩, by rw [HS.out, hnone.out, List.append_nil]; exact HJ.out⟩
   ·have t2 : decide ((log.size : Int) < (L : Int) + 2 + 8) = true := decide_eq_true (by omega)
    have hnone : Hid (scanL key last log = []) := Lib.hid (scanL_none (by unfold oneJ; rw [if_neg (by rw [HL.out]; omega)]))
    clear g3
    gi_wp2
    refine bodyPost_ret (results_none rfl _ _ _) rfl ?_
    exact ⟨⟨_, rfl⟩, by rw [HS.out, hnone.out, List.append_nil]; exact HJ.out⟩
  ·have t1 : decide ((log.size : Int) ≥ 2) = false := decide_eq_false (by omega)
   have hnone : Hid (scanL key last log = []) := Lib.hid (scanL_none (by unfold oneJ; rw [if_neg (by omega)]))
   gi_wp2
   go_end0
   exact ⟨⟨_, rfl⟩, by rw [HS.out, hnone.out, List.append_nil]; exact HJ.out⟩
end Go.Proofs.Ytolbhliepkcihaa.Jour
end
section
namespace Go.Proofs.Ytolbhliepkcihaa.RegIn
open Go.RowKit Go.Proofs.YtolbhliepkcihaaW.PrintWords Go.Proofs.YtolbhliepkcihaaW.PrintLast
variable {P : Program} {ops : Array Oper} {Q : Exit → Act → World → Prop}
theorem upon_in {o : Oper} {a : Act} {K : Act → World → Prop} {r : Result Next} (l n : Nat) (h : o.upon P a K Q r) : o.uponIn (Fence.wide.inRound l) n P a K Q r := by
 cases r with
 | ok x w' =>
  cases x
  case value v => exact h
  case skip => exact h
  case defer d => exact h
  case enter f args => exact ⟨(fun hd => by cases hd), CallsIn.inRound l (callsIn_wide.2 h)⟩
  case row row args => exact ⟨(fun hd => by cases hd), (fun c cs _ => let ⟨v, w', r, s⟩ := h c cs; ⟨v, w', r, stepsIn_wide.2 s⟩)⟩
  all_goals exact h.elim
 | halt x w' => cases x <;> exact h
theorem any_in {md : Region.Mode} (l n : Nat) (hout : ¬LetsOut Q) (hnd : ∀ (i : Nat) (o : Oper), ops[i]? = some o → ∀ c, o.op ≠ .defer c) : ∀ (fuel : Nat) (listed : Array Bool) (a : Act) (w : World), wpAny P md ops Q fuel listed a w → wpAnyIn (Fence.wide.inRound l) n P md ops Q fuel listed a w
 | 0, _, _, _, h => h
 | fuel + 1, listed, a, w, h => ⟨h.1, fun i hi => by
  have h2 := h.2 i hi
  unfold wpOp at h2
  unfold wpOpIn
  cases e : ops[i]? with
  | none =>
   simp only [e] at h2
   exact any_in l n hout hnd fuel _ _ _ h2
  | some o =>
   simp only [e] at h2 ⊢
   split
   ·rename_i hw
    rw [if_pos hw] at h2
    refine ⟨fun _ _ => trivial, ?_⟩
    rw [Oper.semAt_eq _ _ _ (hnd i o e)]
    refine upon_in l n ?_
    rcases h2 with h2 | h2
    ·exact Oper.wp_mono (fun a w h => any_in l n hout hnd fuel _ _ _ h) h2
    ·exact absurd h2.2 hout
   ·rename_i hw
    rw [if_neg hw] at h2
    exact ⟨fun _ _ => trivial, any_in l n hout hnd fuel _ _ _ h2⟩⟩
def noDefer (ops : Array Oper) : Bool := ops.toList.all fun o => match o.op with | .defer _ => false | _ => true
theorem noDefer_spec (h : noDefer ops = true) : ∀ (i : Nat) (o : Oper), ops[i]? = some o → ∀ c, o.op ≠ .defer c := fun i o e c he => by
 have hm : o ∈ ops.toList := by
  rw [← Array.getElem?_toList] at e
  exact List.mem_of_getElem? e
 have := List.all_eq_true.1 h o hm
 rw [he] at this
 cases this
theorem startIn_ {S : World → Prop} {ds : List Nat} {id n m lp : Nat} {a : Act} {w : World} (l : Array Bool) (hout : ¬LetsOut Q) (hd : noDefer ops = true) (hm : P.follows .mixedOrders = true) (hn : ops.size = n) (hl : Array.replicate n false = l) (hS : S w.drew)
  (h : S w.drew → wpAnyLast P .any ops Q S ds n l a w.drew) : (Code.region id ops true).wpIn (Fence.wide.inRound lp) m P Q a w := by
 subst hn
 subst hl
 exact wpIn_region_any hm (any_in lp m hout (noDefer_spec hd) _ _ _ _ (wpAny_of_last _ _ _ _ (h hS)))
end Go.Proofs.Ytolbhliepkcihaa.RegIn
end
section
namespace Go.Proofs.Ytolbhliepkcihaa.Jour
open Go.RowKit Go.Shelf Go.Proofs.Ytolbhliepkcihaa.Mem Go.Proofs.YtolbhliepkcihaaW.PrintWords Go.Proofs.YtolbhliepkcihaaW.PrintLast Go.Proofs.Ytolbhliepkcihaa.Sha Go.Proofs.Ytolbhliepkcihaa.Mac Go.Proofs.Ytolbhliepkcihaa.Codec Go.Proofs.Ytolbhliepkcihaa.Build Go.Proofs.Ytolbhliepkcihaa.JLoop Go.Proofs.Ytolbhliepkcihaa.RegIn
attribute [local go_sem] Oper.semAt_some
theorem jstr_info : (Try.prog.info? 9).map (fun i => (i.zero, i.size, i.bytes)) = some (some (.string ⟨#[]⟩), 1, 16) := by kernel_rfl
theorem own_lej {w : World} {base base' n : Nat} {e : TypeId} {size : Nat} {v : Value} {xs : List Value} (h : w.ownsRow base e size v n xs) (hb : base' ≤ base) : w.ownsRow base' e size v n xs := by
 obtain ⟨h1, h2⟩ := h
 refine ⟨h1, ?_⟩
 rcases h2 with h2 | ⟨g, cap, cur, rfl, hg, r⟩
 ·exact .inl h2
 ·exact .inr ⟨g, cap, cur, rfl, by omega, r⟩
theorem own_slicej {w : World} {base : Nat} {e : TypeId} {size n : Nat} {v : Value} {xs : List Value} (h : w.ownsRow base e size v n xs) : ∃ A c, v = .slice A n c := by
 rcases h.2 with ⟨rfl, h0⟩ | ⟨g, cap, cur, rfl, _⟩
 ·exact ⟨none, 0, by rw [h0]⟩
 ·exact ⟨_, _, rfl⟩
theorem own_basej {w : World} {base n : Nat} {e : TypeId} {size : Nat} {v : Value} {xs : List Value} (h : w.ownsRow base e size v n xs) : ∀ q, v.ownBlock = some q → base ≤ q := fun q e => (h.lt q e).1
theorem scan_step {B N go ga gl m : Nat} {W w1 : World} {v v' a n a' n' : Value} {k : Nat} {xs ys : List Value} {tmp : Obj} (hBN : B ≤ N) (hN : N ≤ W.heap.size) (b1 : B ≤ go) (b2 : B ≤ ga) (b3 : B ≤ gl)
  (O : Blk W go 41 #[v]) (A : Blk W ga 3 #[a]) (L : Blk W gl 47 #[n]) (hrow : W.ownsRow N 9 1 v k xs) (d1 : go ≠ ga) (d2 : go ≠ gl) (d3 : ga ≠ gl)
  (hown : w1.ownsRow N 9 1 v' m ys) (hg : (W.drew.alloc tmp).grownBy w1 v.ownBlock) :
  (Blk w1 go 41 #[v] ∧ Blk w1 ga 3 #[a] ∧ Blk w1 gl 47 #[n]) ∧
  KeepsFrom N W (((w1.setCell ⟨go, 0, none⟩ v').setCell ⟨ga, 0, none⟩ a').setCell ⟨gl, 0, none⟩ n') ∧ KQ (fun b => b = go ∨ b = ga ∨ b = gl) N W (((w1.setCell ⟨go, 0, none⟩ v').setCell ⟨ga, 0, none⟩ a').setCell ⟨gl, 0, none⟩ n') ∧
  Blk (((w1.setCell ⟨go, 0, none⟩ v').setCell ⟨ga, 0, none⟩ a').setCell ⟨gl, 0, none⟩ n') go 41 #[v'] ∧ Blk (((w1.setCell ⟨go, 0, none⟩ v').setCell ⟨ga, 0, none⟩ a').setCell ⟨gl, 0, none⟩ n') ga 3 #[a'] ∧ Blk (((w1.setCell ⟨go, 0, none⟩ v').setCell ⟨ga, 0, none⟩ a').setCell ⟨gl, 0, none⟩ n') gl 47 #[n'] ∧
  (((w1.setCell ⟨go, 0, none⟩ v').setCell ⟨ga, 0, none⟩ a').setCell ⟨gl, 0, none⟩ n').ownsRow N 9 1 v' m ys ∧ Below B W (((w1.setCell ⟨go, 0, none⟩ v').setCell ⟨ga, 0, none⟩ a').setCell ⟨gl, 0, none⟩ n') ∧ N ≤ (((w1.setCell ⟨go, 0, none⟩ v').setCell ⟨ga, 0, none⟩ a').setCell ⟨gl, 0, none⟩ n').heap.size := by
 have hg' : (W.alloc tmp).grownBy w1 v.ownBlock := ⟨hg.os, hg.tape, hg.output, hg.size, hg.block⟩
 obtain ⟨q1, q2, q3, q4, _⟩ := Boxed.appended (n₀ := 0) (B := go) (show Boxed W go 41 v from O) (by decide) (own_lej hrow (Nat.zero_le _)) (Nat.zero_le _) (Nat.zero_le _) (own_lej hown (Nat.zero_le _)) hg'
 have O1 : Blk w1 go 41 #[v] := q1
 have A1 : Blk w1 ga 3 #[a] := Boxed.kept (Boxed.alloc (show Boxed W ga 3 a from A) tmp) hg' (Boxed.not_row (show Boxed W ga 3 a from A) (by decide) hrow)
 have L1 : Blk w1 gl 47 #[n] := Boxed.kept (Boxed.alloc (show Boxed W gl 47 n from L) tmp) hg' (Boxed.not_row (show Boxed W gl 47 n from L) (by decide) hrow)
 have R1 : (w1.setCell ⟨go, 0, none⟩ v').ownsRow N 9 1 v' m ys := hown.kept (grownBy_setCell' w1 go v') (.inr (Boxed.not_row (show Boxed w1 go 41 v from O1) (by decide) hown).symm)
 have A2 := A1.far (p := ⟨go, 0, none⟩) (Ne.symm d1) v'
 have R2 := R1.kept (grownBy_setCell' _ ga a') (.inr (Boxed.not_row (show Boxed _ ga 3 a from A2) (by decide) R1).symm)
 have L3 := (L1.far (p := ⟨go, 0, none⟩) (Ne.symm d2) v').far (p := ⟨ga, 0, none⟩) (Ne.symm d3) a'
 have R3 := R2.kept (grownBy_setCell' _ gl n') (.inr (Boxed.not_row (show Boxed _ gl 47 n from L3) (by decide) R2).symm)
 have hz : W.heap.size ≤ w1.heap.size := by have := hg'.size; rw [World.size_alloc] at this; omega
 refine ⟨⟨O1, A1, L1⟩, ((q4.trans (KeepsOthers.setCell _ _ _)).trans (KeepsOthers.setCell _ _ _)).from _, ⟨fun b hb hex => ?_⟩, ?_, ?_, L3.set_ 0 n', R3, ?_, ?_⟩
 ·rw [heap_setCell_other _ ⟨gl, 0, none⟩ b n' (fun e => hex (.inr (.inr e))), heap_setCell_other _ ⟨ga, 0, none⟩ b a' (fun e => hex (.inr (.inl e))), heap_setCell_other _ ⟨go, 0, none⟩ b v' (fun e => hex (.inl e))]
  rw [hg'.block b (by rw [World.size_alloc]; omega) (fun e => by have := own_basej hrow b e.symm; omega)]
  exact Below.heap_alloc W tmp b (by omega)
 ·exact ((O1.set_ 0 v').far (p := ⟨ga, 0, none⟩) d1 a').far (p := ⟨gl, 0, none⟩) d2 n'
 ·exact (A2.set_ 0 a').far (p := ⟨gl, 0, none⟩) d3 n'
 ·exact ((((((Below.refl W.heap.size W).mono (by omega)).alloc (by omega) tmp).grown hg' (by rw [World.size_alloc]; omega) (fun q e => by have := own_basej hrow q e; omega)).setCell (p := ⟨go, 0, none⟩) b1 v').setCell (p := ⟨ga, 0, none⟩) b2 a').setCell (p := ⟨gl, 0, none⟩) b3 n'
 ·have := hz
  simp
  omega
def IScan (B N go ga gl st : Nat) (w : World) (pre : List Pr) (W : World) : Prop :=
 ((∃ v, Boxed W go 41 v ∧ W.ownsRow N 9 1 v pre.length (pre.map fun p => Value.string p.1) ∧ True) ∧ Boxed W ga 3 (.int .i64 (endX pre : Nat)) ∧ Boxed W gl 47 (.int .u64 (lastX st pre : Nat))) ∧ Below B w W ∧ N ≤ W.heap.size
theorem iScan_nil {B N go ga gl st : Nat} {w W : World} (O : Blk W go 41 #[.slice none 0 0]) (A : Blk W ga 3 #[.int .i64 0]) (L : Blk W gl 47 #[.int .u64 (st : Int)]) (hB : Below B w W) (hN : N ≤ W.heap.size) : IScan B N go ga gl st w [] W :=
 ⟨⟨⟨.slice none 0 0, O, World.ownsRow_nil W N 9 1, trivial⟩, A, L⟩, hB, hN⟩
theorem iScan_own (B N go ga gl st : Nat) (w : World) (hB : B ≤ w.heap.size) (hN : B ≤ N) : OwnFrom N (IScan B N go ga gl st w) :=
 OwnFrom.and (OwnFrom.and (Own.from (holdsRow_own N go 41 9 1 (fun p : List Pr => p.length) (fun p => p.map fun p => Value.string p.1) (fun _ _ => True)) _) (OwnFrom.and (Own.from (boxed_own ga 3 fun p : List Pr => .int .i64 (endX p : Nat)) _) (Own.from (boxed_own gl 47 fun p : List Pr => .int .u64 (lastX st p : Nat)) _)))
  (OwnFrom.and (ownFrom_below hB hN) (fun _ _ _ _ hs hg _ => Nat.le_trans hs hg.size))
theorem iScan_set {B N go ga gl st : Nat} {w : World} {pre : List Pr} {W : World} {b : Nat} (u : Value) (h : IScan B N go ga gl st w pre W) (hb : B ≤ b) (hN : b < N) (d1 : b ≠ go) (d2 : b ≠ ga) (d3 : b ≠ gl) : IScan B N go ga gl st w pre (W.setCell ⟨b, 0, none⟩ u) := by
 obtain ⟨⟨⟨v, x, r, _⟩, a, l⟩, hB, hz⟩ := h
 refine ⟨⟨⟨v, x.other (Ne.symm d1) u, r.kept (grownBy_setCell' W b u) (.inr (fun e => by have := own_basej r b e; omega)), trivial⟩, a.other (Ne.symm d2) u, l.other (Ne.symm d3) u⟩, hB.setCell (p := ⟨b, 0, none⟩) hb u, by simpa using hz⟩
theorem iScan_up {B N go ga gl st at0 nx : Nat} {w W : World} {pre : List Pr} {s : ByteArray} {v : Value} (ha : endX pre = at0) (O : Blk W go 41 #[v]) (R : W.ownsRow N 9 1 v (pre.length + 1) ((pre.map fun p => Value.string p.1) ++ [.string s]))
  (A : Blk W ga 3 #[.int .i64 ((at0 : Int) + 2 + (s.size : Int) + 8)]) (L : Blk W gl 47 #[.int .u64 (nx : Int)]) (hB : Below B w W) (hN : N ≤ W.heap.size) : IScan B N go ga gl st w (pre ++ [(s, nx)]) W := by
 have e1 : (endX (pre ++ [(s, nx)]) : Int) = (at0 : Int) + 2 + (s.size : Int) + 8 := by
  rw [endX_app, ha]
  simp only [endX]
  omega
 have e2 : lastX st (pre ++ [(s, nx)]) = nx := by rw [lastX_app]; rfl
 refine ⟨⟨⟨v, O, ?_, trivial⟩, ?_, ?_⟩, hB, hN⟩
 ·rw [List.length_append, List.map_append]
  exact R
 ·rw [e1]
  exact A
 ·rw [e2]
  exact L
theorem step_ownj {P : Program} {ops : Array Oper} {o : Oper} {a : Act} {w : World} {K : Act → World → Prop} {Q : Exit → Act → World → Prop} {E : Prop}
  (hg : o.guard = none) (s x : Operand) (t : TypeId) (hop : o.op = Op.call { callee := Callee.builtin Builtin.append, args := #[s, x], argTypes := #[t, t] })
  (base : Nat) (e : TypeId) (i : TypeInfo) (z : Value) (size bytes : Nat) (h1 : P.underlying t = some (.slice e)) (h2 : P.info? e = some i) (h3 : i.zero = some z) (h4 : i.size = size) (h5 : i.bytes = bytes) (h6 : z.cells.size = size) (h7 : 0 < size)
  (v : Value) (n : Nat) (xs : List Value) (hs : a.eval s = v) (hown : w.ownsRow base e size v n xs)
  (ad : Addr) (m c : Nat) (news : List Value) (hx : a.eval x = .slice (some ad) m c) (hn : news.length = m * size) (hc : ∀ j u, news[j]? = some u → w.cell? (ad.add j) = some u) (h1c : ∀ u ∈ news, u.oneCell' = true)
  (b1 : n + m ≤ maxLen) (b2 : (n + m) * bytes ≤ 140737488355328) (hbase : base ≤ w.heap.size)
  (hK : ∀ v' w', w'.ownsRow base e size v' (n + m) (xs ++ news) → w.grownBy w' v.ownBlock → K (a.put o.dst v') w') :
  if Region.wanted o (yielded ops a.tmps) = true then Oper.wp P o a w K Q else E := by
 have hw : Region.wanted o (yielded ops a.tmps) = true := by simp [Region.wanted, hg]
 rw [if_pos hw]
 obtain ⟨v', w', hrun, r1, r2, _⟩ := run_append_own_at (P := P) (w := w) base t o.type e i z size bytes h1 h2 h3 h4 h5 h6 h7 v n xs hown ad m c news hn hc h1c b1 b2 hbase
 unfold Oper.wp
 simp [execOp, hop, resolve, invoke, builtin, hs, hx, hrun, Result.andThen]
 exact hK v' w' r1 r2
theorem records_val (key : ByteArray) (n : Nat) (log : ByteArray) (w : World) :
  Calls Try.prog 94 #[.string key, .int .u64 (n : Int), .string log] w fun e w' => e = .returned (.func (.func 111) #[] #[.pointer (some ⟨w.heap.size + 2, 0, none⟩), .pointer (some ⟨w.heap.size, 0, none⟩), .pointer (some ⟨w.heap.size + 1, 0, none⟩)]) ∧
   Blk w' w.heap.size 9 #[.string key] ∧ Blk w' (w.heap.size + 1) 47 #[.int .u64 (n : Int)] ∧ Blk w' (w.heap.size + 2) 9 #[.string log] ∧ w'.heap.size = w.heap.size + 3 ∧ Below w.heap.size w w' := by
 have h0 := ((Blk.new w 9 #[.string key]).alloc (.cells #[.int .u64 (n : Int)] 47)).alloc (.cells #[.string log] 9)
 have h1 := (Blk.new (w.alloc (.cells #[.string key] 9)) 47 #[.int .u64 (n : Int)]).alloc (.cells #[.string log] 9)
 have h2 := Blk.new ((w.alloc (.cells #[.string key] 9)).alloc (.cells #[.int .u64 (n : Int)] 47)) 9 #[.string log]
 have hb := (((Below.refl w.heap.size w).alloc (Nat.le_refl _) (.cells #[.string key] 9)).alloc (by simp) (.cells #[.int .u64 (n : Int)] 47)).alloc (by simp; omega) (.cells #[.string log] 9)
 have hz : (((w.alloc (.cells #[.string key] 9)).alloc (.cells #[.int .u64 (n : Int)] 47)).alloc (.cells #[.string log] 9)).heap.size = w.heap.size + 3 := by simp
 simp only [World.size_alloc] at h1 h2
 go_enter Try.func94, Try.ntmps94
 go_wp2
 go_ret
 exact ⟨rfl, h0, h1, h2, hz, hb⟩
set_option maxRecDepth 100000 in
set_option maxHeartbeats 4000000 in
theorem scan_walk (key first log : ByteArray) (w : World) (hk : key.size ≤ 1000000000) (hf : first.size ≤ 1000000000) (hl : log.size ≤ 1000000) :
  CallsIn Fence.wide 8 Try.prog 61 #[.string key, .string first, .string log] w fun e w' => ∃ v, e = .returned (.tuple #[v, .int .i64 (endX (scanL key (wordN key first) log) : Nat), .int .u64 (lastX (wordN key first) (scanL key (wordN key first) log) : Nat)]) ∧
   w'.ownsRow w.heap.size 9 1 v (scanL key (wordN key first) log).length (((scanL key (wordN key first) log).map Prod.fst).map Value.string) ∧ Below w.heap.size w w' := by
 have GS := Lib.hid (fun W => start_any key first W hk hf)
 have HW0 := Lib.hid (wordN_lt key first)
 generalize wordN key first = st at *
 have GR := Lib.hid (fun W => records_val key st log W)
 have N := Aside0.mk (Blk.new w 41 #[.slice none 0 0])
 have HB := Aside0.mk ((Below.refl w.heap.size w).alloc (Nat.le_refl _) (.cells #[.slice none 0 0] 41))
 refine callsIn_of_wp_marks Try.func61 rfl trivial ?_ rfl
 simp only [Try.ntmps61, List.size_toArray, List.length_cons, List.length_nil, Nat.reduceAdd, Nat.reduceSub, Array.replicate_succ, Array.replicate_zero, List.push_toArray, List.append_toArray, List.nil_append, List.cons_append]
 gi_wp2_with (refine ⟨trivial, ?_⟩; gi_at_call 54; refine (callsIn_wide.2 (GS.out _)).mono ?_; rintro e w1 ⟨rfl, hb1⟩; replace N := Aside0.mk (blk_bel N.out hb1); replace HB := Aside0.mk (HB.out.trans (hb1.mono (by simp))); clear hb1)
 refine ⟨trivial, ?_⟩
 refine (callsIn_wide.2 (GR.out _)).mono ?_
 have hg1 := N.out.lt
 have hg0 := HB.out.size
 have O := Aside0.mk ((N.out.alloc (.cells #[.int .i64 0] 3)).alloc (.cells #[.int .u64 (st : Int)] 47))
 have A := Aside0.mk ((Blk.new w1 3 #[.int .i64 0]).alloc (.cells #[.int .u64 (st : Int)] 47))
 have L := Aside0.mk (Blk.new (w1.alloc (.cells #[.int .i64 0] 3)) 47 #[.int .u64 (st : Int)])
 replace HB := Aside0.mk (below_alloc (below_alloc HB.out (.cells #[.int .i64 0] 3)) (.cells #[.int .u64 (st : Int)] 47))
 have hz2 : ((w1.alloc (.cells #[.int .i64 0] 3)).alloc (.cells #[.int .u64 (st : Int)] 47)).heap.size = w1.heap.size + 2 := by simp
 simp only [World.size_alloc] at L
 generalize (w1.alloc (.cells #[.int .i64 0] 3)).alloc (.cells #[.int .u64 (st : Int)] 47) = w2 at *
 rintro e w3 ⟨rfl, hk0, hn0, hl0, hz3, hb3⟩
 rw [hz2] at hk0 hn0 hl0 hz3 ⊢
 replace O := Aside0.mk (blk_bel O.out hb3)
 replace A := Aside0.mk (blk_bel A.out hb3)
 replace L := Aside0.mk (blk_bel L.out hb3)
 replace HB := Aside0.mk (below_step HB.out hb3)
 clear hb3 hz2 N GR GS
 simp only []
 gi_wp2
 have hseq := records_seq 7 (by decide) key st log w3 (w1.heap.size + 2 + 2) (w1.heap.size + 2) (w1.heap.size + 2 + 1) w3.heap.size (fun b => b = w.heap.size ∨ b = w1.heap.size ∨ b = w1.heap.size + 1) hk HW0.out (by omega) (by omega) (by omega) (by omega) (by omega) (by omega) (by omega) (by omega) (by omega) (by omega) hl0 hk0 hn0
 have hend : endX (scanL key st log) ≤ log.size := scan_end key log.size st log
 have hlen := scan_len key st log
 refine wpIn_box (F := Fence.wide) (n := 8) rfl (by decide) (gf := 111) (lb := #[.pointer (some ⟨w1.heap.size + 2 + 2, 0, none⟩), .pointer (some ⟨w1.heap.size + 2, 0, none⟩), .pointer (some ⟨w1.heap.size + 2 + 1, 0, none⟩)]) rfl trivial (enters_of Try.func111 (by kernel_rfl) rfl)
  hseq (fun h k => h.trans k) (fun W o hW => ⟨fun b hb _ => Below.heap_alloc W o b (by omega)⟩) (fun W l o' h1 h2 => ⟨fun b hb _ => World.putObj_heap_other (by omega)⟩) (fun b h => by rcases h with rfl | rfl <;> omega) (fun x => rfl)
  (IScan w.heap.size w3.heap.size w.heap.size w1.heap.size (w1.heap.size + 1) st w) (iScan_own _ _ _ _ _ _ _ (Nat.le_refl _) (by omega)) (fun pre W1 b u hb h => iScan_set u h (by rcases hb with rfl | rfl <;> omega) (by rcases hb with rfl | rfl <;> omega) (by rcases hb with rfl | rfl <;> omega) (by rcases hb with rfl | rfl <;> omega) (by rcases hb with rfl | rfl <;> omega))
  (iScan_nil O.out A.out L.out HB.out (Nat.le_refl _))
  (fun x => { tmps := #[.string key, .string first, .string log, undef, undef, undef, .slice none 0 0, .int .i64 0, .int .u64 0, .pointer (some ⟨w.heap.size, 0, none⟩), .pointer (some ⟨w1.heap.size, 0, none⟩), .pointer (some ⟨w1.heap.size + 1, 0, none⟩), .string x.1, .int .u64 (x.2 : Nat), .string key, .string first, .int .u64 (st : Int), .string key, .int .u64 (st : Int), .string log, .func (.func 111) #[] #[.pointer (some ⟨w1.heap.size + 2 + 2, 0, none⟩), .pointer (some ⟨w1.heap.size + 2, 0, none⟩), .pointer (some ⟨w1.heap.size + 2 + 1, 0, none⟩)], .string x.1, .int .u64 (x.2 : Nat), undef, undef, undef, undef, undef, undef, undef, undef, undef, undef, undef, undef, undef, undef], defers := [] }) ?assign ?body ?done
 case assign =>
  intro l x W K hK
  gi_wp2
  exact hK
 case body =>
  rintro l pre ⟨s, nx⟩ W ⟨⟨⟨v, xo, hrow, _⟩, xa, xl⟩, hB, hNz⟩ hlt
  obtain ⟨A, c, rfl⟩ := own_slicej hrow
  have hB := Aside0.mk hB
  obtain ⟨at0, ha⟩ : ∃ a : Nat, endX pre = a := ⟨_, rfl⟩
  obtain ⟨nl, hnl⟩ : ∃ a : Nat, lastX st pre = a := ⟨_, rfl⟩
  have HA := Lib.hid ha
  have HNL := Lib.hid hnl
  rw [ha] at xa
  rw [hnl] at xl
  clear ha hnl
  have c0 := xo.cell
  have c1 := xa.cell
  gi_wp2
  obtain ⟨r0, hr0⟩ := hlt
  rw [hr0, endX_app] at hend
  simp only [endX] at hend
  have ha' := HA.out
  have hl2 := congrArg List.length hr0
  rw [List.length_append, List.length_cons] at hl2
  have hw1 : IntKind.i64.wrap ((at0 : Int) + 2) = (at0 : Int) + 2 := IntWalk.i64_in _ (by omega)
  have hw2 : IntKind.i64.wrap ((at0 : Int) + 2 + (s.size : Int)) = (at0 : Int) + 2 + (s.size : Int) := IntWalk.i64_in _ (by omega)
  have hw3 : IntKind.i64.wrap ((at0 : Int) + 2 + (s.size : Int) + 8) = (at0 : Int) + 2 + (s.size : Int) + 8 := IntWalk.i64_in _ (by omega)
  have hkl : pre.length + 1 ≤ 1000000 := by omega
  clear hlen hend hl2 ha' hr0 r0
  obtain ⟨i0, hi, hz0, hz1, hz2⟩ := info_parts jstr_info
  have hrow := Aside0.mk hrow
  have D0 : Hid (w.heap.size ≤ w3.heap.size) := Lib.hid (by omega)
  have D1 := Lib.hid hNz
  have D2 : Hid (w.heap.size ≤ w.heap.size) := Lib.hid (Nat.le_refl _)
  have D3 : Hid (w.heap.size ≤ w1.heap.size) := Lib.hid (by omega)
  have D4 : Hid (w.heap.size ≤ w1.heap.size + 1) := Lib.hid (by omega)
  have D5 : Hid (w.heap.size ≠ w1.heap.size) := Lib.hid (by omega)
  have D6 : Hid (w.heap.size ≠ w1.heap.size + 1) := Lib.hid (by omega)
  have D7 : Hid (w1.heap.size ≠ w1.heap.size + 1) := Lib.hid (by omega)
  have xo := Aside0.mk (show Blk W w.heap.size 41 #[.slice A pre.length c] from xo)
  have xa := Aside0.mk (show Blk W w1.heap.size 3 #[.int .i64 (at0 : Int)] from xa)
  have xl := Aside0.mk (show Blk W (w1.heap.size + 1) 47 #[.int .u64 (nl : Int)] from xl)
  refine startIn_ (n := 14) (S := fun w' : World => w'.cell? ⟨w1.heap.size, 0, none⟩ = some (.int .i64 (at0 : Int))) (ds := [12, 13]) #[false, false, false, false, false, false, false, false, false, false, false, false, false, false] (fun h => by obtain ⟨_, _, h⟩ := h; exact h) (by kernel_rfl) (by kernel_rfl) rfl rfl c1 (fun hHeld => ?_)
  refine pure_ (i := 1) (N := some 24) (v := .string s) (a' := ?_) #[false, true, false, false, false, false, false, false, false, false, false, false, false, false] rfl rfl (by kernel_rfl) (fun _ _ _ h => h) (Or.inl ⟨by rfl, ?_⟩) ?_ ?_
  ·intro w'
   go_simp
  rotate_left
  ·simp only [Act.put, List.setIfInBounds_toArray, List.set_cons_zero, List.set_cons_succ]
   rfl
  refine pure_ (i := 6) (N := some 29) (v := .string s) (a' := ?_) #[false, true, false, false, false, false, true, false, false, false, false, false, false, false] rfl rfl (by kernel_rfl) (fun _ _ _ h => h) (Or.inl ⟨by rfl, ?_⟩) ?_ ?_
  ·intro w'
   go_simp
  rotate_left
  ·simp only [Act.put, List.setIfInBounds_toArray, List.set_cons_zero, List.set_cons_succ]
   rfl
  refine pure_ (i := 10) (N := some 33) (v := .int .u64 (nx : Int)) (a' := ?_) #[false, true, false, false, false, false, true, false, false, false, true, false, false, false] rfl rfl (by kernel_rfl) (fun _ _ _ h => h) (Or.inl ⟨by rfl, ?_⟩) ?_ ?_
  ·intro w'
   go_simp
  rotate_left
  ·simp only [Act.put, List.setIfInBounds_toArray, List.set_cons_zero, List.set_cons_succ]
   rfl
  refine pure_ (i := 7) (N := some 30) (v := .int .i64 (s.size : Int)) (a' := ?_) #[false, true, false, false, false, false, true, true, false, false, true, false, false, false] rfl rfl (by kernel_rfl) (fun _ _ _ h => h) (Or.inl ⟨by rfl, ?_⟩) ?_ ?_
  ·intro w'
   go_simp
  rotate_left
  ·simp only [Act.put, List.setIfInBounds_toArray, List.set_cons_zero, List.set_cons_succ]
   rfl
  refine take_ (i := 4) (N := some 27) (v := .int .i64 (at0 : Int)) (a' := ?_) #[false, true, false, false, true, false, true, true, false, false, true, false, false, false] rfl rfl (by kernel_rfl) (fun _ _ _ h => h) (Or.inl ⟨by rfl, ?_⟩) hHeld ?_ ?_
  ·intro w' hSw
   go_simp
  rotate_left
  ·simp only [Act.put, List.setIfInBounds_toArray, List.set_cons_zero, List.set_cons_succ]
   rfl
  refine pure_ (i := 5) (N := some 28) (v := .int .i64 ((at0 : Int) + 2)) (a' := ?_) #[false, true, false, false, true, true, true, true, false, false, true, false, false, false] rfl rfl (by kernel_rfl) (fun _ _ _ h => h) (Or.inl ⟨by rfl, ?_⟩) ?_ ?_
  ·intro w'
   go_simp
  rotate_left
  ·simp only [Act.put, List.setIfInBounds_toArray, List.set_cons_zero, List.set_cons_succ]
   rfl
  refine pure_ (i := 8) (N := some 31) (v := .int .i64 ((at0 : Int) + 2 + (s.size : Int))) (a' := ?_) #[false, true, false, false, true, true, true, true, true, false, true, false, false, false] rfl rfl (by kernel_rfl) (fun _ _ _ h => h) (Or.inl ⟨by rfl, ?_⟩) ?_ ?_
  ·intro w'
   go_simp
  rotate_left
  ·simp only [Act.put, List.setIfInBounds_toArray, List.set_cons_zero, List.set_cons_succ]
   rfl
  refine pure_ (i := 9) (N := some 32) (v := .int .i64 ((at0 : Int) + 2 + (s.size : Int) + 8)) (a' := ?_) #[false, true, false, false, true, true, true, true, true, true, true, false, false, false] rfl rfl (by kernel_rfl) (fun _ _ _ h => h) (Or.inl ⟨by rfl, ?_⟩) ?_ ?_
  ·intro w'
   go_simp
  rotate_left
  ·simp only [Act.put, List.setIfInBounds_toArray, List.set_cons_zero, List.set_cons_succ]
   rfl
  refine two_ (i := 0) (j := 2) (Ni := some 23) (Nj := some 25) #[true, true, false, false, true, true, true, true, true, true, true, false, false, false] #[false, true, true, false, true, true, true, true, true, true, true, false, false, false] rfl rfl rfl rfl (by kernel_rfl) (by decide) (by decide) (fun K hK => ?_) (fun K hK => ?_)
  ·clear hHeld
   have c0 := xo.out.cell 0
   go_simp
   refine hK.out _ _ (xa.out.cell 0) (fun hHeld => ?_)
   clear hK K
   try simp only [Act.put, List.setIfInBounds_toArray, List.set_cons_zero, List.set_cons_succ]
   refine one_ (i := 2) (N := some 25) #[true, true, true, false, true, true, true, true, true, true, true, false, false, false] rfl rfl (by kernel_rfl) (by decide) (fun K hK => ?_)
   clear hHeld
   go_simp
   refine hK.out _ _ ((xa.out.alloc _).cell 0) (fun hHeld => ?_)
   clear hK K
   try simp only [Act.put, List.setIfInBounds_toArray, List.set_cons_zero, List.set_cons_succ]
   refine one_ (i := 3) (N := some 26) #[true, true, true, true, true, true, true, true, true, true, true, false, false, false] rfl rfl (by kernel_rfl) (by decide) (fun K hK => ?_)
   clear hHeld
   refine step_ownj rfl (.tmp 23) (.tmp 25) 41 rfl w3.heap.size 9 i0 (.string ⟨#[]⟩) 1 16 Try.underlying41 hi hz0 hz1 hz2 rfl (by decide) (.slice A pre.length c) pre.length _ (by rfl) ((hrow.out.drew).alloc (.cells #[.string s] 9)) ⟨W.heap.size, 0, none⟩ 1 1 [.string s] (by rfl) rfl (fun j u h => cell_one_new W _ _ j u h) (by simp [Value.oneCell']) (by simp only [maxLen]; omega) (by omega) (by show w3.heap.size ≤ (W.alloc (.cells #[.string s] 9)).heap.size; rw [World.size_alloc]; exact Nat.le_succ_of_le D1.out) ?_
   intro v' w5 ho hg
   have ⟨⟨O1, A1, L1⟩, kf, kq, o4, a4, l4, r4, b4, n4⟩ := scan_step (a' := .int .i64 ((at0 : Int) + 2 + (s.size : Int) + 8)) (n' := .int .u64 (nx : Int)) D0.out D1.out D2.out D3.out D4.out xo.out xa.out xl.out hrow.out D5.out D6.out D7.out ho hg
   have HF := Lib.hid (And.intro kf (And.intro kq (iScan_up (st := st) HA.out o4 r4 a4 l4 (hB.out.trans b4) n4)))
   obtain ⟨A', c', rfl⟩ := own_slicej ho
   clear ho hg kf kq o4 a4 l4 r4 b4 n4
   refine hK.out _ _ (A1.cell 0) (fun hHeld => ?_)
   clear hK K hHeld
   simp only [Act.put, List.setIfInBounds_toArray]
   have x9 := O1.cell 0
   have f9 := O1.frozen 0
   have A2 := A1.far (p := ⟨w.heap.size, 0, none⟩) (Ne.symm D5.out) (.slice A' (pre.length + 1) c')
   have x10 := A2.cell 0
   have f10 := A2.frozen 0
   have L3 := (L1.far (p := ⟨w.heap.size, 0, none⟩) (Ne.symm D6.out) (.slice A' (pre.length + 1) c')).far (p := ⟨w1.heap.size, 0, none⟩) (Ne.symm D7.out) (.int .i64 ((at0 : Int) + 2 + (s.size : Int) + 8))
   have x11 := L3.cell 0
   have f11 := L3.frozen 0
   refine one_ (i := 11) (N := none) #[true, true, true, true, true, true, true, true, true, true, true, true, false, false] rfl rfl (by kernel_rfl) (by decide) (fun K hK => ?_)
   go_simp
   refine hK.out _ _ (A2.cell 0) (fun _ => ?_)
   clear hK K
   refine last_ (i := 12) (N := none) #[true, true, true, true, true, true, true, true, true, true, true, true, true, false] rfl rfl (by kernel_rfl) (by decide) (fun K hK => ?_)
   go_simp
   refine hK.out _ _ ?_
   clear hK K
   refine last_ (i := 13) (N := none) #[true, true, true, true, true, true, true, true, true, true, true, true, true, true] rfl rfl (by kernel_rfl) (by decide) (fun K hK => ?_)
   go_simp
   refine hK.out _ _ ?_
   clear hK K
   refine done_ (by kernel_rfl) ?_
   exact HF.out
  ·clear hHeld
   go_simp
   refine hK.out _ _ ((xa.out.alloc _).cell 0) (fun hHeld => ?_)
   clear hK K
   try simp only [Act.put, List.setIfInBounds_toArray, List.set_cons_zero, List.set_cons_succ]
   have c0' := (xo.out.alloc (.cells #[.string s] 9)).cell 0
   refine one_ (i := 0) (N := some 23) #[true, true, true, false, true, true, true, true, true, true, true, false, false, false] rfl rfl (by kernel_rfl) (by decide) (fun K hK => ?_)
   clear hHeld
   go_simp
   refine hK.out _ _ ((xa.out.alloc _).cell 0) (fun hHeld => ?_)
   clear hK K c0'
   try simp only [Act.put, List.setIfInBounds_toArray, List.set_cons_zero, List.set_cons_succ]
   refine one_ (i := 3) (N := some 26) #[true, true, true, true, true, true, true, true, true, true, true, false, false, false] rfl rfl (by kernel_rfl) (by decide) (fun K hK => ?_)
   clear hHeld
   refine step_ownj rfl (.tmp 23) (.tmp 25) 41 rfl w3.heap.size 9 i0 (.string ⟨#[]⟩) 1 16 Try.underlying41 hi hz0 hz1 hz2 rfl (by decide) (.slice A pre.length c) pre.length _ (by rfl) ((hrow.out.drew).alloc (.cells #[.string s] 9)) ⟨W.heap.size, 0, none⟩ 1 1 [.string s] (by rfl) rfl (fun j u h => cell_one_new W _ _ j u h) (by simp [Value.oneCell']) (by simp only [maxLen]; omega) (by omega) (by show w3.heap.size ≤ (W.alloc (.cells #[.string s] 9)).heap.size; rw [World.size_alloc]; exact Nat.le_succ_of_le D1.out) ?_
   intro v' w5 ho hg
   have ⟨⟨O1, A1, L1⟩, kf, kq, o4, a4, l4, r4, b4, n4⟩ := scan_step (a' := .int .i64 ((at0 : Int) + 2 + (s.size : Int) + 8)) (n' := .int .u64 (nx : Int)) D0.out D1.out D2.out D3.out D4.out xo.out xa.out xl.out hrow.out D5.out D6.out D7.out ho hg
   have HF := Lib.hid (And.intro kf (And.intro kq (iScan_up (st := st) HA.out o4 r4 a4 l4 (hB.out.trans b4) n4)))
   obtain ⟨A', c', rfl⟩ := own_slicej ho
   clear ho hg kf kq o4 a4 l4 r4 b4 n4
   refine hK.out _ _ (A1.cell 0) (fun hHeld => ?_)
   clear hK K hHeld
   simp only [Act.put, List.setIfInBounds_toArray]
   have x9 := O1.cell 0
   have f9 := O1.frozen 0
   have A2 := A1.far (p := ⟨w.heap.size, 0, none⟩) (Ne.symm D5.out) (.slice A' (pre.length + 1) c')
   have x10 := A2.cell 0
   have f10 := A2.frozen 0
   have L3 := (L1.far (p := ⟨w.heap.size, 0, none⟩) (Ne.symm D6.out) (.slice A' (pre.length + 1) c')).far (p := ⟨w1.heap.size, 0, none⟩) (Ne.symm D7.out) (.int .i64 ((at0 : Int) + 2 + (s.size : Int) + 8))
   have x11 := L3.cell 0
   have f11 := L3.frozen 0
   refine one_ (i := 11) (N := none) #[true, true, true, true, true, true, true, true, true, true, true, true, false, false] rfl rfl (by kernel_rfl) (by decide) (fun K hK => ?_)
   go_simp
   refine hK.out _ _ (A2.cell 0) (fun _ => ?_)
   clear hK K
   refine last_ (i := 12) (N := none) #[true, true, true, true, true, true, true, true, true, true, true, true, true, false] rfl rfl (by kernel_rfl) (by decide) (fun K hK => ?_)
   go_simp
   refine hK.out _ _ ?_
   clear hK K
   refine last_ (i := 13) (N := none) #[true, true, true, true, true, true, true, true, true, true, true, true, true, true] rfl rfl (by kernel_rfl) (by decide) (fun K hK => ?_)
   go_simp
   refine hK.out _ _ ?_
   clear hK K
   refine done_ (by kernel_rfl) ?_
   exact HF.out
 case done =>
  rintro D W hD ⟨⟨⟨v, xo, hrow, _⟩, xa, xl⟩, hB, hNz⟩ hK
  obtain ⟨A, c, rfl⟩ := own_slicej hrow
  have c0 := xo.cell
  have c1 := xa.cell
  have c2 := xl.cell
  gi_wp2
  gi_quiet_th (fail)
  gi_wp2
  refine ⟨by simp, .inl ⟨_, _, rfl, run_takeDeferred (show (W.drewN nq).heap[D]? = _ from hK), ?_⟩⟩
  refine ⟨_, results_tmp3 rfl _ _ _, _, rfl, ?_⟩
  have hR : (W.drewN nq).ownsRow w3.heap.size 9 1 (.slice A (scanL key st log).length c) (scanL key st log).length (((scanL key st log).map Prod.fst).map Value.string) := by
   rw [List.map_map]
   exact hrow
  exact ⟨own_lej (ownsRow_putObj hR _ hK rfl) (by omega), (pw_below_drewN hB nq).trans (belowK_b (w := w3) (n₀ := w.heap.size) (by omega) (W.drewN nq) D _ _ (by omega) hK rfl rfl)⟩
theorem scan_any (key first log : ByteArray) (w : World) (hk : key.size ≤ 1000000000) (hf : first.size ≤ 1000000000) (hl : log.size ≤ 1000000) :
  Calls Try.prog 61 #[.string key, .string first, .string log] w fun e w' => ∃ v, e = .returned (.tuple #[v, .int .i64 (endX (scanL key (wordN key first) log) : Nat), .int .u64 (lastX (wordN key first) (scanL key (wordN key first) log) : Nat)]) ∧
   w'.ownsRow w.heap.size 9 1 v (scanL key (wordN key first) log).length (((scanL key (wordN key first) log).map Prod.fst).map Value.string) ∧ Below w.heap.size w w' := callsIn_wide.1 (scan_walk key first log w hk hf hl)
end Go.Proofs.Ytolbhliepkcihaa.Jour
end
section
namespace Go.Proofs.Ytolbhliepkcihaa
open Go.RowKit Go.Proofs.YtolbhliepkcihaaW.PrintWords Go.Proofs.YtolbhliepkcihaaW.PrintLast Go.Proofs.YtolbhliepkcihaaW.PrintMore Go.Proofs.Ytolbhliepkcihaa.Sha Go.Proofs.Ytolbhliepkcihaa.Mac Go.Proofs.Ytolbhliepkcihaa.Trust Go.Proofs.Ytolbhliepkcihaa.Codec Go.Proofs.Ytolbhliepkcihaa.Jour
def journal_Record.f (a0 : ByteArray) (a1 : Int) (a2 : ByteArray) : Option (ByteArray × Int × Int) :=
 if a0.size ≤ 1000000000 ∧ 0 ≤ a1 ∧ a1 < 18446744073709551616 then some (if a2.size ≤ 4096 then (recS a0 a1.toNat a2, ((nextN a0 a1.toNat a2 : Nat) : Int), 0) else (⟨#[]⟩, 0, 4)) else none
theorem journal_Record.calls (a0 : ByteArray) (a1 : Int) (a2 : ByteArray) (r1 : ByteArray) (r2 r3 : Int) (w : World) (h : journal_Record.f a0 a1 a2 = some (r1, r2, r3)) :
  Calls Try.prog 56 #[.string a0, .int .u64 a1, .string a2] w fun e w' => e = .returned (.tuple #[.string r1, .int .u64 r2, .int .i64 r3]) ∧ Below w.heap.size w w' := by
 unfold journal_Record.f at h
 split at h
 ·rename_i hc
  obtain ⟨n, rfl⟩ := Int.eq_ofNat_of_zero_le hc.2.1
  have h := Option.some.inj h
  split at h
  ·injection h with h1 h
   injection h with h2 h3
   subst h1
   subst h2
   subst h3
   exact rec_ok a0 n a2 w hc.1 (by omega) (by assumption)
  ·injection h with h1 h
   injection h with h2 h3
   subst h1
   subst h2
   subst h3
   exact rec_bad a0 (n : Int) a2 w (by omega)
 ·cases h
def journal_Write.f (a0 a1 : ByteArray) (l2 : List ByteArray) : Option (ByteArray × Int) := if a0.size ≤ 1000000000 ∧ a1.size ≤ 1000000000 ∧ l2.length ≤ 1000000 then some (wrR a0 a1 l2) else none
theorem journal_Write.calls (a0 a1 : ByteArray) (A2 : Option Addr) (c2 : Nat) (l2 : List ByteArray) (r1 : ByteArray) (r2 : Int) (w : World) (hr2 : Kd.C Kd.string w A2 l2.length l2) (hc2 : l2.length ≤ c2) (h : journal_Write.f a0 a1 l2 = some (r1, r2)) :
  Calls Try.prog 53 #[.string a0, .string a1, .slice A2 l2.length c2] w fun e w' => e = .returned (.tuple #[.string r1, .int .i64 r2]) ∧ Below w.heap.size w w' := by
 unfold journal_Write.f at h
 split at h
 ·rename_i hc
  have q := write_any2 a0 a1 A2 c2 l2 w hr2 hc2 hc.2.2 hc.1 hc.2.1
  rw [Option.some.inj h] at q
  exact q
 ·cases h
def journal_Scan.f (a0 a1 a2 : ByteArray) : Option (List ByteArray × Int × Int) := if a0.size ≤ 1000000000 ∧ a1.size ≤ 1000000000 ∧ a2.size ≤ 1000000 then some ((scanL a0 (wordN a0 a1) a2).map Prod.fst, ((endX (scanL a0 (wordN a0 a1) a2) : Nat) : Int), ((lastX (wordN a0 a1) (scanL a0 (wordN a0 a1) a2) : Nat) : Int)) else none
theorem journal_Scan.calls (a0 a1 a2 : ByteArray) (r1 : List ByteArray) (r2 r3 : Int) (w : World) (h : journal_Scan.f a0 a1 a2 = some (r1, r2, r3)) :
  Calls Try.prog 61 #[.string a0, .string a1, .string a2] w fun e w' => ∃ v0_ : Value, e = .returned (.tuple #[v0_, .int .i64 r2, .int .u64 r3]) ∧ Kd.R Kd.string 9 w' w.heap.size (fun _ => True) v0_ r1 ∧ Below w.heap.size w w' := by
 unfold journal_Scan.f at h
 split at h
 ·rename_i hc
  have h := Option.some.inj h
  injection h with h1 h
  injection h with h2 h3
  subst h1
  subst h2
  subst h3
  refine (scan_any a0 a1 a2 w hc.1 hc.2.1 hc.2.2).mono ?_
  rintro e w' ⟨v, rfl, ho, hb⟩
  rw [← List.length_map (f := Prod.fst)] at ho
  exact ⟨v, rfl, Kd.R_of_own ho (fun _ _ => trivial), hb⟩
 ·cases h
end Go.Proofs.Ytolbhliepkcihaa
end
section
namespace Go.Proofs.Ytolbhliepkcihaa.QJN
open Go.RowKit Go.Proofs.YtolbhliepkcihaaW.PrintWords Go.Proofs.YtolbhliepkcihaaW.PrintLast Go.Proofs.YtolbhliepkcihaaW.PrintMore
attribute [local go_sem] max2_int min2_int max_two min_two max_three min_three max_four min_four   -- for this text's walks alone
set_option linter.unusedVariables false
set_option linter.unusedSimpArgs false
def errW : Option Int → Value
 | none => .nilIface
 | some c => .iface 0 (.int .i64 c)
theorem errW_none : errW none = .nilIface := rfl
theorem errW_some (c : Int) : errW (some c) = .iface 0 (.int .i64 c) := rfl
theorem info9 : (Try.prog.info? 9).map (fun i => (i.zero, i.size, i.bytes)) = some (some (.string ⟨#[]⟩), 1, 16) := by kernel_rfl
end Go.Proofs.Ytolbhliepkcihaa.QJN
end
section
namespace Go.Proofs.Ytolbhliepkcihaa.QJN
open Go.RowKit Go.Proofs.YtolbhliepkcihaaW.PrintWords Go.Proofs.YtolbhliepkcihaaW.PrintLast Go.Proofs.YtolbhliepkcihaaW.PrintMore
attribute [local go_sem] max2_int min2_int max_two min_two max_three min_three max_four min_four   -- for this text's walks alone
set_option linter.unusedVariables false
set_option linter.unusedSimpArgs false
/-! ### saltuslaw13_cut: function 51 -/
def saltuslaw13_cut.f (a0 : ByteArray) : Option (ByteArray) := if 0 ≤ (mn (a0.size : Int) 80) then (if (mn (a0.size : Int) 80) ≤ (a0.size : Int) then (some (a0.extract 0 ((mn (a0.size : Int) 80) : Int).toNat)) else (none)) else (none)
set_option maxHeartbeats 8000000 in
set_option maxRecDepth 100000 in
theorem saltuslaw13_cut.calls (a0 : ByteArray) (r : ByteArray) (w : World) (h : saltuslaw13_cut.f a0 = some r) :
  Calls Try.prog 51 #[.string a0] w fun e w' => e = .returned (.string r) ∧ Below w.heap.size w w' := by
 have HB := Aside0.mk (Below.refl w.heap.size w)
 have H : (if 0 ≤ (mn (a0.size : Int) 80) then (if (mn (a0.size : Int) 80) ≤ (a0.size : Int) then (some (a0.extract 0 ((mn (a0.size : Int) 80) : Int).toNat)) else (none)) else (none)) = some r := h
 clear h
 obtain ⟨ji2, hji2⟩ : ∃ j_ : Int, (mn (a0.size : Int) 80) = j_ := ⟨_, rfl⟩
 replace H : (if 0 ≤ (ji2) then (if (ji2) ≤ (a0.size : Int) then (some (a0.extract 0 ((ji2) : Int).toNat)) else (none)) else (none)) = some r := by first | (rw [hji2] at H; exact H) | (simp only [hji2] at H ⊢; exact H)
 (try (have hji2h : ji2 ≤ 80 := by (rw [← hji2]; unfold mn; (repeat' split) <;> omega)))
 (try (have hji2g : ji2 ≤ 64 := by omega))
 (try (have hji2l : 0 ≤ ji2 := by (rw [← hji2]; unfold mn; (repeat' split) <;> omega)))
 (try (have hji2m : 0 ≤ ji2 := by omega))
 have hji2_ : (if 80 < (a0.size : Int) then 80 else (a0.size : Int)) = ji2 := hji2
 by_cases c3 : 0 ≤ (ji2)
 ·rw [if_pos c3] at H
  have c3b0 := eq_true c3
  have c3b1 : decide (0 ≤ (ji2)) = true := decide_eq_true c3
  clear c3
  by_cases c4 : (ji2) ≤ (a0.size : Int)
  ·rw [if_pos c4] at H
   have c4b0 := eq_true c4
   have c4b1 : decide ((ji2) ≤ (a0.size : Int)) = true := decide_eq_true c4
   clear c4
   obtain rfl := Option.some.inj H
   go_enter Try.func51, Try.ntmps51
   go_wp2
   go_ret
   exact ⟨by first | rfl | (simp [errW_none, errW_some] <;> rfl) | (simp only [← hji2]; first | rfl | (simp [errW_none, errW_some] <;> rfl)) | (simp [*, errW_none, errW_some] <;> rfl), by repeat (first | (with_reducible first | exact HB.out | apply below_alloc | apply pw_below_drewN | apply below_drew1) | exact HB.out)⟩
  ·rw [if_neg c4] at H
   exact absurd H (by simp)
 ·rw [if_neg c3] at H
  exact absurd H (by simp)
/-! ### saltuslaw13_few: function 52 -/
def saltuslaw13_few.l0 : Nat → List ByteArray → List ByteArray → Int → Int → Option (List ByteArray)
 | 0, _, _, _, _ => none
 | k + 1, x3, x10, x11, x12 => if x12 < x11 then (if 0 ≤ x12 then (if x12 < (x10.length : Int) then (if ((rdOf ByteArray.empty x10 x12).size : Int) ≤ 4096 then ((saltuslaw13_cut.f (rdOf ByteArray.empty x10 x12)).bind fun t103 => (if x3.length < 8796093022208 then (saltuslaw13_few.l0 k (x3 ++ [t103]) x10 x11 (wrap64 (x12 + 1))) else (none))) else (if x3.length < 8796093022208 then (saltuslaw13_few.l0 k (x3 ++ [rdOf ByteArray.empty x10 x12]) x10 x11 (wrap64 (x12 + 1))) else (none))) else (none)) else (none)) else (some x3)
def saltuslaw13_few.f (k : Nat) (l0 : List ByteArray) : Option (List ByteArray) := if 0 ≤ (mn (l0.length : Int) 8) then (if (mn (l0.length : Int) 8) ≤ (l0.length : Int) then (saltuslaw13_few.l0 k ([] : List ByteArray) (l0.take ((mn (l0.length : Int) 8) : Int).toNat) ((l0.take ((mn (l0.length : Int) 8) : Int).toNat).length : Int) 0) else (none)) else (none)
theorem saltuslaw13_few.mono_l : ∀ k, (∀ y0 y1 y2 y3, LeO (saltuslaw13_few.l0 k y0 y1 y2 y3) (saltuslaw13_few.l0 (k + 1) y0 y1 y2 y3))
 | 0 => fun _ _ _ _ r h => by simp [saltuslaw13_few.l0] at h
 | k + 1 => by
  have ih0 := saltuslaw13_few.mono_l k
  ·intro y0 y1 y2 y3
   unfold saltuslaw13_few.l0
   repeat' first
   | (with_reducible exact ih0 _ _ _ _)
   | (with_reducible exact LeO.refl _)
   | (with_reducible exact LeO.none _)
   | (with_reducible refine LeO.ite ?_ ?_)
   | (with_reducible refine LeO.bind ?_ (fun _ => ?_))
   | exact ih0 _ _ _ _
   | exact LeO.none _
   | refine LeO.ite ?_ ?_
   | refine LeO.bind ?_ (fun _ => ?_)
theorem saltuslaw13_few.mono : ∀ a0 k, LeO (saltuslaw13_few.f k a0) (saltuslaw13_few.f (k + 1) a0) := by
 intro a0 k
 have ih0 := saltuslaw13_few.mono_l k
 unfold saltuslaw13_few.f
 repeat' first
   | (with_reducible exact ih0 _ _ _ _)
   | (with_reducible exact LeO.refl _)
   | (with_reducible exact LeO.none _)
   | (with_reducible refine LeO.ite ?_ ?_)
   | (with_reducible refine LeO.bind ?_ (fun _ => ?_))
   | exact ih0 _ _ _ _
   | exact LeO.none _
   | refine LeO.ite ?_ ?_
   | refine LeO.bind ?_ (fun _ => ?_)
set_option maxHeartbeats 8000000 in
set_option maxRecDepth 100000 in
theorem saltuslaw13_few.calls (k : Nat) (A0 : Option Addr) (c0 : Nat) (l0 : List ByteArray) (r : List ByteArray) (w : World) (hr0 : Kd.C Kd.string w A0 l0.length l0) (hc0 : l0.length ≤ c0) (h : saltuslaw13_few.f k l0 = some r) :
  Calls Try.prog 52 #[.slice A0 l0.length c0] w fun e w' => ∃ v0_ : Value, e = .returned (v0_) ∧ Kd.R Kd.string 9 w' w.heap.size (fun _ => True) v0_ r ∧ Below w.heap.size w w' := by
 have HR0 := Aside0.mk hr0
 have HC0 := Aside0.mk hc0
 clear hr0 hc0
 have HB := Aside0.mk (Below.refl w.heap.size w)
 have H : (if 0 ≤ (mn (l0.length : Int) 8) then (if (mn (l0.length : Int) 8) ≤ (l0.length : Int) then (saltuslaw13_few.l0 k ([] : List ByteArray) (l0.take ((mn (l0.length : Int) 8) : Int).toNat) ((l0.take ((mn (l0.length : Int) 8) : Int).toNat).length : Int) 0) else (none)) else (none)) = some r := h
 clear h
 obtain ⟨ji2, hji2⟩ : ∃ j_ : Int, (mn (l0.length : Int) 8) = j_ := ⟨_, rfl⟩
 replace H : (if 0 ≤ (ji2) then (if (ji2) ≤ (l0.length : Int) then (saltuslaw13_few.l0 k ([] : List ByteArray) (l0.take ((ji2) : Int).toNat) ((l0.take ((ji2) : Int).toNat).length : Int) 0) else (none)) else (none)) = some r := by first | (rw [hji2] at H; exact H) | (simp only [hji2] at H ⊢; exact H)
 (try (have hji2h : ji2 ≤ 8 := by (rw [← hji2]; unfold mn; (repeat' split) <;> omega)))
 (try (have hji2g : ji2 ≤ 64 := by omega))
 (try (have hji2l : 0 ≤ ji2 := by (rw [← hji2]; unfold mn; (repeat' split) <;> omega)))
 (try (have hji2m : 0 ≤ ji2 := by omega))
 have hji2_ : (if 8 < (l0.length : Int) then 8 else (l0.length : Int)) = ji2 := hji2
 by_cases c3 : 0 ≤ (ji2)
 ·rw [if_pos c3] at H
  have c3b0 := eq_true c3
  have c3b1 : decide (0 ≤ (ji2)) = true := decide_eq_true c3
  clear c3
  by_cases c4 : (ji2) ≤ (l0.length : Int)
  ·rw [if_pos c4] at H
   have c4b0 := eq_true c4
   have c4b1 : decide ((ji2) ≤ (l0.length : Int)) = true := decide_eq_true c4
   clear c4
   have H' := Aside0.mk H
   clear H
   obtain ⟨i05, hi05, _, hsz5, _⟩ := info_parts info9
   obtain ⟨hcut5, hA5, hC5⟩ := print_take_of (P := Try.prog) Value.string (⟨#[]⟩ : ByteArray) 41 9 .i64 Try.underlying41 hi05 hsz5 A0 c0 l0 (ji2) (of_decide_eq_true (by first | (with_reducible assumption) | assumption)) (of_decide_eq_true (by first | (with_reducible assumption) | assumption)) HC0.out
   have HR101 := Aside0.mk (Kd.C_of_reads (h1 := fun _ => rfl) (hA5 _ (Kd.reads_of_C HR0.out)))
   have HC101 := Aside0.mk hC5
   clear hA5 hC5 hi05 hsz5
   obtain ⟨lq5, hlq5⟩ : ∃ l_, l0.take ((ji2) : Int).toNat = l_ := ⟨_, rfl⟩
   simp only [hlq5] at hcut5 HR101 HC101 H'
   clear hlq5
   go_enter Try.func52, Try.ntmps52
   go_wp2
   go_loopg [3, 12] k (fun kq v3 v12 w' => ∃ (x3_1 : List ByteArray) (x12_1 : Int), v12 = .int .i64 x12_1 ∧ Aside0 (saltuslaw13_few.l0 kq x3_1 lq5 (lq5.length : Int) x12_1 = some r) ∧ Aside0 (kq ≤ k) ∧ Aside0 (Kd.R Kd.string 9 w' w.heap.size (fun _ => True) v3 x3_1) ∧ Aside0 (Below w.heap.size w w'))
   case atStart => exact ⟨(([] : List ByteArray)), (0), (by first | rfl | (simp; done) | (simp [*]; done)), H', ⟨Nat.le_refl _⟩, ⟨by first | exact Kd.R_nil _ _ _ _ _ | exact Kd.N_nil _ _ _ _ _ | exact Kd.V_nil _ _ _ _ _ | exact Kd.Q_nil _ _ _ _ _ | exact Kd.S_nil _ _ _ _ _⟩, ⟨by repeat (first | (with_reducible first | exact HB.out | apply below_alloc | apply pw_below_drewN | apply below_drew1) | exact HB.out)⟩⟩
   case round =>
    clear H'
    try clear p2
    try clear c3
    try clear c3b0
    try clear c3b1
    try clear c4
    try clear c4b0
    try clear c4b1
    try clear c5
    obtain ⟨x3_1, x12_1, rfl, HA, HK1, HO_3, HB⟩ := hrel
    cases gk with
    | zero => exact absurd HA.out (by simp [saltuslaw13_few.l0])
    | succ k1 =>
     have H := HA.out
     clear HA
     simp only [saltuslaw13_few.l0] at H
     by_cases c6 : x12_1 < (lq5.length : Int)
     ·rw [if_pos c6] at H
      have c6b0 : decide (x12_1 < (lq5.length : Int)) = true := decide_eq_true c6
      clear c6
      by_cases c7 : 0 ≤ x12_1
      ·rw [if_pos c7] at H
       have c7b0 : decide (0 ≤ x12_1) = true := decide_eq_true c7
       clear c7
       by_cases c8 : x12_1 < (lq5.length : Int)
       ·rw [if_pos c8] at H
        have c8b0 : decide (x12_1 < (lq5.length : Int)) = true := decide_eq_true c8
        clear c8
        by_cases c9 : ((rdOf ByteArray.empty lq5 x12_1).size : Int) ≤ 4096
        ·rw [if_pos c9] at H
         have c9b0 : decide (((rdOf ByteArray.empty lq5 x12_1).size : Int) ≤ 4096) = true := decide_eq_true c9
         have c9b1 : decide ((rdOf ByteArray.empty lq5 x12_1).size ≤ 4096) = true := decide_eq_true (by omega)
         clear c9
         replace H := Option.bind_eq_some_iff.mp H
         obtain ⟨t103, A100, H⟩ := H
         (try dsimp only at H)
         have A10 := Aside0.mk A100
         clear A100
         by_cases c11 : x3_1.length < 8796093022208
         ·rw [if_pos c11] at H
          have LMc11 := Aside0.mk c11
          clear c11
          obtain ⟨y104, hy104⟩ : ∃ y_ : List ByteArray, y_ = (x3_1 ++ [t103]) := ⟨_, rfl⟩
          replace H : (saltuslaw13_few.l0 k1 y104 lq5 (lq5.length : Int) (wrap64 (x12_1 + 1))) = some r := by first | (rw [hy104]; with_reducible exact H) | (have H2_ := (Option.bind_some _ _).symm.trans H; rw [hy104]; with_reducible exact H2_) | (have H2_ := (Option.bind_some _ _).symm.trans H; with_reducible exact H2_) | with_reducible exact H | (rw [hy104]; exact H) | exact H
          have Ny104 := Aside0.mk hy104
          clear hy104
          have H' := Aside0.mk H
          clear H
          have p102 : 0 ≤ (x12_1 : Int) := of_decide_eq_true (by first | (with_reducible assumption) | assumption)
          have q102 : x12_1 < (lq5.length : Int) := of_decide_eq_true (by first | (with_reducible assumption) | assumption)
          obtain ⟨ad102, e102, hx102_0⟩ := Kd.at_string HR101.out x12_1 p102 q102
          cases e102
          replace hx102_0 := (HB.out.cell (World.block_lt_of_cell? w _ hx102_0)).trans hx102_0
          replace p102 := eq_true p102
          replace q102 := eq_true q102
          go_wp2_with (first | ((with_reducible refine gate_callee (f := 51) rfl ?_); refine goesL_ (some 20) rfl rfl Try.func51 (by kernel_rfl) rfl #[.string (rdOf ByteArray.empty lq5 x12_1)] rfl (by (try simp only [List.map_toArray, List.map_cons, List.map_nil]); first | done | (simp only [hji2]; rfl) | rfl | (simp only [List.length_drop, List.length_take]; rfl)) ?_; (with_reducible refine (saltuslaw13_cut.calls (rdOf ByteArray.empty lq5 x12_1) t103 _ A10.out).mono ?_); rintro e w12 ⟨rfl, hb⟩; refine ⟨_, rfl, ?_⟩; have n0_ := Aside0.mk (Kd.R_below (by (with_reducible repeat (first | apply Kd.R_alloc | apply Kd.R_drewN | apply Kd.R_drew)); exact HO_3.out) hb); have n1_ := Aside0.mk (below_step (by repeat (first | (with_reducible first | exact HB.out | apply below_alloc | apply pw_below_drewN | apply below_drew1) | exact HB.out)) hb); clear HO_3; clear HB; have HO_3 := n0_; have HB := n1_; clear n0_ n1_; (try clear hb); (try clear hb2); (try clear hk); (try clear hi)) | ((with_reducible refine gate_builtin (b := .append) (xs := #[.tmp 21, .tmp 23]) rfl ?_); at_builtin; refine Kd.R_append Kd.string (w0 := w) w.heap.size rfl (.tmp 21) (.tmp 23) 41 9 (.string ⟨#[]⟩) 16 rfl Try.underlying41 info9 rfl (by decide) (by omega) u3 x3_1 t103 [.string t103] (fun _ => True) (fun _ => False) rfl rfl ?aP (fun _ hk => hk.elim) ?aF ?aO ?aB ?aS ?aL ?_; (case aP => exact rfl); (case aB => exact (by repeat (first | (with_reducible first | exact HB.out | apply below_alloc | apply pw_below_drewN | apply below_drew1) | exact HB.out))); (case aF => exact (fun _ _ => trivial)); (case aO => exact (by (with_reducible repeat (first | apply Kd.R_alloc | apply Kd.R_drewN | apply Kd.R_drew)); exact HO_3.out)); (case aS => exact (below_size (by repeat (first | (with_reducible first | exact HB.out | apply below_alloc | apply pw_below_drewN | apply below_drew1) | exact HB.out)))); (case aL => have := LMc11.out; omega); intro v105 w13 ho hb hg hat; rw [← Ny104.out] at ho; have n0_ := Aside0.mk (hb); have n1_ := Aside0.mk (ho); clear HB; clear HO_3; have HB := n0_; have HO106 := n1_; clear n0_ n1_; clear ho hb hg hat))
          go_roundg k1
          case measure => have := HK1.out; omega
          case rel => exact ⟨(y104), (wrap64 (x12_1 + 1)), (by first | rfl | (simp; done) | (simp [*]; done)), H', ⟨by have := HK1.out; omega⟩, ⟨by (with_reducible repeat (first | apply Kd.R_alloc | apply Kd.R_drewN | apply Kd.R_drew)); exact HO106.out⟩, ⟨by repeat (first | (with_reducible first | exact HB.out | apply below_alloc | apply pw_below_drewN | apply below_drew1) | exact HB.out)⟩⟩
         ·rw [if_neg c11] at H
          exact absurd H (by simp)
        ·rw [if_neg c9] at H
         have c9b0 : decide (((rdOf ByteArray.empty lq5 x12_1).size : Int) ≤ 4096) = false := decide_eq_false c9
         have c9b1 : decide ((rdOf ByteArray.empty lq5 x12_1).size ≤ 4096) = false := decide_eq_false (by omega)
         clear c9
         by_cases c14 : x3_1.length < 8796093022208
         ·rw [if_pos c14] at H
          have LMc14 := Aside0.mk c14
          clear c14
          obtain ⟨y107, hy107⟩ : ∃ y_ : List ByteArray, y_ = (x3_1 ++ [rdOf ByteArray.empty lq5 x12_1]) := ⟨_, rfl⟩
          replace H : (saltuslaw13_few.l0 k1 y107 lq5 (lq5.length : Int) (wrap64 (x12_1 + 1))) = some r := by first | (rw [hy107]; with_reducible exact H) | (have H2_ := (Option.bind_some _ _).symm.trans H; rw [hy107]; with_reducible exact H2_) | (have H2_ := (Option.bind_some _ _).symm.trans H; with_reducible exact H2_) | with_reducible exact H | (rw [hy107]; exact H) | exact H
          have Ny107 := Aside0.mk hy107
          clear hy107
          have H' := Aside0.mk H
          clear H
          have p102 : 0 ≤ (x12_1 : Int) := of_decide_eq_true (by first | (with_reducible assumption) | assumption)
          have q102 : x12_1 < (lq5.length : Int) := of_decide_eq_true (by first | (with_reducible assumption) | assumption)
          obtain ⟨ad102, e102, hx102_0⟩ := Kd.at_string HR101.out x12_1 p102 q102
          cases e102
          replace hx102_0 := (HB.out.cell (World.block_lt_of_cell? w _ hx102_0)).trans hx102_0
          replace p102 := eq_true p102
          replace q102 := eq_true q102
          go_wp2_with (first | ((with_reducible refine gate_builtin (b := .append) (xs := #[.tmp 21, .tmp 23]) rfl ?_); at_builtin; refine Kd.R_append Kd.string (w0 := w) w.heap.size rfl (.tmp 21) (.tmp 23) 41 9 (.string ⟨#[]⟩) 16 rfl Try.underlying41 info9 rfl (by decide) (by omega) u3 x3_1 (rdOf ByteArray.empty lq5 x12_1) [.string (rdOf ByteArray.empty lq5 x12_1)] (fun _ => True) (fun _ => False) rfl rfl ?aP (fun _ hk => hk.elim) ?aF ?aO ?aB ?aS ?aL ?_; (case aP => exact rfl); (case aB => exact (by repeat (first | (with_reducible first | exact HB.out | apply below_alloc | apply pw_below_drewN | apply below_drew1) | exact HB.out))); (case aF => exact (fun _ _ => trivial)); (case aO => exact (by (with_reducible repeat (first | apply Kd.R_alloc | apply Kd.R_drewN | apply Kd.R_drew)); exact HO_3.out)); (case aS => exact (below_size (by repeat (first | (with_reducible first | exact HB.out | apply below_alloc | apply pw_below_drewN | apply below_drew1) | exact HB.out)))); (case aL => have := LMc14.out; omega); intro v108 w15 ho hb hg hat; rw [← Ny107.out] at ho; have n0_ := Aside0.mk (hb); have n1_ := Aside0.mk (ho); clear HB; clear HO_3; have HB := n0_; have HO109 := n1_; clear n0_ n1_; clear ho hb hg hat))
          go_roundg k1
          case measure => have := HK1.out; omega
          case rel => exact ⟨(y107), (wrap64 (x12_1 + 1)), (by first | rfl | (simp; done) | (simp [*]; done)), H', ⟨by have := HK1.out; omega⟩, ⟨by (with_reducible repeat (first | apply Kd.R_alloc | apply Kd.R_drewN | apply Kd.R_drew)); exact HO109.out⟩, ⟨by repeat (first | (with_reducible first | exact HB.out | apply below_alloc | apply pw_below_drewN | apply below_drew1) | exact HB.out)⟩⟩
         ·rw [if_neg c14] at H
          exact absurd H (by simp)
       ·rw [if_neg c8] at H
        exact absurd H (by simp)
      ·rw [if_neg c7] at H
       exact absurd H (by simp)
     ·rw [if_neg c6] at H
      have c6b0 : decide (x12_1 < (lq5.length : Int)) = false := decide_eq_false c6
      clear c6
      obtain rfl := Option.some.inj H
      go_wp2
      go_ret
      exact ⟨_, by first | rfl | (simp [errW_none, errW_some] <;> rfl) | (simp only [← hji2]; first | rfl | (simp [errW_none, errW_some] <;> rfl)) | (simp [*, errW_none, errW_some] <;> rfl), by (with_reducible repeat (first | apply Kd.R_alloc | apply Kd.R_drewN | apply Kd.R_drew)); exact HO_3.out, by repeat (first | (with_reducible first | exact HB.out | apply below_alloc | apply pw_below_drewN | apply below_drew1) | exact HB.out)⟩
  ·rw [if_neg c4] at H
   exact absurd H (by simp)
 ·rw [if_neg c3] at H
  exact absurd H (by simp)
/-! ### saltusref04_Same: function 39 -/
def saltusref04_Same.l0 : Nat → List ByteArray → List ByteArray → Int → Int → Option (Bool)
 | 0, _, _, _, _ => none
 | k + 1, x0, x1, x12, x13 => if x13 < x12 then (if 0 ≤ x13 then (if x13 < (x0.length : Int) then (if x13 < (x1.length : Int) then (if (rdOf ByteArray.empty x0 x13).toList = (rdOf ByteArray.empty x1 x13).toList then (saltusref04_Same.l0 k x0 x1 x12 (wrap64 (x13 + 1))) else (some false)) else (none)) else (none)) else (none)) else (some true)
def saltusref04_Same.f (k : Nat) (l0 : List ByteArray) (l1 : List ByteArray) : Option (Bool) := if (l0.length : Int) = (l1.length : Int) then (saltusref04_Same.l0 k l0 l1 (l0.length : Int) 0) else (some false)
theorem saltusref04_Same.mono_l : ∀ k, (∀ y0 y1 y2 y3, LeO (saltusref04_Same.l0 k y0 y1 y2 y3) (saltusref04_Same.l0 (k + 1) y0 y1 y2 y3))
 | 0 => fun _ _ _ _ r h => by simp [saltusref04_Same.l0] at h
 | k + 1 => by
  have ih0 := saltusref04_Same.mono_l k
  ·intro y0 y1 y2 y3
   unfold saltusref04_Same.l0
   repeat' first
   | (with_reducible exact ih0 _ _ _ _)
   | (with_reducible exact LeO.refl _)
   | (with_reducible exact LeO.none _)
   | (with_reducible refine LeO.ite ?_ ?_)
   | (with_reducible refine LeO.bind ?_ (fun _ => ?_))
   | exact ih0 _ _ _ _
   | exact LeO.none _
   | refine LeO.ite ?_ ?_
   | refine LeO.bind ?_ (fun _ => ?_)
theorem saltusref04_Same.mono : ∀ a0 a1 k, LeO (saltusref04_Same.f k a0 a1) (saltusref04_Same.f (k + 1) a0 a1) := by
 intro a0 a1 k
 have ih0 := saltusref04_Same.mono_l k
 unfold saltusref04_Same.f
 repeat' first
   | (with_reducible exact ih0 _ _ _ _)
   | (with_reducible exact LeO.refl _)
   | (with_reducible exact LeO.none _)
   | (with_reducible refine LeO.ite ?_ ?_)
   | (with_reducible refine LeO.bind ?_ (fun _ => ?_))
   | exact ih0 _ _ _ _
   | exact LeO.none _
   | refine LeO.ite ?_ ?_
   | refine LeO.bind ?_ (fun _ => ?_)
set_option maxHeartbeats 8000000 in
set_option maxRecDepth 100000 in
theorem saltusref04_Same.calls (k : Nat) (A0 : Option Addr) (c0 : Nat) (l0 : List ByteArray) (A1 : Option Addr) (c1 : Nat) (l1 : List ByteArray) (r : Bool) (w : World) (hr0 : Kd.C Kd.string w A0 l0.length l0) (hc0 : l0.length ≤ c0) (hr1 : Kd.C Kd.string w A1 l1.length l1) (hc1 : l1.length ≤ c1) (h : saltusref04_Same.f k l0 l1 = some r) :
  Calls Try.prog 39 #[.slice A0 l0.length c0, .slice A1 l1.length c1] w fun e w' => e = .returned (.bool r) ∧ Drawn0 w w' := by
 have HR0 := Aside0.mk hr0
 have HC0 := Aside0.mk hc0
 clear hr0 hc0
 have HR1 := Aside0.mk hr1
 have HC1 := Aside0.mk hc1
 clear hr1 hc1
 have H : (if (l0.length : Int) = (l1.length : Int) then (saltusref04_Same.l0 k l0 l1 (l0.length : Int) 0) else (some false)) = some r := h
 clear h
 by_cases c3 : (l0.length : Int) = (l1.length : Int)
 ·rw [if_pos c3] at H
  have c3b0 : ((l0.length : Int) == (l1.length : Int)) = true := beq_iff_eq.mpr c3
  have c3b1 : ((l0.length : Int) != (l1.length : Int)) = false := bne_eq_false_iff_eq.mpr c3
  have c3b2 : (l0.length == l1.length) = true := by first | simpa using c3 | (simp at c3 ⊢; omega)
  clear c3
  have H' := Aside0.mk H
  clear H
  go_enter Try.func39, Try.ntmps39
  go_wp2
  repeat (go_quiet (fail); try go_wp2)
  go_loopg [13] k (fun kq v13 w' => ∃ (x13_1 : Int), v13 = .int .i64 x13_1 ∧ Aside0 (saltusref04_Same.l0 kq l0 l1 (l0.length : Int) x13_1 = some r) ∧ Aside0 (kq ≤ k) ∧ Drawn0 w w')
  case atStart => exact ⟨(0), (by first | rfl | (simp; done) | (simp [*]; done)), H', ⟨Nat.le_refl _⟩, by repeat (first | exact Drawn0.refl _ | apply Drawn0.step)⟩
  case round =>
   clear H'
   try clear c1
   try clear p2
   try clear c3
   try clear c3b0
   try clear c3b1
   try clear c3b2
   obtain ⟨x13_1, rfl, HA, HK1, ⟨m1, rfl⟩⟩ := hrel
   cases gk with
   | zero => exact absurd HA.out (by simp [saltusref04_Same.l0])
   | succ k1 =>
    have H := HA.out
    clear HA
    simp only [saltusref04_Same.l0] at H
    by_cases c4 : x13_1 < (l0.length : Int)
    ·rw [if_pos c4] at H
     have c4b0 : decide (x13_1 < (l0.length : Int)) = true := decide_eq_true c4
     clear c4
     by_cases c5 : 0 ≤ x13_1
     ·rw [if_pos c5] at H
      have c5b0 : decide (0 ≤ x13_1) = true := decide_eq_true c5
      clear c5
      by_cases c6 : x13_1 < (l0.length : Int)
      ·rw [if_pos c6] at H
       have c6b0 : decide (x13_1 < (l0.length : Int)) = true := decide_eq_true c6
       clear c6
       by_cases c7 : x13_1 < (l1.length : Int)
       ·rw [if_pos c7] at H
        have c7b0 : decide (x13_1 < (l1.length : Int)) = true := decide_eq_true c7
        clear c7
        by_cases c8 : (rdOf ByteArray.empty l0 x13_1).toList = (rdOf ByteArray.empty l1 x13_1).toList
        ·rw [if_pos c8] at H
         have c8b0 : ((rdOf ByteArray.empty l0 x13_1).toList == (rdOf ByteArray.empty l1 x13_1).toList) = true := beq_iff_eq.mpr c8
         have c8b1 : ((rdOf ByteArray.empty l0 x13_1).toList != (rdOf ByteArray.empty l1 x13_1).toList) = false := bne_eq_false_iff_eq.mpr c8
         clear c8
         have H' := Aside0.mk H
         clear H
         have p110 : 0 ≤ (x13_1 : Int) := of_decide_eq_true (by first | (with_reducible assumption) | assumption)
         have q110 : x13_1 < (l0.length : Int) := of_decide_eq_true (by first | (with_reducible assumption) | assumption)
         obtain ⟨ad110, e110, hx110_0⟩ := Kd.at_string HR0.out x13_1 p110 q110
         cases e110
         replace p110 := eq_true p110
         replace q110 := eq_true q110
         have p111 : 0 ≤ (x13_1 : Int) := of_decide_eq_true (by first | (with_reducible assumption) | assumption)
         have q111 : x13_1 < (l1.length : Int) := of_decide_eq_true (by first | (with_reducible assumption) | assumption)
         obtain ⟨ad111, e111, hx111_0⟩ := Kd.at_string HR1.out x13_1 p111 q111
         cases e111
         replace p111 := eq_true p111
         replace q111 := eq_true q111
         go_wp2
         repeat (go_quiet (fail); try go_wp2)
         go_roundg k1
         case measure => have := HK1.out; omega
         case rel => exact ⟨(wrap64 (x13_1 + 1)), (by first | rfl | (simp; done) | (simp [*]; done)), H', ⟨by have := HK1.out; omega⟩, by repeat (first | exact Drawn0.refl _ | apply Drawn0.step)⟩
        ·rw [if_neg c8] at H
         have c8b0 : ((rdOf ByteArray.empty l0 x13_1).toList == (rdOf ByteArray.empty l1 x13_1).toList) = false := beq_eq_false_iff_ne.mpr c8
         have c8b1 : ((rdOf ByteArray.empty l0 x13_1).toList != (rdOf ByteArray.empty l1 x13_1).toList) = true := bne_iff_ne.mpr c8
         obtain rfl := Option.some.inj H
         have p110 : 0 ≤ (x13_1 : Int) := of_decide_eq_true (by first | (with_reducible assumption) | assumption)
         have q110 : x13_1 < (l0.length : Int) := of_decide_eq_true (by first | (with_reducible assumption) | assumption)
         obtain ⟨ad110, e110, hx110_0⟩ := Kd.at_string HR0.out x13_1 p110 q110
         cases e110
         replace p110 := eq_true p110
         replace q110 := eq_true q110
         have p111 : 0 ≤ (x13_1 : Int) := of_decide_eq_true (by first | (with_reducible assumption) | assumption)
         have q111 : x13_1 < (l1.length : Int) := of_decide_eq_true (by first | (with_reducible assumption) | assumption)
         obtain ⟨ad111, e111, hx111_0⟩ := Kd.at_string HR1.out x13_1 p111 q111
         cases e111
         replace p111 := eq_true p111
         replace q111 := eq_true q111
         go_wp2
         repeat (go_quiet (fail); try go_wp2)
         go_ret
         exact ⟨by first | rfl | (simp; done) | (simp [*]; done), by repeat (first | exact Drawn0.refl _ | apply Drawn0.step)⟩
       ·rw [if_neg c7] at H
        exact absurd H (by simp)
      ·rw [if_neg c6] at H
       exact absurd H (by simp)
     ·rw [if_neg c5] at H
      exact absurd H (by simp)
    ·rw [if_neg c4] at H
     have c4b0 : decide (x13_1 < (l0.length : Int)) = false := decide_eq_false c4
     clear c4
     obtain rfl := Option.some.inj H
     go_wp2
     repeat (go_quiet (fail); try go_wp2)
     go_ret
     exact ⟨by first | rfl | (simp; done) | (simp [*]; done), by repeat (first | exact Drawn0.refl _ | apply Drawn0.step)⟩
 ·rw [if_neg c3] at H
  have c3b0 : ((l0.length : Int) == (l1.length : Int)) = false := beq_eq_false_iff_ne.mpr c3
  have c3b1 : ((l0.length : Int) != (l1.length : Int)) = true := bne_iff_ne.mpr c3
  have c3b2 : (l0.length == l1.length) = false := by first | simpa using c3 | (simp at c3 ⊢; omega)
  obtain rfl := Option.some.inj H
  go_enter Try.func39, Try.ntmps39
  go_wp2
  repeat (go_quiet (fail); try go_wp2)
  go_ret
  exact ⟨by first | rfl | (simp; done) | (simp [*]; done), by repeat (first | exact Drawn0.refl _ | apply Drawn0.step)⟩
/-! ### saltuslaw13_alive: function 55 -/
def saltuslaw13_alive.f (k : Nat)  : Option (Bool) := (journal_Write.f (⟨#[107]⟩ : ByteArray) (⟨#[]⟩ : ByteArray) (([(⟨#[97]⟩ : ByteArray), (⟨#[]⟩ : ByteArray)] : List ByteArray))).bind fun bt115 => ((journal_Scan.f (⟨#[107]⟩ : ByteArray) (⟨#[]⟩ : ByteArray) bt115.1).bind fun bt117 => (if bt115.2 = 0 then (if (bt115.1.size : Int) = 21 then (if bt117.2.1 = 21 then ((saltusref04_Same.f k bt117.1 (([(⟨#[97]⟩ : ByteArray), (⟨#[]⟩ : ByteArray)] : List ByteArray))).bind fun t125 => (some t125)) else (some false)) else (some false)) else (some false)))
theorem saltuslaw13_alive.mono : ∀ k, LeO (saltuslaw13_alive.f k ) (saltuslaw13_alive.f (k + 1) ) := by
 intro  k
 unfold saltuslaw13_alive.f
 repeat' first
   | (with_reducible exact saltusref04_Same.mono _ _ _)
   | (with_reducible exact LeO.refl _)
   | (with_reducible exact LeO.none _)
   | (with_reducible refine LeO.ite ?_ ?_)
   | (with_reducible refine LeO.bind ?_ (fun _ => ?_))
   | exact saltusref04_Same.mono _ _ _
   | exact LeO.none _
   | refine LeO.ite ?_ ?_
   | refine LeO.bind ?_ (fun _ => ?_)
set_option maxHeartbeats 8000000 in
set_option maxRecDepth 100000 in
theorem saltuslaw13_alive.calls (k : Nat)  (r : Bool) (w : World) (h : saltuslaw13_alive.f k  = some r) :
  Calls Try.prog 55 #[] w fun e w' => e = .returned (.bool r) ∧ Below w.heap.size w w' := by
 have HB := Aside0.mk (Below.refl w.heap.size w)
 have H : ((journal_Write.f (⟨#[107]⟩ : ByteArray) (⟨#[]⟩ : ByteArray) (([(⟨#[97]⟩ : ByteArray), (⟨#[]⟩ : ByteArray)] : List ByteArray))).bind fun bt115 => ((journal_Scan.f (⟨#[107]⟩ : ByteArray) (⟨#[]⟩ : ByteArray) bt115.1).bind fun bt117 => (if bt115.2 = 0 then (if (bt115.1.size : Int) = 21 then (if bt117.2.1 = 21 then ((saltusref04_Same.f k bt117.1 (([(⟨#[97]⟩ : ByteArray), (⟨#[]⟩ : ByteArray)] : List ByteArray))).bind fun t125 => (some t125)) else (some false)) else (some false)) else (some false)))) = some r := h
 clear h
 obtain ⟨y112, hy112⟩ : ∃ y_ : List ByteArray, y_ = (([(⟨#[97]⟩ : ByteArray), (⟨#[]⟩ : ByteArray)] : List ByteArray)) := ⟨_, rfl⟩
 replace H : ((journal_Write.f (⟨#[107]⟩ : ByteArray) (⟨#[]⟩ : ByteArray) y112).bind fun bt115 => ((journal_Scan.f (⟨#[107]⟩ : ByteArray) (⟨#[]⟩ : ByteArray) bt115.1).bind fun bt117 => (if bt115.2 = 0 then (if (bt115.1.size : Int) = 21 then (if bt117.2.1 = 21 then ((saltusref04_Same.f k bt117.1 (([(⟨#[97]⟩ : ByteArray), (⟨#[]⟩ : ByteArray)] : List ByteArray))).bind fun t125 => (some t125)) else (some false)) else (some false)) else (some false)))) = some r := by first | (rw [hy112]; with_reducible exact H) | (have H2_ := (Option.bind_some _ _).symm.trans H; rw [hy112]; with_reducible exact H2_) | (have H2_ := (Option.bind_some _ _).symm.trans H; with_reducible exact H2_) | with_reducible exact H | (rw [hy112]; exact H) | exact H
 have Ny112 := Aside0.mk hy112
 clear hy112
 replace H := Option.bind_eq_some_iff.mp H
 obtain ⟨⟨t115, t116⟩, A10, H⟩ := H
 (try dsimp only at H)
 have A1 := Aside0.mk A10
 clear A10
 replace H := Option.bind_eq_some_iff.mp H
 obtain ⟨⟨t117, t118, t119⟩, A20, H⟩ := H
 (try dsimp only at H)
 have A2 := Aside0.mk A20
 clear A20
 by_cases c3 : t116 = 0
 ·rw [if_pos c3] at H
  have c3b0 : (t116 == 0) = true := beq_iff_eq.mpr c3
  have c3b1 : (t116 != 0) = false := bne_eq_false_iff_eq.mpr c3
  clear c3
  by_cases c4 : (t115.size : Int) = 21
  ·rw [if_pos c4] at H
   have c4b0 : ((t115.size : Int) == 21) = true := beq_iff_eq.mpr c4
   have c4b1 : ((t115.size : Int) != 21) = false := bne_eq_false_iff_eq.mpr c4
   clear c4
   by_cases c5 : t118 = 21
   ·rw [if_pos c5] at H
    have c5b0 : (t118 == 21) = true := beq_iff_eq.mpr c5
    have c5b1 : (t118 != 21) = false := bne_eq_false_iff_eq.mpr c5
    clear c5
    obtain ⟨y122, hy122⟩ : ∃ y_ : List ByteArray, y_ = (([(⟨#[97]⟩ : ByteArray), (⟨#[]⟩ : ByteArray)] : List ByteArray)) := ⟨_, rfl⟩
    replace H : ((saltusref04_Same.f k t117 y122).bind fun t125 => (some t125)) = some r := by first | (rw [hy122]; with_reducible exact H) | (have H2_ := (Option.bind_some _ _).symm.trans H; rw [hy122]; with_reducible exact H2_) | (have H2_ := (Option.bind_some _ _).symm.trans H; with_reducible exact H2_) | with_reducible exact H | (rw [hy122]; exact H) | exact H
    have Ny122 := Aside0.mk hy122
    clear hy122
    replace H := Option.bind_eq_some_iff.mp H
    obtain ⟨t125, A60, H⟩ := H
    (try dsimp only at H)
    have A6 := Aside0.mk A60
    clear A60
    obtain rfl := Option.some.inj H
    go_enter Try.func55, Try.ntmps55
    go_wp2_with (first | ((with_reducible refine gate_dst (N := 7) rfl ?_); (try (refine gate_guard (by rfl) ?_; dsimp only)); refine Kd.R_lit Kd.string _ 9 ?hg (N := 7) ?hd (xs := ([(⟨#[97]⟩ : ByteArray), (⟨#[]⟩ : ByteArray)] : List ByteArray)) (inner := [.string (⟨#[97]⟩ : ByteArray), .string (⟨#[]⟩ : ByteArray)]) (ok := fun _ => True) (okp := fun _ => True) ?hr ?hp (fun _ hk => hk) trivial (Below.refl _ _) (Nat.le_refl _) (by simp) ?_; (case hd => rfl); (case hg => rfl); (case hr => first | (go_simp; done) | (go_simp; rfl)); (case hp => exact (Reps.one (show Kd.M Kd.string _ _ _ (⟨#[97]⟩ : ByteArray) [.string (⟨#[97]⟩ : ByteArray)] from rfl) (Reps.one (show Kd.M Kd.string _ _ _ (⟨#[]⟩ : ByteArray) [.string (⟨#[]⟩ : ByteArray)] from rfl) (Reps.none _ _)))); intro v113 w7 ho8 hb hg_ hnew_; clear hg_ hnew_; (first | rw [← Ny112.out] at ho8 | (simp only [Int.reduceToNat] at ho8; rw [← Ny112.out] at ho8)); have n0_ := Aside0.mk (Kd.R_lower ho8 (below_size (by repeat (first | (with_reducible first | exact HB.out | apply below_alloc | apply pw_below_drewN | apply below_drew1) | exact HB.out)))); have n1_ := Aside0.mk (below_step (by repeat (first | (with_reducible first | exact HB.out | apply below_alloc | apply pw_below_drewN | apply below_drew1) | exact HB.out)) hb); clear HB; have HO114 := n0_; have HB := n1_; clear n0_ n1_; clear hb ho8; obtain ⟨Ao9, co9, eo9⟩ := Kd.R_slice HO114.out; subst eo9) | ((with_reducible refine gate_callee (f := 53) rfl ?_); refine goesL_ (some 8) rfl rfl Try.func53 (by kernel_rfl) rfl #[.string (⟨#[107]⟩ : ByteArray), .string (⟨#[]⟩ : ByteArray), .slice Ao9 y112.length co9] rfl (by (try simp only [List.map_toArray, List.map_cons, List.map_nil]); first | done | rfl | (simp only [List.length_drop, List.length_take]; rfl)) ?_; (with_reducible refine (journal_Write.calls (⟨#[107]⟩ : ByteArray) (⟨#[]⟩ : ByteArray) _ _ y112 t115 t116 _ ?side1 ?side2 A1.out).mono ?_); (case side1 => repeat (first | exact (Kd.R_reads' HO114.out).2.2 | (with_reducible refine Kd.C_alloc ?_ _) | (with_reducible refine Kd.C_drewN ?_ _) | (with_reducible refine Kd.C_drew ?_))); (case side2 => exact (Kd.R_reads' HO114.out).2.1); rintro e w10 ⟨rfl, hb⟩; refine ⟨_, rfl, ?_⟩; have n0_ := Aside0.mk (Kd.R_below (by (with_reducible repeat (first | apply Kd.R_alloc | apply Kd.R_drewN | apply Kd.R_drew)); exact HO114.out) hb); have n1_ := Aside0.mk (below_step (by repeat (first | (with_reducible first | exact HB.out | apply below_alloc | apply pw_below_drewN | apply below_drew1) | exact HB.out)) hb); clear HO114; clear HB; have HO114 := n0_; have HB := n1_; clear n0_ n1_; (try clear hb); (try clear hb2); (try clear hk); (try clear hi)) | ((with_reducible refine gate_callee (f := 61) rfl ?_); refine goesL_ (some 13) rfl rfl Try.func61 (by kernel_rfl) rfl #[.string (⟨#[107]⟩ : ByteArray), .string (⟨#[]⟩ : ByteArray), .string t115] rfl (by (try simp only [List.map_toArray, List.map_cons, List.map_nil]); first | done | rfl | (simp only [List.length_drop, List.length_take]; rfl)) ?_; (with_reducible refine (journal_Scan.calls (⟨#[107]⟩ : ByteArray) (⟨#[]⟩ : ByteArray) t115 t117 t118 t119 _ A2.out).mono ?_); rintro e w11 ⟨v120, rfl, ho0, hb⟩; refine ⟨_, rfl, ?_⟩; have n0_ := Aside0.mk (Kd.R_elder' (by (with_reducible repeat (first | apply Kd.R_alloc | apply Kd.R_drewN | apply Kd.R_drew)); exact HO114.out) (Kd.R_base ho0) hb); have n1_ := Aside0.mk (Kd.R_lower (Kd.R_new' ho0 (Kd.R_lt (by (with_reducible repeat (first | apply Kd.R_alloc | apply Kd.R_drewN | apply Kd.R_drew)); exact HO114.out))) (below_size (by repeat (first | (with_reducible first | exact HB.out | apply below_alloc | apply pw_below_drewN | apply below_drew1) | exact HB.out)))); have n2_ := Aside0.mk (below_step (by repeat (first | (with_reducible first | exact HB.out | apply below_alloc | apply pw_below_drewN | apply below_drew1) | exact HB.out)) hb); clear HO114; clear HB; have HO114 := n0_; have HO121 := n1_; have HB := n2_; clear n0_ n1_ n2_; (try clear hb); (try clear hb2); (try clear hk); (try clear hi); (try clear ho0)) | ((with_reducible refine gate_dst (N := 30) rfl ?_); (try (refine gate_guard (by rfl) ?_; dsimp only)); refine Kd.R_lit Kd.string _ 9 ?hg (N := 30) ?hd (xs := ([(⟨#[97]⟩ : ByteArray), (⟨#[]⟩ : ByteArray)] : List ByteArray)) (inner := [.string (⟨#[97]⟩ : ByteArray), .string (⟨#[]⟩ : ByteArray)]) (ok := fun _ => True) (okp := fun _ => True) ?hr ?hp (fun _ hk => hk) trivial (Below.refl _ _) (Nat.le_refl _) (by simp) ?_; (case hd => rfl); (case hg => rfl); (case hr => first | (go_simp; done) | (go_simp; rfl)); (case hp => exact (Reps.one (show Kd.M Kd.string _ _ _ (⟨#[97]⟩ : ByteArray) [.string (⟨#[97]⟩ : ByteArray)] from rfl) (Reps.one (show Kd.M Kd.string _ _ _ (⟨#[]⟩ : ByteArray) [.string (⟨#[]⟩ : ByteArray)] from rfl) (Reps.none _ _)))); intro v123 w12 ho13 hb hg_ hnew_; clear hg_ hnew_; (first | rw [← Ny122.out] at ho13 | (simp only [Int.reduceToNat] at ho13; rw [← Ny122.out] at ho13)); have n0_ := Aside0.mk (Kd.R_elder' (by (with_reducible repeat (first | apply Kd.R_alloc | apply Kd.R_drewN | apply Kd.R_drew)); exact HO114.out) (Kd.R_base ho13) hb); have n1_ := Aside0.mk (Kd.R_elder' (by (with_reducible repeat (first | apply Kd.R_alloc | apply Kd.R_drewN | apply Kd.R_drew)); exact HO121.out) (Kd.R_base ho13) hb); have n2_ := Aside0.mk (Kd.R_lower (Kd.R_new' (Kd.R_new' ho13 (Kd.R_lt (by (with_reducible repeat (first | apply Kd.R_alloc | apply Kd.R_drewN | apply Kd.R_drew)); exact HO114.out))) (Kd.R_lt (by (with_reducible repeat (first | apply Kd.R_alloc | apply Kd.R_drewN | apply Kd.R_drew)); exact HO121.out))) (below_size (by repeat (first | (with_reducible first | exact HB.out | apply below_alloc | apply pw_below_drewN | apply below_drew1) | exact HB.out)))); have n3_ := Aside0.mk (below_step (by repeat (first | (with_reducible first | exact HB.out | apply below_alloc | apply pw_below_drewN | apply below_drew1) | exact HB.out)) hb); clear HO114; clear HO121; clear HB; have HO114 := n0_; have HO121 := n1_; have HO124 := n2_; have HB := n3_; clear n0_ n1_ n2_ n3_; clear hb ho13; obtain ⟨Ao14, co14, eo14⟩ := Kd.R_slice HO121.out; subst eo14; obtain ⟨Ao15, co15, eo15⟩ := Kd.R_slice HO124.out; subst eo15) | (go_at_call 39; (with_reducible refine (saltusref04_Same.calls k _ _ t117 _ _ y122 t125 _ ?side1 ?side2 ?side3 ?side4 A6.out).mono ?_); (case side1 => repeat (first | exact (Kd.R_reads' HO121.out).2.2 | (with_reducible refine Kd.C_alloc ?_ _) | (with_reducible refine Kd.C_drewN ?_ _) | (with_reducible refine Kd.C_drew ?_))); (case side2 => exact (Kd.R_reads' HO121.out).2.1); (case side3 => repeat (first | exact (Kd.R_reads' HO124.out).2.2 | (with_reducible refine Kd.C_alloc ?_ _) | (with_reducible refine Kd.C_drewN ?_ _) | (with_reducible refine Kd.C_drew ?_))); (case side4 => exact (Kd.R_reads' HO124.out).2.1); rintro e w' ⟨rfl, ⟨nd, rfl⟩⟩))
    go_ret
    exact ⟨by first | rfl | (simp [errW_none, errW_some] <;> rfl) | (simp [*, errW_none, errW_some] <;> rfl), by repeat (first | (with_reducible first | exact HB.out | apply below_alloc | apply pw_below_drewN | apply below_drew1) | exact HB.out)⟩
   ·rw [if_neg c5] at H
    have c5b0 : (t118 == 21) = false := beq_eq_false_iff_ne.mpr c5
    have c5b1 : (t118 != 21) = true := bne_iff_ne.mpr c5
    obtain rfl := Option.some.inj H
    go_enter Try.func55, Try.ntmps55
    go_wp2_with (first | ((with_reducible refine gate_dst (N := 7) rfl ?_); (try (refine gate_guard (by rfl) ?_; dsimp only)); refine Kd.R_lit Kd.string _ 9 ?hg (N := 7) ?hd (xs := ([(⟨#[97]⟩ : ByteArray), (⟨#[]⟩ : ByteArray)] : List ByteArray)) (inner := [.string (⟨#[97]⟩ : ByteArray), .string (⟨#[]⟩ : ByteArray)]) (ok := fun _ => True) (okp := fun _ => True) ?hr ?hp (fun _ hk => hk) trivial (Below.refl _ _) (Nat.le_refl _) (by simp) ?_; (case hd => rfl); (case hg => rfl); (case hr => first | (go_simp; done) | (go_simp; rfl)); (case hp => exact (Reps.one (show Kd.M Kd.string _ _ _ (⟨#[97]⟩ : ByteArray) [.string (⟨#[97]⟩ : ByteArray)] from rfl) (Reps.one (show Kd.M Kd.string _ _ _ (⟨#[]⟩ : ByteArray) [.string (⟨#[]⟩ : ByteArray)] from rfl) (Reps.none _ _)))); intro v113 w16 ho17 hb hg_ hnew_; clear hg_ hnew_; (first | rw [← Ny112.out] at ho17 | (simp only [Int.reduceToNat] at ho17; rw [← Ny112.out] at ho17)); have n0_ := Aside0.mk (Kd.R_lower ho17 (below_size (by repeat (first | (with_reducible first | exact HB.out | apply below_alloc | apply pw_below_drewN | apply below_drew1) | exact HB.out)))); have n1_ := Aside0.mk (below_step (by repeat (first | (with_reducible first | exact HB.out | apply below_alloc | apply pw_below_drewN | apply below_drew1) | exact HB.out)) hb); clear HB; have HO114 := n0_; have HB := n1_; clear n0_ n1_; clear hb ho17; obtain ⟨Ao18, co18, eo18⟩ := Kd.R_slice HO114.out; subst eo18) | ((with_reducible refine gate_callee (f := 53) rfl ?_); refine goesL_ (some 8) rfl rfl Try.func53 (by kernel_rfl) rfl #[.string (⟨#[107]⟩ : ByteArray), .string (⟨#[]⟩ : ByteArray), .slice Ao18 y112.length co18] rfl (by (try simp only [List.map_toArray, List.map_cons, List.map_nil]); first | done | rfl | (simp only [List.length_drop, List.length_take]; rfl)) ?_; (with_reducible refine (journal_Write.calls (⟨#[107]⟩ : ByteArray) (⟨#[]⟩ : ByteArray) _ _ y112 t115 t116 _ ?side1 ?side2 A1.out).mono ?_); (case side1 => repeat (first | exact (Kd.R_reads' HO114.out).2.2 | (with_reducible refine Kd.C_alloc ?_ _) | (with_reducible refine Kd.C_drewN ?_ _) | (with_reducible refine Kd.C_drew ?_))); (case side2 => exact (Kd.R_reads' HO114.out).2.1); rintro e w19 ⟨rfl, hb⟩; refine ⟨_, rfl, ?_⟩; have n0_ := Aside0.mk (Kd.R_below (by (with_reducible repeat (first | apply Kd.R_alloc | apply Kd.R_drewN | apply Kd.R_drew)); exact HO114.out) hb); have n1_ := Aside0.mk (below_step (by repeat (first | (with_reducible first | exact HB.out | apply below_alloc | apply pw_below_drewN | apply below_drew1) | exact HB.out)) hb); clear HO114; clear HB; have HO114 := n0_; have HB := n1_; clear n0_ n1_; (try clear hb); (try clear hb2); (try clear hk); (try clear hi)) | ((with_reducible refine gate_callee (f := 61) rfl ?_); refine goesL_ (some 13) rfl rfl Try.func61 (by kernel_rfl) rfl #[.string (⟨#[107]⟩ : ByteArray), .string (⟨#[]⟩ : ByteArray), .string t115] rfl (by (try simp only [List.map_toArray, List.map_cons, List.map_nil]); first | done | rfl | (simp only [List.length_drop, List.length_take]; rfl)) ?_; (with_reducible refine (journal_Scan.calls (⟨#[107]⟩ : ByteArray) (⟨#[]⟩ : ByteArray) t115 t117 t118 t119 _ A2.out).mono ?_); rintro e w20 ⟨v120, rfl, ho0, hb⟩; refine ⟨_, rfl, ?_⟩; have n0_ := Aside0.mk (Kd.R_elder' (by (with_reducible repeat (first | apply Kd.R_alloc | apply Kd.R_drewN | apply Kd.R_drew)); exact HO114.out) (Kd.R_base ho0) hb); have n1_ := Aside0.mk (Kd.R_lower (Kd.R_new' ho0 (Kd.R_lt (by (with_reducible repeat (first | apply Kd.R_alloc | apply Kd.R_drewN | apply Kd.R_drew)); exact HO114.out))) (below_size (by repeat (first | (with_reducible first | exact HB.out | apply below_alloc | apply pw_below_drewN | apply below_drew1) | exact HB.out)))); have n2_ := Aside0.mk (below_step (by repeat (first | (with_reducible first | exact HB.out | apply below_alloc | apply pw_below_drewN | apply below_drew1) | exact HB.out)) hb); clear HO114; clear HB; have HO114 := n0_; have HO121 := n1_; have HB := n2_; clear n0_ n1_ n2_; (try clear hb); (try clear hb2); (try clear hk); (try clear hi); (try clear ho0)))
    go_ret
    exact ⟨by first | rfl | (simp [errW_none, errW_some] <;> rfl) | (simp [*, errW_none, errW_some] <;> rfl), by repeat (first | (with_reducible first | exact HB.out | apply below_alloc | apply pw_below_drewN | apply below_drew1) | exact HB.out)⟩
  ·rw [if_neg c4] at H
   have c4b0 : ((t115.size : Int) == 21) = false := beq_eq_false_iff_ne.mpr c4
   have c4b1 : ((t115.size : Int) != 21) = true := bne_iff_ne.mpr c4
   obtain rfl := Option.some.inj H
   go_enter Try.func55, Try.ntmps55
   go_wp2_with (first | ((with_reducible refine gate_dst (N := 7) rfl ?_); (try (refine gate_guard (by rfl) ?_; dsimp only)); refine Kd.R_lit Kd.string _ 9 ?hg (N := 7) ?hd (xs := ([(⟨#[97]⟩ : ByteArray), (⟨#[]⟩ : ByteArray)] : List ByteArray)) (inner := [.string (⟨#[97]⟩ : ByteArray), .string (⟨#[]⟩ : ByteArray)]) (ok := fun _ => True) (okp := fun _ => True) ?hr ?hp (fun _ hk => hk) trivial (Below.refl _ _) (Nat.le_refl _) (by simp) ?_; (case hd => rfl); (case hg => rfl); (case hr => first | (go_simp; done) | (go_simp; rfl)); (case hp => exact (Reps.one (show Kd.M Kd.string _ _ _ (⟨#[97]⟩ : ByteArray) [.string (⟨#[97]⟩ : ByteArray)] from rfl) (Reps.one (show Kd.M Kd.string _ _ _ (⟨#[]⟩ : ByteArray) [.string (⟨#[]⟩ : ByteArray)] from rfl) (Reps.none _ _)))); intro v113 w21 ho22 hb hg_ hnew_; clear hg_ hnew_; (first | rw [← Ny112.out] at ho22 | (simp only [Int.reduceToNat] at ho22; rw [← Ny112.out] at ho22)); have n0_ := Aside0.mk (Kd.R_lower ho22 (below_size (by repeat (first | (with_reducible first | exact HB.out | apply below_alloc | apply pw_below_drewN | apply below_drew1) | exact HB.out)))); have n1_ := Aside0.mk (below_step (by repeat (first | (with_reducible first | exact HB.out | apply below_alloc | apply pw_below_drewN | apply below_drew1) | exact HB.out)) hb); clear HB; have HO114 := n0_; have HB := n1_; clear n0_ n1_; clear hb ho22; obtain ⟨Ao23, co23, eo23⟩ := Kd.R_slice HO114.out; subst eo23) | ((with_reducible refine gate_callee (f := 53) rfl ?_); refine goesL_ (some 8) rfl rfl Try.func53 (by kernel_rfl) rfl #[.string (⟨#[107]⟩ : ByteArray), .string (⟨#[]⟩ : ByteArray), .slice Ao23 y112.length co23] rfl (by (try simp only [List.map_toArray, List.map_cons, List.map_nil]); first | done | rfl | (simp only [List.length_drop, List.length_take]; rfl)) ?_; (with_reducible refine (journal_Write.calls (⟨#[107]⟩ : ByteArray) (⟨#[]⟩ : ByteArray) _ _ y112 t115 t116 _ ?side1 ?side2 A1.out).mono ?_); (case side1 => repeat (first | exact (Kd.R_reads' HO114.out).2.2 | (with_reducible refine Kd.C_alloc ?_ _) | (with_reducible refine Kd.C_drewN ?_ _) | (with_reducible refine Kd.C_drew ?_))); (case side2 => exact (Kd.R_reads' HO114.out).2.1); rintro e w24 ⟨rfl, hb⟩; refine ⟨_, rfl, ?_⟩; have n0_ := Aside0.mk (Kd.R_below (by (with_reducible repeat (first | apply Kd.R_alloc | apply Kd.R_drewN | apply Kd.R_drew)); exact HO114.out) hb); have n1_ := Aside0.mk (below_step (by repeat (first | (with_reducible first | exact HB.out | apply below_alloc | apply pw_below_drewN | apply below_drew1) | exact HB.out)) hb); clear HO114; clear HB; have HO114 := n0_; have HB := n1_; clear n0_ n1_; (try clear hb); (try clear hb2); (try clear hk); (try clear hi)) | ((with_reducible refine gate_callee (f := 61) rfl ?_); refine goesL_ (some 13) rfl rfl Try.func61 (by kernel_rfl) rfl #[.string (⟨#[107]⟩ : ByteArray), .string (⟨#[]⟩ : ByteArray), .string t115] rfl (by (try simp only [List.map_toArray, List.map_cons, List.map_nil]); first | done | rfl | (simp only [List.length_drop, List.length_take]; rfl)) ?_; (with_reducible refine (journal_Scan.calls (⟨#[107]⟩ : ByteArray) (⟨#[]⟩ : ByteArray) t115 t117 t118 t119 _ A2.out).mono ?_); rintro e w25 ⟨v120, rfl, ho0, hb⟩; refine ⟨_, rfl, ?_⟩; have n0_ := Aside0.mk (Kd.R_elder' (by (with_reducible repeat (first | apply Kd.R_alloc | apply Kd.R_drewN | apply Kd.R_drew)); exact HO114.out) (Kd.R_base ho0) hb); have n1_ := Aside0.mk (Kd.R_lower (Kd.R_new' ho0 (Kd.R_lt (by (with_reducible repeat (first | apply Kd.R_alloc | apply Kd.R_drewN | apply Kd.R_drew)); exact HO114.out))) (below_size (by repeat (first | (with_reducible first | exact HB.out | apply below_alloc | apply pw_below_drewN | apply below_drew1) | exact HB.out)))); have n2_ := Aside0.mk (below_step (by repeat (first | (with_reducible first | exact HB.out | apply below_alloc | apply pw_below_drewN | apply below_drew1) | exact HB.out)) hb); clear HO114; clear HB; have HO114 := n0_; have HO121 := n1_; have HB := n2_; clear n0_ n1_ n2_; (try clear hb); (try clear hb2); (try clear hk); (try clear hi); (try clear ho0)))
   go_ret
   exact ⟨by first | rfl | (simp [errW_none, errW_some] <;> rfl) | (simp [*, errW_none, errW_some] <;> rfl), by repeat (first | (with_reducible first | exact HB.out | apply below_alloc | apply pw_below_drewN | apply below_drew1) | exact HB.out)⟩
 ·rw [if_neg c3] at H
  have c3b0 : (t116 == 0) = false := beq_eq_false_iff_ne.mpr c3
  have c3b1 : (t116 != 0) = true := bne_iff_ne.mpr c3
  obtain rfl := Option.some.inj H
  go_enter Try.func55, Try.ntmps55
  go_wp2_with (first | ((with_reducible refine gate_dst (N := 7) rfl ?_); (try (refine gate_guard (by rfl) ?_; dsimp only)); refine Kd.R_lit Kd.string _ 9 ?hg (N := 7) ?hd (xs := ([(⟨#[97]⟩ : ByteArray), (⟨#[]⟩ : ByteArray)] : List ByteArray)) (inner := [.string (⟨#[97]⟩ : ByteArray), .string (⟨#[]⟩ : ByteArray)]) (ok := fun _ => True) (okp := fun _ => True) ?hr ?hp (fun _ hk => hk) trivial (Below.refl _ _) (Nat.le_refl _) (by simp) ?_; (case hd => rfl); (case hg => rfl); (case hr => first | (go_simp; done) | (go_simp; rfl)); (case hp => exact (Reps.one (show Kd.M Kd.string _ _ _ (⟨#[97]⟩ : ByteArray) [.string (⟨#[97]⟩ : ByteArray)] from rfl) (Reps.one (show Kd.M Kd.string _ _ _ (⟨#[]⟩ : ByteArray) [.string (⟨#[]⟩ : ByteArray)] from rfl) (Reps.none _ _)))); intro v113 w26 ho27 hb hg_ hnew_; clear hg_ hnew_; (first | rw [← Ny112.out] at ho27 | (simp only [Int.reduceToNat] at ho27; rw [← Ny112.out] at ho27)); have n0_ := Aside0.mk (Kd.R_lower ho27 (below_size (by repeat (first | (with_reducible first | exact HB.out | apply below_alloc | apply pw_below_drewN | apply below_drew1) | exact HB.out)))); have n1_ := Aside0.mk (below_step (by repeat (first | (with_reducible first | exact HB.out | apply below_alloc | apply pw_below_drewN | apply below_drew1) | exact HB.out)) hb); clear HB; have HO114 := n0_; have HB := n1_; clear n0_ n1_; clear hb ho27; obtain ⟨Ao28, co28, eo28⟩ := Kd.R_slice HO114.out; subst eo28) | ((with_reducible refine gate_callee (f := 53) rfl ?_); refine goesL_ (some 8) rfl rfl Try.func53 (by kernel_rfl) rfl #[.string (⟨#[107]⟩ : ByteArray), .string (⟨#[]⟩ : ByteArray), .slice Ao28 y112.length co28] rfl (by (try simp only [List.map_toArray, List.map_cons, List.map_nil]); first | done | rfl | (simp only [List.length_drop, List.length_take]; rfl)) ?_; (with_reducible refine (journal_Write.calls (⟨#[107]⟩ : ByteArray) (⟨#[]⟩ : ByteArray) _ _ y112 t115 t116 _ ?side1 ?side2 A1.out).mono ?_); (case side1 => repeat (first | exact (Kd.R_reads' HO114.out).2.2 | (with_reducible refine Kd.C_alloc ?_ _) | (with_reducible refine Kd.C_drewN ?_ _) | (with_reducible refine Kd.C_drew ?_))); (case side2 => exact (Kd.R_reads' HO114.out).2.1); rintro e w29 ⟨rfl, hb⟩; refine ⟨_, rfl, ?_⟩; have n0_ := Aside0.mk (Kd.R_below (by (with_reducible repeat (first | apply Kd.R_alloc | apply Kd.R_drewN | apply Kd.R_drew)); exact HO114.out) hb); have n1_ := Aside0.mk (below_step (by repeat (first | (with_reducible first | exact HB.out | apply below_alloc | apply pw_below_drewN | apply below_drew1) | exact HB.out)) hb); clear HO114; clear HB; have HO114 := n0_; have HB := n1_; clear n0_ n1_; (try clear hb); (try clear hb2); (try clear hk); (try clear hi)) | ((with_reducible refine gate_callee (f := 61) rfl ?_); refine goesL_ (some 13) rfl rfl Try.func61 (by kernel_rfl) rfl #[.string (⟨#[107]⟩ : ByteArray), .string (⟨#[]⟩ : ByteArray), .string t115] rfl (by (try simp only [List.map_toArray, List.map_cons, List.map_nil]); first | done | rfl | (simp only [List.length_drop, List.length_take]; rfl)) ?_; (with_reducible refine (journal_Scan.calls (⟨#[107]⟩ : ByteArray) (⟨#[]⟩ : ByteArray) t115 t117 t118 t119 _ A2.out).mono ?_); rintro e w30 ⟨v120, rfl, ho0, hb⟩; refine ⟨_, rfl, ?_⟩; have n0_ := Aside0.mk (Kd.R_elder' (by (with_reducible repeat (first | apply Kd.R_alloc | apply Kd.R_drewN | apply Kd.R_drew)); exact HO114.out) (Kd.R_base ho0) hb); have n1_ := Aside0.mk (Kd.R_lower (Kd.R_new' ho0 (Kd.R_lt (by (with_reducible repeat (first | apply Kd.R_alloc | apply Kd.R_drewN | apply Kd.R_drew)); exact HO114.out))) (below_size (by repeat (first | (with_reducible first | exact HB.out | apply below_alloc | apply pw_below_drewN | apply below_drew1) | exact HB.out)))); have n2_ := Aside0.mk (below_step (by repeat (first | (with_reducible first | exact HB.out | apply below_alloc | apply pw_below_drewN | apply below_drew1) | exact HB.out)) hb); clear HO114; clear HB; have HO114 := n0_; have HO121 := n1_; have HB := n2_; clear n0_ n1_ n2_; (try clear hb); (try clear hb2); (try clear hk); (try clear hi); (try clear ho0)))
  go_ret
  exact ⟨by first | rfl | (simp [errW_none, errW_some] <;> rfl) | (simp [*, errW_none, errW_some] <;> rfl), by repeat (first | (with_reducible first | exact HB.out | apply below_alloc | apply pw_below_drewN | apply below_drew1) | exact HB.out)⟩
/-! ### saltusref13_text: function 92 -/
/-! ### saltusref13_Next: function 58 -/
/-! ### saltusref13_Record: function 57 -/
/-! ### saltusref13_Long: function 59 -/
/-! ### saltusref13_Write: function 60 -/
end Go.Proofs.Ytolbhliepkcihaa.QJN
end
section
namespace Go.Proofs.Ytolbhliepkcihaa.QJN
open Go.RowKit Go.Proofs.YtolbhliepkcihaaW.PrintWords Go.Proofs.YtolbhliepkcihaaW.PrintLast Go.Proofs.YtolbhliepkcihaaW.PrintMore
attribute [local go_sem] max2_int min2_int max_two min_two max_three min_three max_four min_four   -- for this text's walks alone
set_option linter.unusedVariables false
set_option linter.unusedSimpArgs false
/-! ### saltusref13_one: function 95 -/
end Go.Proofs.Ytolbhliepkcihaa.QJN
end
section
namespace Go.Proofs.Ytolbhliepkcihaa.QJN
open Go.RowKit Go.Proofs.YtolbhliepkcihaaW.PrintWords Go.Proofs.YtolbhliepkcihaaW.PrintLast Go.Proofs.YtolbhliepkcihaaW.PrintMore
attribute [local go_sem] max2_int min2_int max_two min_two max_three min_three max_four min_four   -- for this text's walks alone
set_option linter.unusedVariables false
set_option linter.unusedSimpArgs false
/-! ### saltusref13_Scan: function 62 -/
/-! ### saltuslaw13_JournalScans: function 15 -/
/-! ### stringslite_HasPrefix: function 73 -/
def stringslite_HasPrefix.f (a0 : ByteArray) (a1 : ByteArray) : Option (Bool) := if (a0.size : Int) ≥ (a1.size : Int) then (if 0 ≤ (a1.size : Int) then (if (a1.size : Int) ≤ (a0.size : Int) then (some ((a0.extract 0 ((a1.size : Int) : Int).toNat).toList == a1.toList)) else (none)) else (none)) else (some false)
set_option maxHeartbeats 8000000 in
set_option maxRecDepth 100000 in
theorem stringslite_HasPrefix.calls (a0 : ByteArray) (a1 : ByteArray) (r : Bool) (w : World) (h : stringslite_HasPrefix.f a0 a1 = some r) :
  Calls Try.prog 73 #[.string a0, .string a1] w fun e w' => e = .returned (.bool r) ∧ Drawn0 w w' := by
 have H : (if (a0.size : Int) ≥ (a1.size : Int) then (if 0 ≤ (a1.size : Int) then (if (a1.size : Int) ≤ (a0.size : Int) then (some ((a0.extract 0 ((a1.size : Int) : Int).toNat).toList == a1.toList)) else (none)) else (none)) else (some false)) = some r := h
 clear h
 by_cases c3 : (a0.size : Int) ≥ (a1.size : Int)
 ·rw [if_pos c3] at H
  have c3b0 : decide ((a1.size : Int) ≤ (a0.size : Int)) = true := decide_eq_true c3
  have c3b1 : decide (a1.size ≤ a0.size) = true := decide_eq_true (Int.ofNat_le.mp c3)
  clear c3
  by_cases c4 : 0 ≤ (a1.size : Int)
  ·rw [if_pos c4] at H
   have c4b0 := eq_true c4
   have c4b1 : decide (0 ≤ (a1.size : Int)) = true := decide_eq_true c4
   clear c4
   by_cases c5 : (a1.size : Int) ≤ (a0.size : Int)
   ·rw [if_pos c5] at H
    have c5b0 := eq_true c5
    have c5b1 : decide ((a1.size : Int) ≤ (a0.size : Int)) = true := decide_eq_true c5
    clear c5
    obtain rfl := Option.some.inj H
    go_enter Try.func73, Try.ntmps73
    go_wp2
    go_ret
    exact ⟨by first | rfl | (simp; done) | (simp [*]; done), by repeat (first | exact Drawn0.refl _ | apply Drawn0.step)⟩
   ·rw [if_neg c5] at H
    exact absurd H (by simp)
  ·rw [if_neg c4] at H
   exact absurd H (by simp)
 ·rw [if_neg c3] at H
  have c3b0 : decide ((a1.size : Int) ≤ (a0.size : Int)) = false := decide_eq_false c3
  have c3b1 : decide (a1.size ≤ a0.size) = false := decide_eq_false (fun h => c3 (Int.ofNat_le.mpr h))
  clear c3
  obtain rfl := Option.some.inj H
  go_enter Try.func73, Try.ntmps73
  go_wp2
  go_ret
  exact ⟨by first | rfl | (simp; done) | (simp [*]; done), by repeat (first | exact Drawn0.refl _ | apply Drawn0.step)⟩
/-! ### strings_HasPrefix: function 28 -/
def strings_HasPrefix.f (a0 : ByteArray) (a1 : ByteArray) : Option (Bool) := (stringslite_HasPrefix.f a0 a1).bind fun t183 => (some t183)
set_option maxHeartbeats 8000000 in
set_option maxRecDepth 100000 in
theorem strings_HasPrefix.calls (a0 : ByteArray) (a1 : ByteArray) (r : Bool) (w : World) (h : strings_HasPrefix.f a0 a1 = some r) :
  Calls Try.prog 28 #[.string a0, .string a1] w fun e w' => e = .returned (.bool r) ∧ Drawn0 w w' := by
 have H : ((stringslite_HasPrefix.f a0 a1).bind fun t183 => (some t183)) = some r := h
 clear h
 replace H := Option.bind_eq_some_iff.mp H
 obtain ⟨t183, A30, H⟩ := H
 (try dsimp only at H)
 have A3 := Aside0.mk A30
 clear A30
 obtain rfl := Option.some.inj H
 go_enter Try.func28, Try.ntmps28
 go_wp2_with (first | ((with_reducible refine gate_callee (f := 73) rfl ?_); refine goesL_ (some 7) rfl rfl Try.func73 (by kernel_rfl) rfl #[.string a0, .string a1] rfl (by (try simp only [List.map_toArray, List.map_cons, List.map_nil]); first | done | rfl | (simp only [List.length_drop, List.length_take]; rfl)) ?_; (with_reducible refine (stringslite_HasPrefix.calls a0 a1 t183 _ A3.out).mono ?_); rintro e w' ⟨rfl, ⟨nd, rfl⟩⟩; refine ⟨_, rfl, ?_⟩))
 go_ret
 exact ⟨by first | rfl | (simp; done) | (simp [*]; done), by repeat (first | exact Drawn0.refl _ | apply Drawn0.step)⟩
/-! ### saltuslaw13_longer: function 63 -/
def saltuslaw13_longer.f (a0 : ByteArray) (a1 : ByteArray) (a2 : ByteArray) (a3 : Int) : Option (Bool) := (journal_Scan.f a0 a1 a2).bind fun bt184 => (if (bt184.1.length : Int) = a3 then (if bt184.2.1 = (a2.size : Int) then (if 0 ≤ (wrap64 (a3 - 1)) then (if (wrap64 (a3 - 1)) < (bt184.1.length : Int) then (some ((rdOf ByteArray.empty bt184.1 (wrap64 (a3 - 1))).toList == ([109, 111, 114, 101] : List UInt8))) else (none)) else (none)) else (some false)) else (some false))
set_option maxHeartbeats 8000000 in
set_option maxRecDepth 100000 in
theorem saltuslaw13_longer.calls (a0 : ByteArray) (a1 : ByteArray) (a2 : ByteArray) (a3 : Int) (r : Bool) (w : World) (h : saltuslaw13_longer.f a0 a1 a2 a3 = some r) :
  Calls Try.prog 63 #[.string a0, .string a1, .string a2, .int .i64 a3] w fun e w' => e = .returned (.bool r) ∧ Below w.heap.size w w' := by
 have HB := Aside0.mk (Below.refl w.heap.size w)
 have H : ((journal_Scan.f a0 a1 a2).bind fun bt184 => (if (bt184.1.length : Int) = a3 then (if bt184.2.1 = (a2.size : Int) then (if 0 ≤ (wrap64 (a3 - 1)) then (if (wrap64 (a3 - 1)) < (bt184.1.length : Int) then (some ((rdOf ByteArray.empty bt184.1 (wrap64 (a3 - 1))).toList == ([109, 111, 114, 101] : List UInt8))) else (none)) else (none)) else (some false)) else (some false))) = some r := h
 clear h
 replace H := Option.bind_eq_some_iff.mp H
 obtain ⟨⟨t184, t185, t186⟩, A50, H⟩ := H
 (try dsimp only at H)
 have A5 := Aside0.mk A50
 clear A50
 by_cases c6 : (t184.length : Int) = a3
 ·rw [if_pos c6] at H
  have c6b0 : ((t184.length : Int) == a3) = true := beq_iff_eq.mpr c6
  have c6b1 : ((t184.length : Int) != a3) = false := bne_eq_false_iff_eq.mpr c6
  clear c6
  by_cases c7 : t185 = (a2.size : Int)
  ·rw [if_pos c7] at H
   have c7b0 : (t185 == (a2.size : Int)) = true := beq_iff_eq.mpr c7
   have c7b1 : (t185 != (a2.size : Int)) = false := bne_eq_false_iff_eq.mpr c7
   clear c7
   obtain ⟨ji8, hji8⟩ : ∃ j_ : Int, (wrap64 (a3 - 1)) = j_ := ⟨_, rfl⟩
   replace H : (if 0 ≤ (ji8) then (if (ji8) < (t184.length : Int) then (some ((rdOf ByteArray.empty t184 (ji8)).toList == ([109, 111, 114, 101] : List UInt8))) else (none)) else (none)) = some r := by first | (rw [hji8] at H; exact H) | (simp only [hji8] at H ⊢; exact H)
   (try rw [hji8] at A5)
   have hji8w : (IntKind.i64.wrap (a3 - 1)) = ji8 := (i64_w _).trans hji8
   by_cases c9 : 0 ≤ (ji8)
   ·rw [if_pos c9] at H
    have c9b0 : decide (0 ≤ (ji8)) = true := decide_eq_true c9
    clear c9
    by_cases c10 : (ji8) < (t184.length : Int)
    ·rw [if_pos c10] at H
     have c10b0 : decide ((ji8) < (t184.length : Int)) = true := decide_eq_true c10
     clear c10
     obtain rfl := Option.some.inj H
     go_enter Try.func63, Try.ntmps63
     go_wp2_with (first | ((with_reducible refine gate_callee (f := 61) rfl ?_); refine goesL_ (some 16) rfl rfl Try.func61 (by kernel_rfl) rfl #[.string a0, .string a1, .string a2] rfl (by (try simp only [List.map_toArray, List.map_cons, List.map_nil]); first | done | rfl | (simp only [List.length_drop, List.length_take]; rfl)) ?_; (with_reducible refine (journal_Scan.calls a0 a1 a2 t184 t185 t186 _ A5.out).mono ?_); rintro e w11 ⟨v187, rfl, ho0, hb⟩; refine ⟨_, rfl, ?_⟩; have n0_ := Aside0.mk (Kd.R_lower ho0 (below_size (by repeat (first | (with_reducible first | exact HB.out | apply below_alloc | apply pw_below_drewN | apply below_drew1) | exact HB.out)))); have n1_ := Aside0.mk (below_step (by repeat (first | (with_reducible first | exact HB.out | apply below_alloc | apply pw_below_drewN | apply below_drew1) | exact HB.out)) hb); clear HB; have HO188 := n0_; have HB := n1_; clear n0_ n1_; (try clear hb); (try clear hb2); (try clear hk); (try clear hi); (try clear ho0); obtain ⟨Ao12, co12, eo12⟩ := Kd.R_slice HO188.out; subst eo12; have p189 : 0 ≤ ((ji8) : Int) := of_decide_eq_true (by first | (with_reducible assumption) | assumption); have q189 : (ji8) < (t184.length : Int) := of_decide_eq_true (by first | (with_reducible assumption) | assumption); obtain ⟨ad189, e189, hx189_0⟩ := Kd.at_string (Kd.R_reads' HO188.out).2.2 (ji8) p189 q189; cases e189; replace p189 := eq_true p189; replace q189 := eq_true q189))
     go_ret
     exact ⟨by first | rfl | (simp [errW_none, errW_some] <;> rfl) | (simp only [← hji8]; first | rfl | (simp [errW_none, errW_some] <;> rfl)) | (simp [*, errW_none, errW_some] <;> rfl), by repeat (first | (with_reducible first | exact HB.out | apply below_alloc | apply pw_below_drewN | apply below_drew1) | exact HB.out)⟩
    ·rw [if_neg c10] at H
     exact absurd H (by simp)
   ·rw [if_neg c9] at H
    exact absurd H (by simp)
  ·rw [if_neg c7] at H
   have c7b0 : (t185 == (a2.size : Int)) = false := beq_eq_false_iff_ne.mpr c7
   have c7b1 : (t185 != (a2.size : Int)) = true := bne_iff_ne.mpr c7
   obtain rfl := Option.some.inj H
   go_enter Try.func63, Try.ntmps63
   go_wp2_with (first | ((with_reducible refine gate_callee (f := 61) rfl ?_); refine goesL_ (some 16) rfl rfl Try.func61 (by kernel_rfl) rfl #[.string a0, .string a1, .string a2] rfl (by (try simp only [List.map_toArray, List.map_cons, List.map_nil]); first | done | rfl | (simp only [List.length_drop, List.length_take]; rfl)) ?_; (with_reducible refine (journal_Scan.calls a0 a1 a2 t184 t185 t186 _ A5.out).mono ?_); rintro e w13 ⟨v187, rfl, ho0, hb⟩; refine ⟨_, rfl, ?_⟩; have n0_ := Aside0.mk (Kd.R_lower ho0 (below_size (by repeat (first | (with_reducible first | exact HB.out | apply below_alloc | apply pw_below_drewN | apply below_drew1) | exact HB.out)))); have n1_ := Aside0.mk (below_step (by repeat (first | (with_reducible first | exact HB.out | apply below_alloc | apply pw_below_drewN | apply below_drew1) | exact HB.out)) hb); clear HB; have HO188 := n0_; have HB := n1_; clear n0_ n1_; (try clear hb); (try clear hb2); (try clear hk); (try clear hi); (try clear ho0); obtain ⟨Ao14, co14, eo14⟩ := Kd.R_slice HO188.out; subst eo14))
   go_ret
   exact ⟨by first | rfl | (simp [errW_none, errW_some] <;> rfl) | (simp [*, errW_none, errW_some] <;> rfl), by repeat (first | (with_reducible first | exact HB.out | apply below_alloc | apply pw_below_drewN | apply below_drew1) | exact HB.out)⟩
 ·rw [if_neg c6] at H
  have c6b0 : ((t184.length : Int) == a3) = false := beq_eq_false_iff_ne.mpr c6
  have c6b1 : ((t184.length : Int) != a3) = true := bne_iff_ne.mpr c6
  obtain rfl := Option.some.inj H
  go_enter Try.func63, Try.ntmps63
  go_wp2_with (first | ((with_reducible refine gate_callee (f := 61) rfl ?_); refine goesL_ (some 16) rfl rfl Try.func61 (by kernel_rfl) rfl #[.string a0, .string a1, .string a2] rfl (by (try simp only [List.map_toArray, List.map_cons, List.map_nil]); first | done | rfl | (simp only [List.length_drop, List.length_take]; rfl)) ?_; (with_reducible refine (journal_Scan.calls a0 a1 a2 t184 t185 t186 _ A5.out).mono ?_); rintro e w15 ⟨v187, rfl, ho0, hb⟩; refine ⟨_, rfl, ?_⟩; have n0_ := Aside0.mk (Kd.R_lower ho0 (below_size (by repeat (first | (with_reducible first | exact HB.out | apply below_alloc | apply pw_below_drewN | apply below_drew1) | exact HB.out)))); have n1_ := Aside0.mk (below_step (by repeat (first | (with_reducible first | exact HB.out | apply below_alloc | apply pw_below_drewN | apply below_drew1) | exact HB.out)) hb); clear HB; have HO188 := n0_; have HB := n1_; clear n0_ n1_; (try clear hb); (try clear hb2); (try clear hk); (try clear hi); (try clear ho0); obtain ⟨Ao16, co16, eo16⟩ := Kd.R_slice HO188.out; subst eo16))
  go_ret
  exact ⟨by first | rfl | (simp [errW_none, errW_some] <;> rfl) | (simp [*, errW_none, errW_some] <;> rfl), by repeat (first | (with_reducible first | exact HB.out | apply below_alloc | apply pw_below_drewN | apply below_drew1) | exact HB.out)⟩
end Go.Proofs.Ytolbhliepkcihaa.QJN
end
section
namespace Go.Proofs.Ytolbhliepkcihaa.Pure
open Go.RowKit Go.Proofs.Ytolbhliepkcihaa.QJN Go.Proofs.YtolbhliepkcihaaW.PrintWords Go.Proofs.YtolbhliepkcihaaW.PrintLast Go.Proofs.YtolbhliepkcihaaW.PrintMore Go.Proofs.Ytolbhliepkcihaa.Sha Go.Proofs.Ytolbhliepkcihaa.Mac Go.Proofs.Ytolbhliepkcihaa.Trust Go.Proofs.Ytolbhliepkcihaa.Codec Go.Proofs.Ytolbhliepkcihaa.Jour
theorem xl (b : ByteArray) (i j : Nat) : (b.extract i j).data.toList = (b.data.toList.drop i).take (j - i) := by
 rw [ByteArray.data_extract, Array.toList_extract]
theorem ext_l {a b : ByteArray} (h : a.data.toList = b.data.toList) : a = b := ByteArray.ext (Array.toList_inj.1 h)
theorem app_l (a b : ByteArray) : (a ++ b).data.toList = a.data.toList ++ b.data.toList := by rw [ByteArray.data_append, Array.toList_append]
theorem len_l (a : ByteArray) : a.data.toList.length = a.size := by rw [Array.length_toList]; rfl
theorem mid (a b c : ByteArray) (m n : Nat) (ha : a.size = m) (hb : m + b.size = n) : (a ++ (b ++ c)).extract m n = b := by
 apply ext_l
 rw [xl, app_l, app_l]
 rw [← len_l] at ha hb
 rw [List.drop_left' ha, List.take_left' (by omega)]
theorem pre_ext (a c : ByteArray) (n : Nat) (ha : a.size = n) : (a ++ c).extract 0 n = a := by
 apply ext_l
 rw [xl, app_l]
 rw [← len_l] at ha
 rw [List.drop_zero, List.take_left' (by omega)]
theorem suf_ext (a c : ByteArray) (n m : Nat) (ha : a.size = n) (hm : m = (a ++ c).size) : (a ++ c).extract n m = c := by
 apply ext_l
 rw [xl, app_l]
 rw [hm, ByteArray.size_append, ha]
 rw [← len_l] at ha
 rw [List.drop_left' ha, List.take_of_length_le (by rw [len_l]; omega)]
/-! ### a record stands where it was written -/
theorem len_at (log : ByteArray) (h : 2 ≤ log.size) : lenAt log = bn log 0 + 256 * bn log 1 := by
 unfold lenAt
 rw [get_bang log 0 (by omega), get_bang log 1 (by omega), bn_at log 0 (by omega), bn_at log 1 (by omega)]
theorem bn_l (log : ByteArray) (i : Nat) : bn log i = ((log.data.toList[i]?).map (·.toNat)).getD 0 := by
 unfold bn
 by_cases h : i < log.size
 ·rw [dif_pos h]
  have : i < log.data.toList.length := by rw [len_l]; exact h
  rw [List.getElem?_eq_getElem this]
  rfl
 ·rw [dif_neg h, List.getElem?_eq_none (by rw [len_l]; omega)]
  rfl
theorem len_text (s y : ByteArray) (hs : s.size < 65536) : lenAt (textS s ++ y) = s.size := by
 rw [len_at _ (by rw [ByteArray.size_append, textS_size]; omega), bn_l, bn_l, app_l]
 have e : (textS s).data.toList = UInt8.ofNat (s.size / 256 ^ 0 % 256) :: UInt8.ofNat (s.size / 256 ^ 1 % 256) :: s.data.toList := by
  unfold textS
  rw [app_l]
  rfl
 rw [e]
 simp only [List.cons_append, List.getElem?_cons_zero, List.getElem?_cons_succ, Option.map_some, Option.getD_some]
 rw [UInt8.toNat_ofNat', UInt8.toNat_ofNat']
 simp only [Nat.pow_zero, Nat.div_one, Nat.pow_one]
 omega
theorem one_rec (key : ByteArray) (last : Nat) (s y : ByteArray) (hs : s.size ≤ 4096) : oneJ key last (recS key last s ++ y) = some s := by
 have e : recS key last s ++ y = textS s ++ (numS (nextN key last s) ++ y) := by unfold recS; rw [ByteArray.append_assoc]
 have hl : lenAt (recS key last s ++ y) = s.size := by rw [e, len_text _ _ (by omega)]
 have hz : (recS key last s).size = s.size + 10 := recS_size key last s
 have hx : (recS key last s ++ y).extract 2 (s.size + 2) = s := by
  rw [e]
  unfold textS
  rw [ByteArray.append_assoc, mid _ _ _ 2 (s.size + 2) (lowS_size _ _) (by omega)]
 unfold oneJ
 rw [hl, hx, if_pos ⟨by rw [ByteArray.size_append]; omega, by rw [ByteArray.size_append]; omega, hs, pre_ext _ _ _ hz⟩]
theorem one_short (key : ByteArray) (last : Nat) (s y : ByteArray) (hs : s.size ≤ 4096) (k : Nat) (hk : k < s.size + 10) : oneJ key last ((recS key last s ++ y).extract 0 k) = none := by
 have e : recS key last s ++ y = textS s ++ (numS (nextN key last s) ++ y) := by unfold recS; rw [ByteArray.append_assoc]
 have hz : (recS key last s ++ y).size = s.size + 10 + y.size := by rw [ByteArray.size_append, recS_size]
 have hz2 : ((recS key last s ++ y).extract 0 k).size = k := by rw [ByteArray.size_extract, hz]; omega
 unfold oneJ
 rw [if_neg]
 rintro ⟨q1, q2, q3, _⟩
 rw [hz2] at q1 q2
 have hl : lenAt ((recS key last s ++ y).extract 0 k) = s.size := by
  rw [len_at _ (by rw [hz2]; exact q1), bn_cut _ k 0 (by omega) (by rw [hz]; omega), bn_cut _ k 1 (by omega) (by rw [hz]; omega), ← len_at _ (by rw [hz]; omega), e, len_text _ _ (by omega)]
 omega
def prs (key : ByteArray) : Nat → List ByteArray → List Pr
 | _, [] => []
 | last, s :: r => (s, nextN key last s) :: prs key (nextN key last s) r
theorem prs_fst (key : ByteArray) : ∀ (l : List ByteArray) (last : Nat), (prs key last l).map Prod.fst = l
 | [], _ => rfl
 | s :: r, last => by show s :: (prs key (nextN key last s) r).map Prod.fst = _; rw [prs_fst key r]
theorem prs_last (key : ByteArray) : ∀ (l : List ByteArray) (last : Nat), lastX last (prs key last l) = goN key last l
 | [], _ => rfl
 | _ :: r, _ => prs_last key r _
theorem prs_end (key : ByteArray) : ∀ (l : List ByteArray) (last : Nat), endX (prs key last l) = (wrS key last l).size
 | [], _ => rfl
 | s :: r, last => by
  show s.size + 10 + endX (prs key (nextN key last s) r) = (recS key last s ++ wrS key (nextN key last s) r).size
  rw [prs_end key r, ByteArray.size_append, recS_size]
theorem scan_wr (key : ByteArray) (y : ByteArray) : ∀ (l : List ByteArray) (last : Nat), (∀ s, s ∈ l → s.size ≤ 4096) → scanL key last (wrS key last l ++ y) = prs key last l ++ scanL key (goN key last l) y
 | [], last, _ => by
  show scanL key last (ByteArray.empty ++ y) = _
  rw [ByteArray.empty_append]
  rfl
 | s :: r, last, h => by
  have e : wrS key last (s :: r) ++ y = recS key last s ++ (wrS key (nextN key last s) r ++ y) := by
   show recS key last s ++ wrS key (nextN key last s) r ++ y = _
   rw [ByteArray.append_assoc]
  rw [e, scanL_some (one_rec key last s _ (h s List.mem_cons_self)), suf_ext _ _ _ _ (recS_size key last s) rfl, scan_wr key y r _ (fun t ht => h t (List.mem_cons_of_mem _ ht))]
  rfl
theorem scan_whole (key : ByteArray) (l : List ByteArray) (last : Nat) (h : ∀ s, s ∈ l → s.size ≤ 4096) : scanL key last (wrS key last l) = prs key last l := by
 have q := scan_wr key ByteArray.empty l last h
 rw [ByteArray.append_empty] at q
 rw [q]
 exact List.append_nil _
theorem long_iff (l : List ByteArray) : longB l = false ↔ ∀ s, s ∈ l → s.size ≤ 4096 := by
 unfold longB
 rw [List.any_eq_false]
 constructor
 ·intro h s hs
  have := h s hs
  simp at this
  exact this
 ·intro h s hs
  have := h s hs
  simp
  exact this
/-! ### the functions -/
theorem same_l (a : List ByteArray) (ha : a.length < 1000000000) : ∀ (k i : Nat), a.length - i < k → i ≤ a.length → saltusref04_Same.l0 k a a (a.length : Int) (i : Int) = some true
 | 0, _, h, _ => by omega
 | k + 1, i, h, hi => by
  unfold saltusref04_Same.l0
  by_cases hl : i < a.length
  ·have e2 : wrap64 ((i : Int) + 1) = ((i + 1 : Nat) : Int) := by unfold wrap64; omega
   rw [if_pos (by omega), if_pos (by omega), if_pos (by omega), if_pos (by omega), if_pos rfl, e2]
   exact same_l a ha k (i + 1) (by omega) (by omega)
  ·rw [if_neg (by omega)]
theorem same_f (a : List ByteArray) (k : Nat) (ha : a.length < 1000000000) (hk : a.length < k) : saltusref04_Same.f k a a = some true := by
 unfold saltusref04_Same.f
 rw [if_pos rfl]
 exact same_l a ha k 0 (by omega) (by omega)
theorem cut_f (a : ByteArray) : ∃ b, saltuslaw13_cut.f a = some b ∧ b.size ≤ 80 := by
 refine ⟨a.extract 0 ((mn (a.size : Int) 80) : Int).toNat, ?_, ?_⟩
 ·unfold saltuslaw13_cut.f mn
  split <;> rw [if_pos (by omega), if_pos (by omega)]
 ·rw [ByteArray.size_extract]
  unfold mn
  split <;> omega
theorem alive_f (k : Nat) (hk : 2 < k) : saltuslaw13_alive.f k = some true := by
 unfold saltuslaw13_alive.f
 have hs : ∀ s, s ∈ [(⟨#[97]⟩ : ByteArray), (⟨#[]⟩ : ByteArray)] → s.size ≤ 4096 := by
  intro s hs
  rcases List.mem_cons.1 hs with rfl | hs
  ·decide
  ·rw [List.mem_singleton.1 hs]; decide
 have e1 : ∀ w0, wordN (⟨#[107]⟩ : ByteArray) ⟨#[]⟩ = w0 → journal_Write.f ⟨#[107]⟩ ⟨#[]⟩ [⟨#[97]⟩, ⟨#[]⟩] = some (wrS ⟨#[107]⟩ w0 [⟨#[97]⟩, ⟨#[]⟩], 0) := fun w0 h0 => by
  unfold journal_Write.f wrR
  rw [if_pos ⟨by decide, by decide, by decide⟩, if_neg (by rw [(long_iff _).2 hs]; decide), h0]
 have hz : ∀ w0, (wrS ⟨#[107]⟩ w0 [(⟨#[97]⟩ : ByteArray), ⟨#[]⟩]).size = 21 := fun w0 => by rw [← prs_end]; rfl
 obtain ⟨w0, h0⟩ : ∃ w0, wordN (⟨#[107]⟩ : ByteArray) ⟨#[]⟩ = w0 := ⟨_, rfl⟩
 have e2 : journal_Scan.f ⟨#[107]⟩ ⟨#[]⟩ (wrS ⟨#[107]⟩ w0 [(⟨#[97]⟩ : ByteArray), ⟨#[]⟩]) = some ([(⟨#[97]⟩ : ByteArray), ⟨#[]⟩], 21, ((goN ⟨#[107]⟩ w0 [(⟨#[97]⟩ : ByteArray), ⟨#[]⟩] : Nat) : Int)) := by
  unfold journal_Scan.f
  rw [if_pos ⟨by decide, by decide, by rw [hz]; decide⟩, h0, scan_whole _ _ _ hs, prs_fst, prs_last]
  rfl
 rw [e1 w0 h0, Option.bind_some]
 show Option.bind (journal_Scan.f ⟨#[107]⟩ ⟨#[]⟩ (wrS ⟨#[107]⟩ w0 [(⟨#[97]⟩ : ByteArray), ⟨#[]⟩])) _ = _
 rw [e2, Option.bind_some, if_pos rfl]
 show (if ((wrS ⟨#[107]⟩ w0 [(⟨#[97]⟩ : ByteArray), ⟨#[]⟩]).size : Int) = 21 then _ else _) = _
 rw [hz, if_pos (show ((21 : Nat) : Int) = 21 from rfl), if_pos rfl, same_f [(⟨#[97]⟩ : ByteArray), ⟨#[]⟩] k (by decide) (by simpa using hk)]
 rfl
/-! ### the reference -/
theorem wadd (a b : Nat) (h : a + b < 1000000000000) : wrap64 ((a : Int) + (b : Int)) = ((a + b : Nat) : Int) := by unfold wrap64; omega
end Go.Proofs.Ytolbhliepkcihaa.Pure
end
section
namespace Go.Proofs.Ytolbhliepkcihaa.QJN
open Go.RowKit Go.Proofs.YtolbhliepkcihaaW.PrintWords Go.Proofs.YtolbhliepkcihaaW.PrintLast Go.Proofs.YtolbhliepkcihaaW.PrintMore
attribute [local go_sem] max2_int min2_int max_two min_two max_three min_three max_four min_four   -- for this text's walks alone
set_option linter.unusedVariables false
set_option linter.unusedSimpArgs false
/-! ### saltuslaw13_JournalWrites: function 14 -/
end Go.Proofs.Ytolbhliepkcihaa.QJN
end
section
namespace Go.Proofs.Ytolbhliepkcihaa.Pure
open Go.RowKit Go.Proofs.Ytolbhliepkcihaa.QJN Go.Proofs.YtolbhliepkcihaaW.PrintWords Go.Proofs.YtolbhliepkcihaaW.PrintLast Go.Proofs.YtolbhliepkcihaaW.PrintMore Go.Proofs.Ytolbhliepkcihaa.Sha Go.Proofs.Ytolbhliepkcihaa.Mac Go.Proofs.Ytolbhliepkcihaa.Trust Go.Proofs.Ytolbhliepkcihaa.Codec Go.Proofs.Ytolbhliepkcihaa.Jour
theorem rd_at (l : List ByteArray) (i : Nat) (h : i < l.length) : rdOf ByteArray.empty l (i : Int) = l[i] := by
 unfold rdOf
 rw [Int.toNat_natCast, List.getD_eq_getElem?_getD, List.getElem?_eq_getElem h]
 rfl
theorem few_l (x : List ByteArray) (hx : x.length ≤ 8) : ∀ (k i : Nat) (a : List ByteArray), x.length - i < k → i ≤ x.length → a.length ≤ i → ∃ r, saltuslaw13_few.l0 k a x (x.length : Int) (i : Int) = some r ∧ r.length = a.length + (x.length - i)
 | 0, _, _, h, _, _ => by omega
 | k + 1, i, a, h, hi, ha => by
  unfold saltuslaw13_few.l0
  by_cases hl : i < x.length
  ·have e2 : wrap64 ((i : Int) + 1) = ((i + 1 : Nat) : Int) := wadd i 1 (by omega)
   rw [if_pos (by omega), if_pos (by omega), if_pos (by omega), rd_at x i hl, e2]
   have ht : ∀ s : ByteArray, ∃ r, saltuslaw13_few.l0 k (a ++ [s]) x (x.length : Int) ((i + 1 : Nat) : Int) = some r ∧ r.length = a.length + (x.length - i) := fun s => by
    obtain ⟨r, q1, q2⟩ := few_l x hx k (i + 1) (a ++ [s]) (by omega) (by omega) (by rw [List.length_append]; simp; omega)
    refine ⟨r, q1, ?_⟩
    rw [q2, List.length_append]
    simp
    omega
   by_cases hs : ((x[i]).size : Int) ≤ 4096
   ·rw [if_pos hs]
    obtain ⟨b, eb, _⟩ := cut_f x[i]
    rw [eb, Option.bind_some, if_pos (by omega)]
    exact ht b
   ·rw [if_neg hs, if_pos (by omega)]
    exact ht _
  ·rw [if_neg (by omega)]
   exact ⟨a, rfl, by omega⟩
theorem few_f (l : List ByteArray) (k : Nat) (hk : 8 < k) : ∃ r, saltuslaw13_few.f k l = some r ∧ r.length ≤ 8 := by
 unfold saltuslaw13_few.f
 obtain ⟨m, hm, hm1, hm2⟩ : ∃ m : Nat, mn (l.length : Int) 8 = (m : Int) ∧ m ≤ 8 ∧ m ≤ l.length := by
  unfold mn
  split
  ·exact ⟨8, rfl, by omega, by omega⟩
  ·exact ⟨l.length, rfl, by omega, by omega⟩
 rw [hm, if_pos (by omega), if_pos (by omega), Int.toNat_natCast]
 have hlen : (l.take m).length = m := by rw [List.length_take]; omega
 obtain ⟨r, q1, q2⟩ := few_l (l.take m) (by omega) k 0 [] (by omega) (by omega) (by simp)
 exact ⟨r, q1, by rw [q2, hlen]; simp; omega⟩
theorem emp_l : (⟨#[]⟩ : ByteArray).toList = [] := by rw [ByteArray.toList_eq]
end Go.Proofs.Ytolbhliepkcihaa.Pure
end
section
namespace Go.Proofs.Ytolbhliepkcihaa.QJN
open Go.RowKit Go.Proofs.YtolbhliepkcihaaW.PrintWords Go.Proofs.YtolbhliepkcihaaW.PrintLast Go.Proofs.YtolbhliepkcihaaW.PrintMore
attribute [local go_sem] max2_int min2_int max_two min_two max_three min_three max_four min_four   -- for this text's walks alone
set_option linter.unusedVariables false
set_option linter.unusedSimpArgs false
/-! ### saltuslaw13_JournalBack: function 16 -/
mutual
def saltuslaw13_JournalBack.j0 : Nat → ByteArray → ByteArray → List ByteArray → Int → ByteArray → Int → Bool → Option (Bool)
 | 0, _, _, _, _, _, _, _ => none
 | k + 1, x0, x1, x2, x3, x9, x13, x65 => if x65 = true then (some false) else ((journal_Record.f x0 x13 (⟨#[109, 111, 114, 101]⟩ : ByteArray)).bind fun bt205 => (if bt205.2.2 = 0 then (if x9.size + bt205.1.size ≤ 9223372036854775807 then ((saltuslaw13_longer.f x0 x1 (x9 ++ bt205.1) (wrap64 ((x2.length : Int) + 1))).bind fun t208 => (saltuslaw13_JournalBack.j1 k x0 x1 x2 x3 x9 (!t208))) else (none)) else (saltuslaw13_JournalBack.j1 k x0 x1 x2 x3 x9 true)))
def saltuslaw13_JournalBack.j1 : Nat → ByteArray → ByteArray → List ByteArray → Int → ByteArray → Bool → Option (Bool)
 | 0, _, _, _, _, _, _ => none
 | k + 1, x0, x1, x2, x3, x9, x86 => if x86 = true then (some false) else (if (wrap64 ((x9.size : Int) + 1)) = 0 then (none) else (saltuslaw13_JournalBack.l0 k x0 x1 x2 (Int.tmod (wrap64 ((wrap64 ((Int.tmod x3 (wrap64 ((x9.size : Int) + 1))) + (x9.size : Int))) + 1)) (wrap64 ((x9.size : Int) + 1))) x9 0 0 x2 (x2.length : Int) 0))
def saltuslaw13_JournalBack.l0 : Nat → ByteArray → ByteArray → List ByteArray → Int → ByteArray → Int → Int → List ByteArray → Int → Int → Option (Bool)
 | 0, _, _, _, _, _, _, _, _, _, _ => none
 | k + 1, x0, x1, x2, x3, x9, x17, x18, x100, x101, x102 => if x102 < x101 then (if 0 ≤ x102 then (if x102 < (x100.length : Int) then (if (wrap64 ((wrap64 (x18 + ((rdOf ByteArray.empty x100 x102).size : Int))) + 10)) > x3 then (if 0 ≤ x3 then (if x3 ≤ (x9.size : Int) then ((journal_Scan.f x0 x1 (x9.extract 0 (x3 : Int).toNat)).bind fun bt210 => (if bt210.2.1 = x18 then (if 0 ≤ x17 then (if x17 ≤ (x2.length : Int) then ((saltusref04_Same.f k bt210.1 (x2.take (x17 : Int).toNat)).bind fun t219 => (if t219 = true then (if 0 ≤ bt210.2.1 then (if bt210.2.1 ≤ (x9.size : Int) then ((strings_HasPrefix.f x9 (x9.extract 0 (bt210.2.1 : Int).toNat)).bind fun t220 => (some t220)) else (none)) else (none)) else (some false))) else (none)) else (none)) else (some false))) else (none)) else (none)) else (saltuslaw13_JournalBack.l0 k x0 x1 x2 x3 x9 (wrap64 (x17 + 1)) (wrap64 ((wrap64 (x18 + ((rdOf ByteArray.empty x100 x102).size : Int))) + 10)) x100 x101 (wrap64 (x102 + 1)))) else (none)) else (none)) else (if 0 ≤ x3 then (if x3 ≤ (x9.size : Int) then ((journal_Scan.f x0 x1 (x9.extract 0 (x3 : Int).toNat)).bind fun bt221 => (if bt221.2.1 = x18 then (if 0 ≤ x17 then (if x17 ≤ (x2.length : Int) then ((saltusref04_Same.f k bt221.1 (x2.take (x17 : Int).toNat)).bind fun t230 => (if t230 = true then (if 0 ≤ bt221.2.1 then (if bt221.2.1 ≤ (x9.size : Int) then ((strings_HasPrefix.f x9 (x9.extract 0 (bt221.2.1 : Int).toNat)).bind fun t231 => (some t231)) else (none)) else (none)) else (some false))) else (none)) else (none)) else (some false))) else (none)) else (none))
end
def saltuslaw13_JournalBack.f (k : Nat) (a0 : ByteArray) (a1 : ByteArray) (l2 : List ByteArray) (a3 : Int) : Option (Bool) := (saltuslaw13_cut.f a0).bind fun t190 => ((saltuslaw13_cut.f a1).bind fun t191 => ((saltuslaw13_few.f k l2).bind fun t192 => ((journal_Write.f t190 t191 t192).bind fun bt195 => (if bt195.2 = 0 then ((journal_Scan.f t190 t191 bt195.1).bind fun bt198 => ((saltusref04_Same.f k bt198.1 t192).bind fun t203 => (if t203 = true then (if bt198.2.1 = (bt195.1.size : Int) then ((saltuslaw13_alive.f k).bind fun t204 => (saltuslaw13_JournalBack.j0 k t190 t191 t192 a3 bt195.1 bt198.2.2 (!t204))) else (saltuslaw13_JournalBack.j0 k t190 t191 t192 a3 bt195.1 bt198.2.2 true)) else (saltuslaw13_JournalBack.j0 k t190 t191 t192 a3 bt195.1 bt198.2.2 true)))) else ((saltuslaw13_alive.f k).bind fun t197 => (if t197 = true then (some (bt195.1.toList == ([] : List UInt8))) else (some false)))))))
theorem saltuslaw13_JournalBack.mono_l : ∀ k, (∀ y0 y1 y2 y3 y4 y5 y6, LeO (saltuslaw13_JournalBack.j0 k y0 y1 y2 y3 y4 y5 y6) (saltuslaw13_JournalBack.j0 (k + 1) y0 y1 y2 y3 y4 y5 y6)) ∧ (∀ y0 y1 y2 y3 y4 y5, LeO (saltuslaw13_JournalBack.j1 k y0 y1 y2 y3 y4 y5) (saltuslaw13_JournalBack.j1 (k + 1) y0 y1 y2 y3 y4 y5)) ∧ (∀ y0 y1 y2 y3 y4 y5 y6 y7 y8 y9, LeO (saltuslaw13_JournalBack.l0 k y0 y1 y2 y3 y4 y5 y6 y7 y8 y9) (saltuslaw13_JournalBack.l0 (k + 1) y0 y1 y2 y3 y4 y5 y6 y7 y8 y9))
 | 0 => ⟨fun _ _ _ _ _ _ _ r h => by simp [saltuslaw13_JournalBack.j0] at h, fun _ _ _ _ _ _ r h => by simp [saltuslaw13_JournalBack.j1] at h, fun _ _ _ _ _ _ _ _ _ _ r h => by simp [saltuslaw13_JournalBack.l0] at h⟩
 | k + 1 => by
  obtain ⟨ih0, ih1, ih2⟩ := saltuslaw13_JournalBack.mono_l k
  refine ⟨?_, ?_, ?_⟩
  ·intro y0 y1 y2 y3 y4 y5 y6
   unfold saltuslaw13_JournalBack.j0
   repeat' first
   | (with_reducible exact ih0 _ _ _ _ _ _ _)
   | (with_reducible exact ih1 _ _ _ _ _ _)
   | (with_reducible exact ih2 _ _ _ _ _ _ _ _ _ _)
   | (with_reducible exact saltuslaw13_alive.mono _)
   | (with_reducible exact saltuslaw13_few.mono _ _)
   | (with_reducible exact saltusref04_Same.mono _ _ _)
   | (with_reducible exact LeO.refl _)
   | (with_reducible exact LeO.none _)
   | (with_reducible refine LeO.ite ?_ ?_)
   | (with_reducible refine LeO.bind ?_ (fun _ => ?_))
   | exact ih0 _ _ _ _ _ _ _
   | exact ih1 _ _ _ _ _ _
   | exact ih2 _ _ _ _ _ _ _ _ _ _
   | exact saltuslaw13_alive.mono _
   | exact saltuslaw13_few.mono _ _
   | exact saltusref04_Same.mono _ _ _
   | exact LeO.none _
   | refine LeO.ite ?_ ?_
   | refine LeO.bind ?_ (fun _ => ?_)
  ·intro y0 y1 y2 y3 y4 y5
   unfold saltuslaw13_JournalBack.j1
   repeat' first
   | (with_reducible exact ih0 _ _ _ _ _ _ _)
   | (with_reducible exact ih1 _ _ _ _ _ _)
   | (with_reducible exact ih2 _ _ _ _ _ _ _ _ _ _)
   | (with_reducible exact saltuslaw13_alive.mono _)
   | (with_reducible exact saltuslaw13_few.mono _ _)
   | (with_reducible exact saltusref04_Same.mono _ _ _)
   | (with_reducible exact LeO.refl _)
   | (with_reducible exact LeO.none _)
   | (with_reducible refine LeO.ite ?_ ?_)
   | (with_reducible refine LeO.bind ?_ (fun _ => ?_))
   | exact ih0 _ _ _ _ _ _ _
   | exact ih1 _ _ _ _ _ _
   | exact ih2 _ _ _ _ _ _ _ _ _ _
   | exact saltuslaw13_alive.mono _
   | exact saltuslaw13_few.mono _ _
   | exact saltusref04_Same.mono _ _ _
   | exact LeO.none _
   | refine LeO.ite ?_ ?_
   | refine LeO.bind ?_ (fun _ => ?_)
  ·intro y0 y1 y2 y3 y4 y5 y6 y7 y8 y9
   unfold saltuslaw13_JournalBack.l0
   repeat' first
   | (with_reducible exact ih0 _ _ _ _ _ _ _)
   | (with_reducible exact ih1 _ _ _ _ _ _)
   | (with_reducible exact ih2 _ _ _ _ _ _ _ _ _ _)
   | (with_reducible exact saltuslaw13_alive.mono _)
   | (with_reducible exact saltuslaw13_few.mono _ _)
   | (with_reducible exact saltusref04_Same.mono _ _ _)
   | (with_reducible exact LeO.refl _)
   | (with_reducible exact LeO.none _)
   | (with_reducible refine LeO.ite ?_ ?_)
   | (with_reducible refine LeO.bind ?_ (fun _ => ?_))
   | exact ih0 _ _ _ _ _ _ _
   | exact ih1 _ _ _ _ _ _
   | exact ih2 _ _ _ _ _ _ _ _ _ _
   | exact saltuslaw13_alive.mono _
   | exact saltuslaw13_few.mono _ _
   | exact saltusref04_Same.mono _ _ _
   | exact LeO.none _
   | refine LeO.ite ?_ ?_
   | refine LeO.bind ?_ (fun _ => ?_)
theorem saltuslaw13_JournalBack.mono : ∀ a0 a1 a2 a3 k, LeO (saltuslaw13_JournalBack.f k a0 a1 a2 a3) (saltuslaw13_JournalBack.f (k + 1) a0 a1 a2 a3) := by
 intro a0 a1 a2 a3 k
 obtain ⟨ih0, ih1, ih2⟩ := saltuslaw13_JournalBack.mono_l k
 unfold saltuslaw13_JournalBack.f
 repeat' first
   | (with_reducible exact ih0 _ _ _ _ _ _ _)
   | (with_reducible exact ih1 _ _ _ _ _ _)
   | (with_reducible exact ih2 _ _ _ _ _ _ _ _ _ _)
   | (with_reducible exact saltuslaw13_alive.mono _)
   | (with_reducible exact saltuslaw13_few.mono _ _)
   | (with_reducible exact saltusref04_Same.mono _ _ _)
   | (with_reducible exact LeO.refl _)
   | (with_reducible exact LeO.none _)
   | (with_reducible refine LeO.ite ?_ ?_)
   | (with_reducible refine LeO.bind ?_ (fun _ => ?_))
   | exact ih0 _ _ _ _ _ _ _
   | exact ih1 _ _ _ _ _ _
   | exact ih2 _ _ _ _ _ _ _ _ _ _
   | exact saltuslaw13_alive.mono _
   | exact saltuslaw13_few.mono _ _
   | exact saltusref04_Same.mono _ _ _
   | exact LeO.none _
   | refine LeO.ite ?_ ?_
   | refine LeO.bind ?_ (fun _ => ?_)
set_option maxHeartbeats 8000000 in
set_option maxRecDepth 100000 in
theorem saltuslaw13_JournalBack.calls (k : Nat) (a0 : ByteArray) (a1 : ByteArray) (A2 : Option Addr) (c2 : Nat) (l2 : List ByteArray) (a3 : Int) (r : Bool) (w : World) (hr2 : Kd.C Kd.string w A2 l2.length l2) (hc2 : l2.length ≤ c2) (hr : Aside0 (r = true)) (h : saltuslaw13_JournalBack.f k a0 a1 l2 a3 = some r) :
  Calls Try.prog 16 #[.string a0, .string a1, .slice A2 l2.length c2, .int .i64 a3] w fun e w' => e = .returned (.bool r) ∧ Below w.heap.size w w' := by
 have HR2 := Aside0.mk hr2
 have HC2 := Aside0.mk hc2
 clear hr2 hc2
 have HB := Aside0.mk (Below.refl w.heap.size w)
 have H : ((saltuslaw13_cut.f a0).bind fun t190 => ((saltuslaw13_cut.f a1).bind fun t191 => ((saltuslaw13_few.f k l2).bind fun t192 => ((journal_Write.f t190 t191 t192).bind fun bt195 => (if bt195.2 = 0 then ((journal_Scan.f t190 t191 bt195.1).bind fun bt198 => ((saltusref04_Same.f k bt198.1 t192).bind fun t203 => (if t203 = true then (if bt198.2.1 = (bt195.1.size : Int) then ((saltuslaw13_alive.f k).bind fun t204 => (saltuslaw13_JournalBack.j0 k t190 t191 t192 a3 bt195.1 bt198.2.2 (!t204))) else (saltuslaw13_JournalBack.j0 k t190 t191 t192 a3 bt195.1 bt198.2.2 true)) else (saltuslaw13_JournalBack.j0 k t190 t191 t192 a3 bt195.1 bt198.2.2 true)))) else ((saltuslaw13_alive.f k).bind fun t197 => (if t197 = true then (some (bt195.1.toList == ([] : List UInt8))) else (some false)))))))) = some r := h
 clear h
 replace H := Option.bind_eq_some_iff.mp H
 obtain ⟨t190, A50, H⟩ := H
 (try dsimp only at H)
 have A5 := Aside0.mk A50
 clear A50
 replace H := Option.bind_eq_some_iff.mp H
 obtain ⟨t191, A60, H⟩ := H
 (try dsimp only at H)
 have A6 := Aside0.mk A60
 clear A60
 replace H := Option.bind_eq_some_iff.mp H
 obtain ⟨t192, A70, H⟩ := H
 (try dsimp only at H)
 have A7 := Aside0.mk A70
 clear A70
 replace H := Option.bind_eq_some_iff.mp H
 obtain ⟨⟨t195, t196⟩, A80, H⟩ := H
 (try dsimp only at H)
 have A8 := Aside0.mk A80
 clear A80
 by_cases c9 : t196 = 0
 ·rw [if_pos c9] at H
  have c9b0 : (t196 == 0) = true := beq_iff_eq.mpr c9
  have c9b1 : (t196 != 0) = false := bne_eq_false_iff_eq.mpr c9
  clear c9
  replace H := Option.bind_eq_some_iff.mp H
  obtain ⟨⟨t198, t199, t200⟩, A100, H⟩ := H
  (try dsimp only at H)
  have A10 := Aside0.mk A100
  clear A100
  have HC11 := Aside0.mk H
  clear H
  go_enter Try.func16, Try.ntmps16
  go_upto_region 6 with (first | ((with_reducible refine gate_callee (f := 51) rfl ?_); refine goesL_ (some 25) rfl rfl Try.func51 (by kernel_rfl) rfl #[.string a0] rfl (by (try simp only [List.map_toArray, List.map_cons, List.map_nil]); first | done | rfl | (simp only [List.length_drop, List.length_take]; rfl)) ?_; (with_reducible refine (saltuslaw13_cut.calls a0 t190 _ A5.out).mono ?_); rintro e w12 ⟨rfl, hb⟩; refine ⟨_, rfl, ?_⟩; have n0_ := Aside0.mk (below_step (by repeat (first | (with_reducible first | exact HB.out | apply below_alloc | apply pw_below_drewN | apply below_drew1) | exact HB.out)) hb); clear HB; have HB := n0_; clear n0_; (try clear hb); (try clear hb2); (try clear hk); (try clear hi)) | ((with_reducible refine gate_callee (f := 51) rfl ?_); refine goesL_ (some 27) rfl rfl Try.func51 (by kernel_rfl) rfl #[.string a1] rfl (by (try simp only [List.map_toArray, List.map_cons, List.map_nil]); first | done | rfl | (simp only [List.length_drop, List.length_take]; rfl)) ?_; (with_reducible refine (saltuslaw13_cut.calls a1 t191 _ A6.out).mono ?_); rintro e w13 ⟨rfl, hb⟩; refine ⟨_, rfl, ?_⟩; have n0_ := Aside0.mk (below_step (by repeat (first | (with_reducible first | exact HB.out | apply below_alloc | apply pw_below_drewN | apply below_drew1) | exact HB.out)) hb); clear HB; have HB := n0_; clear n0_; (try clear hb); (try clear hb2); (try clear hk); (try clear hi)) | ((with_reducible refine gate_callee (f := 52) rfl ?_); refine goesL_ (some 29) rfl rfl Try.func52 (by kernel_rfl) rfl #[.slice A2 l2.length c2] rfl (by (try simp only [List.map_toArray, List.map_cons, List.map_nil]); first | done | rfl | (simp only [List.length_drop, List.length_take]; rfl)) ?_; (with_reducible refine (saltuslaw13_few.calls k _ _ l2 t192 _ ?side1 ?side2 A7.out).mono ?_); (case side1 => repeat (first | exact (Kd.C_below HR2.out HB.out) | (with_reducible refine Kd.C_alloc ?_ _) | (with_reducible refine Kd.C_drewN ?_ _) | (with_reducible refine Kd.C_drew ?_))); (case side2 => exact HC2.out); rintro e w14 ⟨v193, rfl, ho0, hb⟩; refine ⟨_, rfl, ?_⟩; have n0_ := Aside0.mk (Kd.R_lower ho0 (below_size (by repeat (first | (with_reducible first | exact HB.out | apply below_alloc | apply pw_below_drewN | apply below_drew1) | exact HB.out)))); have n1_ := Aside0.mk (below_step (by repeat (first | (with_reducible first | exact HB.out | apply below_alloc | apply pw_below_drewN | apply below_drew1) | exact HB.out)) hb); clear HB; have HO194 := n0_; have HB := n1_; clear n0_ n1_; (try clear hb); (try clear hb2); (try clear hk); (try clear hi); (try clear ho0); obtain ⟨Ao15, co15, eo15⟩ := Kd.R_slice HO194.out; subst eo15) | ((with_reducible refine gate_callee (f := 53) rfl ?_); refine goesL_ (some 34) rfl rfl Try.func53 (by kernel_rfl) rfl #[.string t190, .string t191, .slice Ao15 t192.length co15] rfl (by (try simp only [List.map_toArray, List.map_cons, List.map_nil]); first | done | rfl | (simp only [List.length_drop, List.length_take]; rfl)) ?_; (with_reducible refine (journal_Write.calls t190 t191 _ _ t192 t195 t196 _ ?side1 ?side2 A8.out).mono ?_); (case side1 => repeat (first | exact (Kd.R_reads' HO194.out).2.2 | (with_reducible refine Kd.C_alloc ?_ _) | (with_reducible refine Kd.C_drewN ?_ _) | (with_reducible refine Kd.C_drew ?_))); (case side2 => exact (Kd.R_reads' HO194.out).2.1); rintro e w16 ⟨rfl, hb⟩; refine ⟨_, rfl, ?_⟩; have n0_ := Aside0.mk (Kd.R_below (by (with_reducible repeat (first | apply Kd.R_alloc | apply Kd.R_drewN | apply Kd.R_drew)); exact HO194.out) hb); have n1_ := Aside0.mk (below_step (by repeat (first | (with_reducible first | exact HB.out | apply below_alloc | apply pw_below_drewN | apply below_drew1) | exact HB.out)) hb); clear HO194; clear HB; have HO194 := n0_; have HB := n1_; clear n0_ n1_; (try clear hb); (try clear hb2); (try clear hk); (try clear hi)) | ((with_reducible refine gate_callee (f := 61) rfl ?_); refine goesL_ (some 48) rfl rfl Try.func61 (by kernel_rfl) rfl #[.string t190, .string t191, .string t195] rfl (by (try simp only [List.map_toArray, List.map_cons, List.map_nil]); first | done | rfl | (simp only [List.length_drop, List.length_take]; rfl)) ?_; (with_reducible refine (journal_Scan.calls t190 t191 t195 t198 t199 t200 _ A10.out).mono ?_); rintro e w17 ⟨v201, rfl, ho0, hb⟩; refine ⟨_, rfl, ?_⟩; have n0_ := Aside0.mk (Kd.R_elder' (by (with_reducible repeat (first | apply Kd.R_alloc | apply Kd.R_drewN | apply Kd.R_drew)); exact HO194.out) (Kd.R_base ho0) hb); have n1_ := Aside0.mk (Kd.R_lower (Kd.R_new' ho0 (Kd.R_lt (by (with_reducible repeat (first | apply Kd.R_alloc | apply Kd.R_drewN | apply Kd.R_drew)); exact HO194.out))) (below_size (by repeat (first | (with_reducible first | exact HB.out | apply below_alloc | apply pw_below_drewN | apply below_drew1) | exact HB.out)))); have n2_ := Aside0.mk (below_step (by repeat (first | (with_reducible first | exact HB.out | apply below_alloc | apply pw_below_drewN | apply below_drew1) | exact HB.out)) hb); clear HO194; clear HB; have HO194 := n0_; have HO202 := n1_; have HB := n2_; clear n0_ n1_ n2_; (try clear hb); (try clear hb2); (try clear hk); (try clear hi); (try clear ho0)))
  (try simp only [Act.put, List.setIfInBounds_toArray, List.set_cons_zero, List.set_cons_succ])
  go_cut [65] (fun v65 wc => ∃ (kq : Nat) (x65_10 : Bool), v65 = .bool x65_10 ∧ Aside0 (saltuslaw13_JournalBack.j0 kq t190 t191 t192 a3 t195 t200 x65_10 = some r) ∧ Aside0 (kq ≤ k) ∧ Aside0 (Kd.R Kd.string 9 wc w.heap.size (fun _ => True) (.slice Ao15 t192.length co15) t192) ∧ Aside0 (Below w.heap.size w wc))
  case first =>
   have H := HC11.out
   clear HC11
   replace H := Option.bind_eq_some_iff.mp H
   obtain ⟨t203, A180, H⟩ := H
   (try dsimp only at H)
   have A18 := Aside0.mk A180
   clear A180
   by_cases c19 : t203 = true
   ·subst c19
    have H1 : (if t199 = (t195.size : Int) then ((saltuslaw13_alive.f k).bind fun t204 => (saltuslaw13_JournalBack.j0 k t190 t191 t192 a3 t195 t200 (!t204))) else (saltuslaw13_JournalBack.j0 k t190 t191 t192 a3 t195 t200 true)) = some r := by rw [if_pos rfl] at H; exact H
    clear H
    have H := H1
    clear H1
    by_cases c20 : t199 = (t195.size : Int)
    ·rw [if_pos c20] at H
     have c20b0 : (t199 == (t195.size : Int)) = true := beq_iff_eq.mpr c20
     have c20b1 : (t199 != (t195.size : Int)) = false := bne_eq_false_iff_eq.mpr c20
     clear c20
     (first | rw [c20b0] | (simp only [i64_w, i32_w]; rw [c20b0]) | skip)
     replace H := Option.bind_eq_some_iff.mp H
     obtain ⟨t204, A210, H⟩ := H
     (try dsimp only at H)
     have A21 := Aside0.mk A210
     clear A210
     have H' := Aside0.mk H
     clear H
     obtain ⟨Ao22, co22, eo22⟩ := Kd.R_slice HO202.out
     subst eo22
     go_wp2_with (first | ((with_reducible refine gate_callee (f := 39) rfl ?_); refine goesL_ (some 54) rfl rfl Try.func39 (by kernel_rfl) rfl #[.slice Ao22 t198.length co22, .slice Ao15 t192.length co15] rfl (by (try simp only [List.map_toArray, List.map_cons, List.map_nil]); first | done | rfl | (simp only [List.length_drop, List.length_take]; rfl)) ?_; (with_reducible refine (saltusref04_Same.calls k _ _ t198 _ _ t192 true _ ?side1 ?side2 ?side3 ?side4 A18.out).mono ?_); (case side1 => repeat (first | exact (Kd.R_reads' HO202.out).2.2 | (with_reducible refine Kd.C_alloc ?_ _) | (with_reducible refine Kd.C_drewN ?_ _) | (with_reducible refine Kd.C_drew ?_))); (case side2 => exact (Kd.R_reads' HO202.out).2.1); (case side3 => repeat (first | exact (Kd.R_reads' HO194.out).2.2 | (with_reducible refine Kd.C_alloc ?_ _) | (with_reducible refine Kd.C_drewN ?_ _) | (with_reducible refine Kd.C_drew ?_))); (case side4 => exact (Kd.R_reads' HO194.out).2.1); rintro e w' ⟨rfl, ⟨nd, rfl⟩⟩; refine ⟨_, rfl, ?_⟩) | (go_at_call 55; (with_reducible refine (saltuslaw13_alive.calls k  t204 _ A21.out).mono ?_); rintro e w23 ⟨rfl, hb⟩; have n0_ := Aside0.mk (Kd.R_below (by (with_reducible repeat (first | apply Kd.R_alloc | apply Kd.R_drewN | apply Kd.R_drew)); exact HO194.out) hb); have n1_ := Aside0.mk (Kd.R_below (by (with_reducible repeat (first | apply Kd.R_alloc | apply Kd.R_drewN | apply Kd.R_drew)); exact HO202.out) hb); have n2_ := Aside0.mk (below_step (by repeat (first | (with_reducible first | exact HB.out | apply below_alloc | apply pw_below_drewN | apply below_drew1) | exact HB.out)) hb); clear HO194; clear HO202; clear HB; have HO194 := n0_; have HO202 := n1_; have HB := n2_; clear n0_ n1_ n2_; (try clear hb); (try clear hb2); (try clear hk); (try clear hi)))
     go_meet
     case rel => exact ⟨_, (!t204), (by first | rfl | (simp; done) | (simp [*]; done)), H', ⟨by first | omega | exact Nat.le_refl _⟩, ⟨by (with_reducible repeat (first | apply Kd.R_alloc | apply Kd.R_drewN | apply Kd.R_drew)); exact Kd.R_mono HO194.out (fun _ hk => trivial)⟩, ⟨by repeat (first | (with_reducible first | exact HB.out | apply below_alloc | apply pw_below_drewN | apply below_drew1) | exact HB.out)⟩⟩
    ·rw [if_neg c20] at H
     have c20b0 : (t199 == (t195.size : Int)) = false := beq_eq_false_iff_ne.mpr c20
     have c20b1 : (t199 != (t195.size : Int)) = true := bne_iff_ne.mpr c20
     (first | rw [c20b0] | (simp only [i64_w, i32_w]; rw [c20b0]) | skip)
     have H' := Aside0.mk H
     clear H
     obtain ⟨Ao24, co24, eo24⟩ := Kd.R_slice HO202.out
     subst eo24
     go_wp2_with (first | ((with_reducible refine gate_callee (f := 39) rfl ?_); refine goesL_ (some 54) rfl rfl Try.func39 (by kernel_rfl) rfl #[.slice Ao24 t198.length co24, .slice Ao15 t192.length co15] rfl (by (try simp only [List.map_toArray, List.map_cons, List.map_nil]); first | done | rfl | (simp only [List.length_drop, List.length_take]; rfl)) ?_; (with_reducible refine (saltusref04_Same.calls k _ _ t198 _ _ t192 true _ ?side1 ?side2 ?side3 ?side4 A18.out).mono ?_); (case side1 => repeat (first | exact (Kd.R_reads' HO202.out).2.2 | (with_reducible refine Kd.C_alloc ?_ _) | (with_reducible refine Kd.C_drewN ?_ _) | (with_reducible refine Kd.C_drew ?_))); (case side2 => exact (Kd.R_reads' HO202.out).2.1); (case side3 => repeat (first | exact (Kd.R_reads' HO194.out).2.2 | (with_reducible refine Kd.C_alloc ?_ _) | (with_reducible refine Kd.C_drewN ?_ _) | (with_reducible refine Kd.C_drew ?_))); (case side4 => exact (Kd.R_reads' HO194.out).2.1); rintro e w' ⟨rfl, ⟨nd, rfl⟩⟩; refine ⟨_, rfl, ?_⟩))
     go_meet
     case rel => exact ⟨_, (true), (by first | rfl | (simp; done) | (simp [*]; done)), H', ⟨by first | omega | exact Nat.le_refl _⟩, ⟨by (with_reducible repeat (first | apply Kd.R_alloc | apply Kd.R_drewN | apply Kd.R_drew)); exact Kd.R_mono HO194.out (fun _ hk => trivial)⟩, ⟨by repeat (first | (with_reducible first | exact HB.out | apply below_alloc | apply pw_below_drewN | apply below_drew1) | exact HB.out)⟩⟩
   ·replace c19 := Bool.eq_false_iff.mpr c19
    subst c19
    have H1 : (saltuslaw13_JournalBack.j0 k t190 t191 t192 a3 t195 t200 true) = some r := by rw [if_neg (show ¬ (false = true) by decide)] at H; exact H
    clear H
    have H := H1
    clear H1
    have H' := Aside0.mk H
    clear H
    obtain ⟨Ao25, co25, eo25⟩ := Kd.R_slice HO202.out
    subst eo25
    go_wp2_with (first | ((with_reducible refine gate_callee (f := 39) rfl ?_); refine goesL_ (some 54) rfl rfl Try.func39 (by kernel_rfl) rfl #[.slice Ao25 t198.length co25, .slice Ao15 t192.length co15] rfl (by (try simp only [List.map_toArray, List.map_cons, List.map_nil]); first | done | rfl | (simp only [List.length_drop, List.length_take]; rfl)) ?_; (with_reducible refine (saltusref04_Same.calls k _ _ t198 _ _ t192 false _ ?side1 ?side2 ?side3 ?side4 A18.out).mono ?_); (case side1 => repeat (first | exact (Kd.R_reads' HO202.out).2.2 | (with_reducible refine Kd.C_alloc ?_ _) | (with_reducible refine Kd.C_drewN ?_ _) | (with_reducible refine Kd.C_drew ?_))); (case side2 => exact (Kd.R_reads' HO202.out).2.1); (case side3 => repeat (first | exact (Kd.R_reads' HO194.out).2.2 | (with_reducible refine Kd.C_alloc ?_ _) | (with_reducible refine Kd.C_drewN ?_ _) | (with_reducible refine Kd.C_drew ?_))); (case side4 => exact (Kd.R_reads' HO194.out).2.1); rintro e w' ⟨rfl, ⟨nd, rfl⟩⟩; refine ⟨_, rfl, ?_⟩))
    go_meet
    case rel => exact ⟨_, (true), (by first | rfl | (simp; done) | (simp [*]; done)), H', ⟨by first | omega | exact Nat.le_refl _⟩, ⟨by (with_reducible repeat (first | apply Kd.R_alloc | apply Kd.R_drewN | apply Kd.R_drew)); exact Kd.R_mono HO194.out (fun _ hk => trivial)⟩, ⟨by repeat (first | (with_reducible first | exact HB.out | apply below_alloc | apply pw_below_drewN | apply below_drew1) | exact HB.out)⟩⟩
  case rest =>
   clear HC11
   try clear c1
   try clear c2
   try clear p2
   try clear c3
   try clear c5
   try clear c6
   try clear c9
   try clear c9b0
   try clear c9b1
   try clear c16
   try clear c19
   try clear c20
   try clear c20b0
   try clear c20b1
   obtain ⟨kq, x65_10, rfl, HA, HJ10, HO_2, HB⟩ := hcut
   cases kq with
   | zero => exact absurd HA.out (by simp [saltuslaw13_JournalBack.j0])
   | succ kj10 =>
    have H := HA.out
    clear HA
    simp only [saltuslaw13_JournalBack.j0] at H
    by_cases c26 : x65_10 = true
    ·subst c26
     have H1 : (some false) = some r := by rw [if_pos rfl] at H; exact H
     clear H
     have H := H1
     clear H1
     exact absurd ((Option.some.inj H).trans hr.out) (by decide)
    ·replace c26 := Bool.eq_false_iff.mpr c26
     subst c26
     have H1 : ((journal_Record.f t190 t200 (⟨#[109, 111, 114, 101]⟩ : ByteArray)).bind fun bt205 => (if bt205.2.2 = 0 then (if t195.size + bt205.1.size ≤ 9223372036854775807 then ((saltuslaw13_longer.f t190 t191 (t195 ++ bt205.1) (wrap64 ((t192.length : Int) + 1))).bind fun t208 => (saltuslaw13_JournalBack.j1 kj10 t190 t191 t192 a3 t195 (!t208))) else (none)) else (saltuslaw13_JournalBack.j1 kj10 t190 t191 t192 a3 t195 true))) = some r := by rw [if_neg (show ¬ (false = true) by decide)] at H; exact H
     clear H
     have H := H1
     clear H1
     replace H := Option.bind_eq_some_iff.mp H
     obtain ⟨⟨t205, t206, t207⟩, A270, H⟩ := H
     (try dsimp only at H)
     have A27 := Aside0.mk A270
     clear A270
     have HC28 := Aside0.mk H
     clear H
     go_upto_region 9 with (first | ((with_reducible refine gate_callee (f := 56) rfl ?_); refine goesL_ (some 69) rfl rfl Try.func56 (by kernel_rfl) rfl #[.string t190, .int .u64 t200, .string (⟨#[109, 111, 114, 101]⟩ : ByteArray)] rfl (by (try simp only [List.map_toArray, List.map_cons, List.map_nil]); first | done | rfl | (simp only [List.length_drop, List.length_take]; rfl)) ?_; (with_reducible refine (journal_Record.calls t190 t200 (⟨#[109, 111, 114, 101]⟩ : ByteArray) t205 t206 t207 _ A27.out).mono ?_); rintro e w29 ⟨rfl, hb⟩; refine ⟨_, rfl, ?_⟩; have n0_ := Aside0.mk (Kd.R_below (by (with_reducible repeat (first | apply Kd.R_alloc | apply Kd.R_drewN | apply Kd.R_drew)); exact HO_2.out) hb); have n1_ := Aside0.mk (below_step (by repeat (first | (with_reducible first | exact HB.out | apply below_alloc | apply pw_below_drewN | apply below_drew1) | exact HB.out)) hb); clear HO_2; clear HB; have HO_2 := n0_; have HB := n1_; clear n0_ n1_; (try clear hb); (try clear hb2); (try clear hk); (try clear hi)))
     (try simp only [Act.put, List.setIfInBounds_toArray, List.set_cons_zero, List.set_cons_succ])
     go_cut [86] (fun v86 wc => ∃ (kq : Nat) (x86_27 : Bool), v86 = .bool x86_27 ∧ Aside0 (saltuslaw13_JournalBack.j1 kq t190 t191 t192 a3 t195 x86_27 = some r) ∧ Aside0 (kq ≤ kj10) ∧ Aside0 (Kd.R Kd.string 9 wc w.heap.size (fun _ => True) (.slice Ao15 t192.length co15) t192) ∧ Aside0 (Below w.heap.size w wc))
     case first =>
      have H := HC28.out
      clear HC28
      by_cases c30 : t207 = 0
      ·rw [if_pos c30] at H
       have c30b0 : (t207 == 0) = true := beq_iff_eq.mpr c30
       have c30b1 : (t207 != 0) = false := bne_eq_false_iff_eq.mpr c30
       clear c30
       (first | rw [c30b0] | (simp only [i64_w, i32_w]; rw [c30b0]) | skip)
       by_cases c31 : t195.size + t205.size ≤ 9223372036854775807
       ·rw [if_pos c31] at H
        have c31b0 := eq_true c31
        have c31b1 : decide (t195.size + t205.size ≤ 9223372036854775807) = true := decide_eq_true c31
        try have c31b2 : (9223372036854775807 < t195.size + t205.size) = False := eq_false (Nat.not_lt.2 c31)
        replace H := Option.bind_eq_some_iff.mp H
        obtain ⟨t208, A320, H⟩ := H
        (try dsimp only at H)
        have A32 := Aside0.mk A320
        clear A320
        have H' := Aside0.mk H
        clear H
        go_wp2_with (first | (go_at_call 63; (with_reducible refine (saltuslaw13_longer.calls t190 t191 (t195 ++ t205) (wrap64 ((t192.length : Int) + 1)) t208 _ A32.out).mono ?_); rintro e w33 ⟨rfl, hb⟩; have n0_ := Aside0.mk (Kd.R_below (by (with_reducible repeat (first | apply Kd.R_alloc | apply Kd.R_drewN | apply Kd.R_drew)); exact HO_2.out) hb); have n1_ := Aside0.mk (below_step (by repeat (first | (with_reducible first | exact HB.out | apply below_alloc | apply pw_below_drewN | apply below_drew1) | exact HB.out)) hb); clear HO_2; clear HB; have HO_2 := n0_; have HB := n1_; clear n0_ n1_; (try clear hb); (try clear hb2); (try clear hk); (try clear hi)))
        go_meet
        case rel => exact ⟨_, (!t208), (by first | rfl | (simp; done) | (simp [*]; done)), H', ⟨by have := HJ10.out; first | omega | exact Nat.le_refl _⟩, ⟨by (with_reducible repeat (first | apply Kd.R_alloc | apply Kd.R_drewN | apply Kd.R_drew)); exact HO_2.out⟩, ⟨by repeat (first | (with_reducible first | exact HB.out | apply below_alloc | apply pw_below_drewN | apply below_drew1) | exact HB.out)⟩⟩
       ·rw [if_neg c31] at H
        exact absurd H (by simp)
      ·rw [if_neg c30] at H
       have c30b0 : (t207 == 0) = false := beq_eq_false_iff_ne.mpr c30
       have c30b1 : (t207 != 0) = true := bne_iff_ne.mpr c30
       (first | rw [c30b0] | (simp only [i64_w, i32_w]; rw [c30b0]) | skip)
       have H' := Aside0.mk H
       clear H
       go_wp2
       go_meet
       case rel => exact ⟨_, (true), (by first | rfl | (simp; done) | (simp [*]; done)), H', ⟨by have := HJ10.out; first | omega | exact Nat.le_refl _⟩, ⟨by (with_reducible repeat (first | apply Kd.R_alloc | apply Kd.R_drewN | apply Kd.R_drew)); exact HO_2.out⟩, ⟨by repeat (first | (with_reducible first | exact HB.out | apply below_alloc | apply pw_below_drewN | apply below_drew1) | exact HB.out)⟩⟩
     case rest =>
      clear HC28
      try clear c1
      try clear c2
      try clear p2
      try clear c3
      try clear c5
      try clear c6
      try clear p6
      try clear c9
      try clear c9b0
      try clear c9b1
      try clear c16
      try clear c19
      try clear c20
      try clear c20b0
      try clear c20b1
      try clear c26
      try clear c30
      try clear c30b0
      try clear c30b1
      try clear c31
      try clear c31b0
      try clear c31b1
      try clear c31b2
      try clear p2
      obtain ⟨kq, x86_27, rfl, HA, HJ27, HO_2, HB⟩ := hcut
      cases kq with
      | zero => exact absurd HA.out (by simp [saltuslaw13_JournalBack.j1])
      | succ kj27 =>
       have H := HA.out
       clear HA
       simp only [saltuslaw13_JournalBack.j1] at H
       by_cases c34 : x86_27 = true
       ·subst c34
        have H1 : (some false) = some r := by rw [if_pos rfl] at H; exact H
        clear H
        have H := H1
        clear H1
        exact absurd ((Option.some.inj H).trans hr.out) (by decide)
       ·replace c34 := Bool.eq_false_iff.mpr c34
        subst c34
        have H1 : (if (wrap64 ((t195.size : Int) + 1)) = 0 then (none) else (saltuslaw13_JournalBack.l0 kj27 t190 t191 t192 (Int.tmod (wrap64 ((wrap64 ((Int.tmod a3 (wrap64 ((t195.size : Int) + 1))) + (t195.size : Int))) + 1)) (wrap64 ((t195.size : Int) + 1))) t195 0 0 t192 (t192.length : Int) 0)) = some r := by rw [if_neg (show ¬ (false = true) by decide)] at H; exact H
        clear H
        have H := H1
        clear H1
        by_cases c35 : (wrap64 ((t195.size : Int) + 1)) = 0
        ·rw [if_pos c35] at H
         exact absurd H (by simp)
        ·rw [if_neg c35] at H
         have c35b0 : ((wrap64 ((t195.size : Int) + 1)) == 0) = false := beq_eq_false_iff_ne.mpr c35
         have c35b1 : ((wrap64 ((t195.size : Int) + 1)) != 0) = true := bne_iff_ne.mpr c35
         have H' := Aside0.mk H
         clear H
         go_wp2
         go_loopg [17, 18, 102] kj27 (fun kq v17 v18 v102 w' => ∃ (x17_3 : Int) (x18_3 : Int) (x102_3 : Int), v17 = .int .i64 x17_3 ∧ v18 = .int .i64 x18_3 ∧ v102 = .int .i64 x102_3 ∧ Aside0 (saltuslaw13_JournalBack.l0 kq t190 t191 t192 (Int.tmod (wrap64 ((wrap64 ((Int.tmod a3 (wrap64 ((t195.size : Int) + 1))) + (t195.size : Int))) + 1)) (wrap64 ((t195.size : Int) + 1))) t195 x17_3 x18_3 t192 (t192.length : Int) x102_3 = some r) ∧ Aside0 (kq ≤ kj27) ∧ Aside0 (Kd.R Kd.string 9 w' w.heap.size (fun _ => True) (.slice Ao15 t192.length co15) t192) ∧ Aside0 (Kd.R Kd.string 9 w' w.heap.size (fun _ => True) (.slice Ao15 t192.length co15) t192) ∧ Aside0 (Below w.heap.size w w'))
         case atStart => exact ⟨(0), (0), (0), (by first | rfl | (simp; done) | (simp [*]; done)), (by first | rfl | (simp; done) | (simp [*]; done)), (by first | rfl | (simp; done) | (simp [*]; done)), H', ⟨Nat.le_refl _⟩, ⟨by (with_reducible repeat (first | apply Kd.R_alloc | apply Kd.R_drewN | apply Kd.R_drew)); exact HO_2.out⟩, ⟨by (with_reducible repeat (first | apply Kd.R_alloc | apply Kd.R_drewN | apply Kd.R_drew)); exact HO_2.out⟩, ⟨by repeat (first | (with_reducible first | exact HB.out | apply below_alloc | apply pw_below_drewN | apply below_drew1) | exact HB.out)⟩⟩
         case round =>
          clear H'
          try clear c1
          try clear c2
          try clear p2
          try clear c3
          try clear c5
          try clear c6
          try clear p6
          try clear c9
          try clear c9b0
          try clear c9b1
          try clear c16
          try clear c19
          try clear c20
          try clear c20b0
          try clear c20b1
          try clear c26
          try clear c30
          try clear c30b0
          try clear c30b1
          try clear c31
          try clear c31b0
          try clear c31b1
          try clear c31b2
          try clear c34
          try clear c35
          try clear c35b0
          try clear c35b1
          try clear p2
          try clear p6
          obtain ⟨x17_3, x18_3, x102_3, rfl, rfl, rfl, HA, HK3, HO_2, HO_100, HB⟩ := hrel
          cases gk with
          | zero => exact absurd HA.out (by simp [saltuslaw13_JournalBack.l0])
          | succ k3 =>
           have H := HA.out
           clear HA
           simp only [saltuslaw13_JournalBack.l0] at H
           by_cases c36 : x102_3 < (t192.length : Int)
           ·rw [if_pos c36] at H
            have c36b0 : decide (x102_3 < (t192.length : Int)) = true := decide_eq_true c36
            clear c36
            by_cases c37 : 0 ≤ x102_3
            ·rw [if_pos c37] at H
             have c37b0 : decide (0 ≤ x102_3) = true := decide_eq_true c37
             clear c37
             by_cases c38 : x102_3 < (t192.length : Int)
             ·rw [if_pos c38] at H
              have c38b0 : decide (x102_3 < (t192.length : Int)) = true := decide_eq_true c38
              clear c38
              by_cases c39 : (wrap64 ((wrap64 (x18_3 + ((rdOf ByteArray.empty t192 x102_3).size : Int))) + 10)) > (Int.tmod (wrap64 ((wrap64 ((Int.tmod a3 (wrap64 ((t195.size : Int) + 1))) + (t195.size : Int))) + 1)) (wrap64 ((t195.size : Int) + 1)))
              ·rw [if_pos c39] at H
               have c39b0 : decide ((Int.tmod (wrap64 ((wrap64 ((Int.tmod a3 (wrap64 ((t195.size : Int) + 1))) + (t195.size : Int))) + 1)) (wrap64 ((t195.size : Int) + 1))) < (wrap64 ((wrap64 (x18_3 + ((rdOf ByteArray.empty t192 x102_3).size : Int))) + 10))) = true := decide_eq_true c39
               clear c39
               obtain ⟨ji40, hji40⟩ : ∃ j_ : Int, (Int.tmod (wrap64 ((wrap64 ((Int.tmod a3 (wrap64 ((t195.size : Int) + 1))) + (t195.size : Int))) + 1)) (wrap64 ((t195.size : Int) + 1))) = j_ := ⟨_, rfl⟩
               replace H : (if 0 ≤ (ji40) then (if (ji40) ≤ (t195.size : Int) then ((journal_Scan.f t190 t191 (t195.extract 0 ((ji40) : Int).toNat)).bind fun bt210 => (if bt210.2.1 = x18_3 then (if 0 ≤ x17_3 then (if x17_3 ≤ (t192.length : Int) then ((saltusref04_Same.f k3 bt210.1 (t192.take (x17_3 : Int).toNat)).bind fun t219 => (if t219 = true then (if 0 ≤ bt210.2.1 then (if bt210.2.1 ≤ (t195.size : Int) then ((strings_HasPrefix.f t195 (t195.extract 0 (bt210.2.1 : Int).toNat)).bind fun t220 => (some t220)) else (none)) else (none)) else (some false))) else (none)) else (none)) else (some false))) else (none)) else (none)) = some r := by first | (rw [hji40] at H; exact H) | (simp only [hji40] at H ⊢; exact H)
               (try rw [hji40] at c39b0)
               by_cases c41 : 0 ≤ (ji40)
               ·rw [if_pos c41] at H
                have c41b0 := eq_true c41
                have c41b1 : decide (0 ≤ (ji40)) = true := decide_eq_true c41
                clear c41
                by_cases c42 : (ji40) ≤ (t195.size : Int)
                ·rw [if_pos c42] at H
                 have c42b0 := eq_true c42
                 have c42b1 : decide ((ji40) ≤ (t195.size : Int)) = true := decide_eq_true c42
                 clear c42
                 replace H := Option.bind_eq_some_iff.mp H
                 obtain ⟨⟨t210, t211, t212⟩, A430, H⟩ := H
                 (try dsimp only at H)
                 have A43 := Aside0.mk A430
                 clear A430
                 by_cases c44 : t211 = x18_3
                 ·rw [if_pos c44] at H
                  have c44b0 : (t211 == x18_3) = true := beq_iff_eq.mpr c44
                  have c44b1 : (t211 != x18_3) = false := bne_eq_false_iff_eq.mpr c44
                  clear c44
                  by_cases c45 : 0 ≤ x17_3
                  ·rw [if_pos c45] at H
                   have c45b0 := eq_true c45
                   have c45b1 : decide (0 ≤ x17_3) = true := decide_eq_true c45
                   clear c45
                   by_cases c46 : x17_3 ≤ (t192.length : Int)
                   ·rw [if_pos c46] at H
                    have c46b0 := eq_true c46
                    have c46b1 : decide (x17_3 ≤ (t192.length : Int)) = true := decide_eq_true c46
                    clear c46
                    obtain ⟨y215, hy215⟩ : ∃ y_ : List ByteArray, y_ = (t192.take (x17_3 : Int).toNat) := ⟨_, rfl⟩
                    replace H : ((saltusref04_Same.f k3 t210 y215).bind fun t219 => (if t219 = true then (if 0 ≤ t211 then (if t211 ≤ (t195.size : Int) then ((strings_HasPrefix.f t195 (t195.extract 0 (t211 : Int).toNat)).bind fun t220 => (some t220)) else (none)) else (none)) else (some false))) = some r := by first | (rw [hy215]; with_reducible exact H) | (have H2_ := (Option.bind_some _ _).symm.trans H; rw [hy215]; with_reducible exact H2_) | (have H2_ := (Option.bind_some _ _).symm.trans H; with_reducible exact H2_) | with_reducible exact H | (rw [hy215]; exact H) | exact H
                    have Ny215 := Aside0.mk hy215
                    clear hy215
                    replace H := Option.bind_eq_some_iff.mp H
                    obtain ⟨t219, A470, H⟩ := H
                    (try dsimp only at H)
                    have A47 := Aside0.mk A470
                    clear A470
                    by_cases c48 : t219 = true
                    ·subst c48
                     have H1 : (if 0 ≤ t211 then (if t211 ≤ (t195.size : Int) then ((strings_HasPrefix.f t195 (t195.extract 0 (t211 : Int).toNat)).bind fun t220 => (some t220)) else (none)) else (none)) = some r := by rw [if_pos rfl] at H; exact H
                     clear H
                     have H := H1
                     clear H1
                     by_cases c49 : 0 ≤ t211
                     ·rw [if_pos c49] at H
                      have c49b0 := eq_true c49
                      have c49b1 : decide (0 ≤ t211) = true := decide_eq_true c49
                      clear c49
                      by_cases c50 : t211 ≤ (t195.size : Int)
                      ·rw [if_pos c50] at H
                       have c50b0 := eq_true c50
                       have c50b1 : decide (t211 ≤ (t195.size : Int)) = true := decide_eq_true c50
                       clear c50
                       replace H := Option.bind_eq_some_iff.mp H
                       obtain ⟨t220, A510, H⟩ := H
                       (try dsimp only at H)
                       have A51 := Aside0.mk A510
                       clear A510
                       obtain rfl := Option.some.inj H
                       have p209 : 0 ≤ (x102_3 : Int) := of_decide_eq_true (by first | (with_reducible assumption) | assumption)
                       have q209 : x102_3 < (t192.length : Int) := of_decide_eq_true (by first | (with_reducible assumption) | assumption)
                       obtain ⟨ad209, e209, hx209_0⟩ := Kd.at_string (Kd.R_reads' HO_100.out).2.2 x102_3 p209 q209
                       cases e209
                       replace p209 := eq_true p209
                       replace q209 := eq_true q209
                       go_wp2_with (first | ((with_reducible refine gate_callee (f := 61) rfl ?_); refine goesL_ (some 127) rfl rfl Try.func61 (by kernel_rfl) rfl #[.string t190, .string t191, .string (t195.extract 0 ((ji40) : Int).toNat)] rfl (by (try simp only [List.map_toArray, List.map_cons, List.map_nil]); first | done | (simp only [hji40]; rfl) | rfl | (simp only [List.length_drop, List.length_take]; rfl)) ?_; (with_reducible refine (journal_Scan.calls t190 t191 (t195.extract 0 ((ji40) : Int).toNat) t210 t211 t212 _ A43.out).mono ?_); rintro e w52 ⟨v213, rfl, ho0, hb⟩; refine ⟨_, rfl, ?_⟩; have n0_ := Aside0.mk (Kd.R_elder' (by (with_reducible repeat (first | apply Kd.R_alloc | apply Kd.R_drewN | apply Kd.R_drew)); exact HO_2.out) (Kd.R_base ho0) hb); have n1_ := Aside0.mk (Kd.R_elder' (by (with_reducible repeat (first | apply Kd.R_alloc | apply Kd.R_drewN | apply Kd.R_drew)); exact HO_100.out) (Kd.R_base ho0) hb); have n2_ := Aside0.mk (Kd.R_lower (Kd.R_new' (Kd.R_new' ho0 (Kd.R_lt (by (with_reducible repeat (first | apply Kd.R_alloc | apply Kd.R_drewN | apply Kd.R_drew)); exact HO_2.out))) (Kd.R_lt (by (with_reducible repeat (first | apply Kd.R_alloc | apply Kd.R_drewN | apply Kd.R_drew)); exact HO_100.out))) (below_size (by repeat (first | (with_reducible first | exact HB.out | apply below_alloc | apply pw_below_drewN | apply below_drew1) | exact HB.out)))); have n3_ := Aside0.mk (below_step (by repeat (first | (with_reducible first | exact HB.out | apply below_alloc | apply pw_below_drewN | apply below_drew1) | exact HB.out)) hb); clear HO_2; clear HO_100; clear HB; have HO_2 := n0_; have HO_100 := n1_; have HO214 := n2_; have HB := n3_; clear n0_ n1_ n2_ n3_; (try clear hb); (try clear hb2); (try clear hk); (try clear hi); (try clear ho0); have q53 : (x17_3 : Int) ≤ ((t192.length : Int) : Int) := of_decide_eq_true (by first | (with_reducible assumption) | assumption); obtain ⟨i053, hi053, _, hsz53, _⟩ := info_parts info9; have hroom53 : t192.length ≤ co15 := (Kd.R_reads' HO_2.out).2.1; have hC53 : Kd.C Kd.string _ (some ad209) t192.length t192 := (Kd.R_reads' HO_2.out).2.2; have hcut53 := cut_to (P := Try.prog) 41 9 .i64 Try.underlying41 hi053 (some ad209) t192.length co15 x17_3 (of_decide_eq_true (by first | (with_reducible assumption) | assumption)) q53 hroom53; have hr53 := Kd.C_take (m := (x17_3 : Int).toNat) hC53 (by omega); have hy53 : y215.length = (x17_3 : Int).toNat := (by rw [Ny215.out, List.length_take]; omega); rw [← Ny215.out] at hr53; rw [← hy53] at hcut53; have HR218 := Aside0.mk hr53; have HC218 := Aside0.mk (show y215.length ≤ co15 from by omega); clear hr53 hC53 hroom53 hi053 hsz53; have KY53 := Aside0.mk hy53; clear hy53; have KL53 := Aside0.mk (show (x17_3 : Int).toNat ≤ t192.length from by omega); replace q53 := eq_true q53; obtain ⟨Ao54, co54, eo54⟩ := Kd.R_slice HO214.out; subst eo54) | (go_at_call 39; (with_reducible refine (saltusref04_Same.calls k3 _ _ t210 _ _ y215 true _ ?side1 ?side2 ?side3 ?side4 A47.out).mono ?_); (case side1 => repeat (first | exact (Kd.R_reads' HO214.out).2.2 | (with_reducible refine Kd.C_alloc ?_ _) | (with_reducible refine Kd.C_drewN ?_ _) | (with_reducible refine Kd.C_drew ?_))); (case side2 => exact (Kd.R_reads' HO214.out).2.1); (case side3 => repeat (first | exact (by repeat (first | (with_reducible exact HR218.out) | (with_reducible refine Kd.C_alloc ?_ _) | (with_reducible refine Kd.C_drewN ?_ _) | (with_reducible refine Kd.C_drew ?_) | exact HR218.out)) | (with_reducible refine Kd.C_alloc ?_ _) | (with_reducible refine Kd.C_drewN ?_ _) | (with_reducible refine Kd.C_drew ?_))); (case side4 => exact HC218.out); rintro e w' ⟨rfl, ⟨nd, rfl⟩⟩) | (go_at_call 28; (with_reducible refine (strings_HasPrefix.calls t195 (t195.extract 0 (t211 : Int).toNat) t220 _ A51.out).mono ?_); rintro e w' ⟨rfl, ⟨nd, rfl⟩⟩))
                       go_ret
                       exact ⟨by first | rfl | (simp [errW_none, errW_some] <;> rfl) | (simp only [← hji40]; first | rfl | (simp [errW_none, errW_some] <;> rfl)) | (simp [*, errW_none, errW_some] <;> rfl), by repeat (first | (with_reducible first | exact HB.out | apply below_alloc | apply pw_below_drewN | apply below_drew1) | exact HB.out)⟩
                      ·rw [if_neg c50] at H
                       exact absurd H (by simp)
                     ·rw [if_neg c49] at H
                      exact absurd H (by simp)
                    ·replace c48 := Bool.eq_false_iff.mpr c48
                     subst c48
                     have H1 : (some false) = some r := by rw [if_neg (show ¬ (false = true) by decide)] at H; exact H
                     clear H
                     have H := H1
                     clear H1
                     exact absurd ((Option.some.inj H).trans hr.out) (by decide)
                   ·rw [if_neg c46] at H
                    exact absurd H (by simp)
                  ·rw [if_neg c45] at H
                   exact absurd H (by simp)
                 ·rw [if_neg c44] at H
                  have c44b0 : (t211 == x18_3) = false := beq_eq_false_iff_ne.mpr c44
                  have c44b1 : (t211 != x18_3) = true := bne_iff_ne.mpr c44
                  exact absurd ((Option.some.inj H).trans hr.out) (by decide)
                ·rw [if_neg c42] at H
                 exact absurd H (by simp)
               ·rw [if_neg c41] at H
                exact absurd H (by simp)
              ·rw [if_neg c39] at H
               have c39b0 : decide ((Int.tmod (wrap64 ((wrap64 ((Int.tmod a3 (wrap64 ((t195.size : Int) + 1))) + (t195.size : Int))) + 1)) (wrap64 ((t195.size : Int) + 1))) < (wrap64 ((wrap64 (x18_3 + ((rdOf ByteArray.empty t192 x102_3).size : Int))) + 10))) = false := decide_eq_false c39
               clear c39
               have H' := Aside0.mk H
               clear H
               have p209 : 0 ≤ (x102_3 : Int) := of_decide_eq_true (by first | (with_reducible assumption) | assumption)
               have q209 : x102_3 < (t192.length : Int) := of_decide_eq_true (by first | (with_reducible assumption) | assumption)
               obtain ⟨ad209, e209, hx209_0⟩ := Kd.at_string (Kd.R_reads' HO_100.out).2.2 x102_3 p209 q209
               cases e209
               replace p209 := eq_true p209
               replace q209 := eq_true q209
               go_wp2
               go_roundg k3
               case measure => have := HJ10.out; have := HJ27.out; have := HK3.out; omega
               case rel => exact ⟨(wrap64 (x17_3 + 1)), (wrap64 ((wrap64 (x18_3 + ((rdOf ByteArray.empty t192 x102_3).size : Int))) + 10)), (wrap64 (x102_3 + 1)), (by first | rfl | (simp; done) | (simp [*]; done)), (by first | rfl | (simp; done) | (simp [*]; done)), (by first | rfl | (simp; done) | (simp [*]; done)), H', ⟨by have := HJ10.out; have := HJ27.out; have := HK3.out; omega⟩, ⟨by (with_reducible repeat (first | apply Kd.R_alloc | apply Kd.R_drewN | apply Kd.R_drew)); exact HO_2.out⟩, ⟨by (with_reducible repeat (first | apply Kd.R_alloc | apply Kd.R_drewN | apply Kd.R_drew)); exact HO_100.out⟩, ⟨by repeat (first | (with_reducible first | exact HB.out | apply below_alloc | apply pw_below_drewN | apply below_drew1) | exact HB.out)⟩⟩
             ·rw [if_neg c38] at H
              exact absurd H (by simp)
            ·rw [if_neg c37] at H
             exact absurd H (by simp)
           ·rw [if_neg c36] at H
            have c36b0 : decide (x102_3 < (t192.length : Int)) = false := decide_eq_false c36
            clear c36
            obtain ⟨ji55, hji55⟩ : ∃ j_ : Int, (Int.tmod (wrap64 ((wrap64 ((Int.tmod a3 (wrap64 ((t195.size : Int) + 1))) + (t195.size : Int))) + 1)) (wrap64 ((t195.size : Int) + 1))) = j_ := ⟨_, rfl⟩
            replace H : (if 0 ≤ (ji55) then (if (ji55) ≤ (t195.size : Int) then ((journal_Scan.f t190 t191 (t195.extract 0 ((ji55) : Int).toNat)).bind fun bt221 => (if bt221.2.1 = x18_3 then (if 0 ≤ x17_3 then (if x17_3 ≤ (t192.length : Int) then ((saltusref04_Same.f k3 bt221.1 (t192.take (x17_3 : Int).toNat)).bind fun t230 => (if t230 = true then (if 0 ≤ bt221.2.1 then (if bt221.2.1 ≤ (t195.size : Int) then ((strings_HasPrefix.f t195 (t195.extract 0 (bt221.2.1 : Int).toNat)).bind fun t231 => (some t231)) else (none)) else (none)) else (some false))) else (none)) else (none)) else (some false))) else (none)) else (none)) = some r := by first | (rw [hji55] at H; exact H) | (simp only [hji55] at H ⊢; exact H)
            by_cases c56 : 0 ≤ (ji55)
            ·rw [if_pos c56] at H
             have c56b0 := eq_true c56
             have c56b1 : decide (0 ≤ (ji55)) = true := decide_eq_true c56
             clear c56
             by_cases c57 : (ji55) ≤ (t195.size : Int)
             ·rw [if_pos c57] at H
              have c57b0 := eq_true c57
              have c57b1 : decide ((ji55) ≤ (t195.size : Int)) = true := decide_eq_true c57
              clear c57
              replace H := Option.bind_eq_some_iff.mp H
              obtain ⟨⟨t221, t222, t223⟩, A580, H⟩ := H
              (try dsimp only at H)
              have A58 := Aside0.mk A580
              clear A580
              by_cases c59 : t222 = x18_3
              ·rw [if_pos c59] at H
               have c59b0 : (t222 == x18_3) = true := beq_iff_eq.mpr c59
               have c59b1 : (t222 != x18_3) = false := bne_eq_false_iff_eq.mpr c59
               clear c59
               by_cases c60 : 0 ≤ x17_3
               ·rw [if_pos c60] at H
                have c60b0 := eq_true c60
                have c60b1 : decide (0 ≤ x17_3) = true := decide_eq_true c60
                clear c60
                by_cases c61 : x17_3 ≤ (t192.length : Int)
                ·rw [if_pos c61] at H
                 have c61b0 := eq_true c61
                 have c61b1 : decide (x17_3 ≤ (t192.length : Int)) = true := decide_eq_true c61
                 clear c61
                 obtain ⟨y226, hy226⟩ : ∃ y_ : List ByteArray, y_ = (t192.take (x17_3 : Int).toNat) := ⟨_, rfl⟩
                 replace H : ((saltusref04_Same.f k3 t221 y226).bind fun t230 => (if t230 = true then (if 0 ≤ t222 then (if t222 ≤ (t195.size : Int) then ((strings_HasPrefix.f t195 (t195.extract 0 (t222 : Int).toNat)).bind fun t231 => (some t231)) else (none)) else (none)) else (some false))) = some r := by first | (rw [hy226]; with_reducible exact H) | (have H2_ := (Option.bind_some _ _).symm.trans H; rw [hy226]; with_reducible exact H2_) | (have H2_ := (Option.bind_some _ _).symm.trans H; with_reducible exact H2_) | with_reducible exact H | (rw [hy226]; exact H) | exact H
                 have Ny226 := Aside0.mk hy226
                 clear hy226
                 replace H := Option.bind_eq_some_iff.mp H
                 obtain ⟨t230, A620, H⟩ := H
                 (try dsimp only at H)
                 have A62 := Aside0.mk A620
                 clear A620
                 by_cases c63 : t230 = true
                 ·subst c63
                  have H1 : (if 0 ≤ t222 then (if t222 ≤ (t195.size : Int) then ((strings_HasPrefix.f t195 (t195.extract 0 (t222 : Int).toNat)).bind fun t231 => (some t231)) else (none)) else (none)) = some r := by rw [if_pos rfl] at H; exact H
                  clear H
                  have H := H1
                  clear H1
                  by_cases c64 : 0 ≤ t222
                  ·rw [if_pos c64] at H
                   have c64b0 := eq_true c64
                   have c64b1 : decide (0 ≤ t222) = true := decide_eq_true c64
                   clear c64
                   by_cases c65 : t222 ≤ (t195.size : Int)
                   ·rw [if_pos c65] at H
                    have c65b0 := eq_true c65
                    have c65b1 : decide (t222 ≤ (t195.size : Int)) = true := decide_eq_true c65
                    clear c65
                    replace H := Option.bind_eq_some_iff.mp H
                    obtain ⟨t231, A660, H⟩ := H
                    (try dsimp only at H)
                    have A66 := Aside0.mk A660
                    clear A660
                    obtain rfl := Option.some.inj H
                    go_wp2_with (first | ((with_reducible refine gate_callee (f := 61) rfl ?_); refine goesL_ (some 127) rfl rfl Try.func61 (by kernel_rfl) rfl #[.string t190, .string t191, .string (t195.extract 0 ((ji55) : Int).toNat)] rfl (by (try simp only [List.map_toArray, List.map_cons, List.map_nil]); first | done | (simp only [hji55]; rfl) | rfl | (simp only [List.length_drop, List.length_take]; rfl)) ?_; (with_reducible refine (journal_Scan.calls t190 t191 (t195.extract 0 ((ji55) : Int).toNat) t221 t222 t223 _ A58.out).mono ?_); rintro e w67 ⟨v224, rfl, ho0, hb⟩; refine ⟨_, rfl, ?_⟩; have n0_ := Aside0.mk (Kd.R_elder' (by (with_reducible repeat (first | apply Kd.R_alloc | apply Kd.R_drewN | apply Kd.R_drew)); exact HO_2.out) (Kd.R_base ho0) hb); have n1_ := Aside0.mk (Kd.R_elder' (by (with_reducible repeat (first | apply Kd.R_alloc | apply Kd.R_drewN | apply Kd.R_drew)); exact HO_100.out) (Kd.R_base ho0) hb); have n2_ := Aside0.mk (Kd.R_lower (Kd.R_new' (Kd.R_new' ho0 (Kd.R_lt (by (with_reducible repeat (first | apply Kd.R_alloc | apply Kd.R_drewN | apply Kd.R_drew)); exact HO_2.out))) (Kd.R_lt (by (with_reducible repeat (first | apply Kd.R_alloc | apply Kd.R_drewN | apply Kd.R_drew)); exact HO_100.out))) (below_size (by repeat (first | (with_reducible first | exact HB.out | apply below_alloc | apply pw_below_drewN | apply below_drew1) | exact HB.out)))); have n3_ := Aside0.mk (below_step (by repeat (first | (with_reducible first | exact HB.out | apply below_alloc | apply pw_below_drewN | apply below_drew1) | exact HB.out)) hb); clear HO_2; clear HO_100; clear HB; have HO_2 := n0_; have HO_100 := n1_; have HO225 := n2_; have HB := n3_; clear n0_ n1_ n2_ n3_; (try clear hb); (try clear hb2); (try clear hk); (try clear hi); (try clear ho0); have q68 : (x17_3 : Int) ≤ ((t192.length : Int) : Int) := of_decide_eq_true (by first | (with_reducible assumption) | assumption); obtain ⟨i068, hi068, _, hsz68, _⟩ := info_parts info9; have hroom68 : t192.length ≤ co15 := (Kd.R_reads' HO_2.out).2.1; have hC68 : Kd.C Kd.string _ Ao15 t192.length t192 := (Kd.R_reads' HO_2.out).2.2; have hcut68 := cut_to (P := Try.prog) 41 9 .i64 Try.underlying41 hi068 Ao15 t192.length co15 x17_3 (of_decide_eq_true (by first | (with_reducible assumption) | assumption)) q68 hroom68; have hr68 := Kd.C_take (m := (x17_3 : Int).toNat) hC68 (by omega); have hy68 : y226.length = (x17_3 : Int).toNat := (by rw [Ny226.out, List.length_take]; omega); rw [← Ny226.out] at hr68; rw [← hy68] at hcut68; have HR229 := Aside0.mk hr68; have HC229 := Aside0.mk (show y226.length ≤ co15 from by omega); clear hr68 hC68 hroom68 hi068 hsz68; have KY68 := Aside0.mk hy68; clear hy68; have KL68 := Aside0.mk (show (x17_3 : Int).toNat ≤ t192.length from by omega); replace q68 := eq_true q68; obtain ⟨Ao69, co69, eo69⟩ := Kd.R_slice HO225.out; subst eo69) | (go_at_call 39; (with_reducible refine (saltusref04_Same.calls k3 _ _ t221 _ _ y226 true _ ?side1 ?side2 ?side3 ?side4 A62.out).mono ?_); (case side1 => repeat (first | exact (Kd.R_reads' HO225.out).2.2 | (with_reducible refine Kd.C_alloc ?_ _) | (with_reducible refine Kd.C_drewN ?_ _) | (with_reducible refine Kd.C_drew ?_))); (case side2 => exact (Kd.R_reads' HO225.out).2.1); (case side3 => repeat (first | exact (by repeat (first | (with_reducible exact HR229.out) | (with_reducible refine Kd.C_alloc ?_ _) | (with_reducible refine Kd.C_drewN ?_ _) | (with_reducible refine Kd.C_drew ?_) | exact HR229.out)) | (with_reducible refine Kd.C_alloc ?_ _) | (with_reducible refine Kd.C_drewN ?_ _) | (with_reducible refine Kd.C_drew ?_))); (case side4 => exact HC229.out); rintro e w' ⟨rfl, ⟨nd, rfl⟩⟩) | (go_at_call 28; (with_reducible refine (strings_HasPrefix.calls t195 (t195.extract 0 (t222 : Int).toNat) t231 _ A66.out).mono ?_); rintro e w' ⟨rfl, ⟨nd, rfl⟩⟩))
                    go_ret
                    exact ⟨by first | rfl | (simp [errW_none, errW_some] <;> rfl) | (simp only [← hji55]; first | rfl | (simp [errW_none, errW_some] <;> rfl)) | (simp [*, errW_none, errW_some] <;> rfl), by repeat (first | (with_reducible first | exact HB.out | apply below_alloc | apply pw_below_drewN | apply below_drew1) | exact HB.out)⟩
                   ·rw [if_neg c65] at H
                    exact absurd H (by simp)
                  ·rw [if_neg c64] at H
                   exact absurd H (by simp)
                 ·replace c63 := Bool.eq_false_iff.mpr c63
                  subst c63
                  have H1 : (some false) = some r := by rw [if_neg (show ¬ (false = true) by decide)] at H; exact H
                  clear H
                  have H := H1
                  clear H1
                  exact absurd ((Option.some.inj H).trans hr.out) (by decide)
                ·rw [if_neg c61] at H
                 exact absurd H (by simp)
               ·rw [if_neg c60] at H
                exact absurd H (by simp)
              ·rw [if_neg c59] at H
               have c59b0 : (t222 == x18_3) = false := beq_eq_false_iff_ne.mpr c59
               have c59b1 : (t222 != x18_3) = true := bne_iff_ne.mpr c59
               exact absurd ((Option.some.inj H).trans hr.out) (by decide)
             ·rw [if_neg c57] at H
              exact absurd H (by simp)
            ·rw [if_neg c56] at H
             exact absurd H (by simp)
 ·rw [if_neg c9] at H
  have c9b0 : (t196 == 0) = false := beq_eq_false_iff_ne.mpr c9
  have c9b1 : (t196 != 0) = true := bne_iff_ne.mpr c9
  replace H := Option.bind_eq_some_iff.mp H
  obtain ⟨t197, A700, H⟩ := H
  (try dsimp only at H)
  have A70 := Aside0.mk A700
  clear A700
  by_cases c71 : t197 = true
  ·subst c71
   have H1 : (some (t195.toList == ([] : List UInt8))) = some r := by rw [if_pos rfl] at H; exact H
   clear H
   have H := H1
   clear H1
   obtain rfl := Option.some.inj H
   go_enter Try.func16, Try.ntmps16
   go_wp2_with (first | ((with_reducible refine gate_callee (f := 51) rfl ?_); refine goesL_ (some 25) rfl rfl Try.func51 (by kernel_rfl) rfl #[.string a0] rfl (by (try simp only [List.map_toArray, List.map_cons, List.map_nil]); first | done | rfl | (simp only [List.length_drop, List.length_take]; rfl)) ?_; (with_reducible refine (saltuslaw13_cut.calls a0 t190 _ A5.out).mono ?_); rintro e w72 ⟨rfl, hb⟩; refine ⟨_, rfl, ?_⟩; have n0_ := Aside0.mk (below_step (by repeat (first | (with_reducible first | exact HB.out | apply below_alloc | apply pw_below_drewN | apply below_drew1) | exact HB.out)) hb); clear HB; have HB := n0_; clear n0_; (try clear hb); (try clear hb2); (try clear hk); (try clear hi)) | ((with_reducible refine gate_callee (f := 51) rfl ?_); refine goesL_ (some 27) rfl rfl Try.func51 (by kernel_rfl) rfl #[.string a1] rfl (by (try simp only [List.map_toArray, List.map_cons, List.map_nil]); first | done | rfl | (simp only [List.length_drop, List.length_take]; rfl)) ?_; (with_reducible refine (saltuslaw13_cut.calls a1 t191 _ A6.out).mono ?_); rintro e w73 ⟨rfl, hb⟩; refine ⟨_, rfl, ?_⟩; have n0_ := Aside0.mk (below_step (by repeat (first | (with_reducible first | exact HB.out | apply below_alloc | apply pw_below_drewN | apply below_drew1) | exact HB.out)) hb); clear HB; have HB := n0_; clear n0_; (try clear hb); (try clear hb2); (try clear hk); (try clear hi)) | ((with_reducible refine gate_callee (f := 52) rfl ?_); refine goesL_ (some 29) rfl rfl Try.func52 (by kernel_rfl) rfl #[.slice A2 l2.length c2] rfl (by (try simp only [List.map_toArray, List.map_cons, List.map_nil]); first | done | rfl | (simp only [List.length_drop, List.length_take]; rfl)) ?_; (with_reducible refine (saltuslaw13_few.calls k _ _ l2 t192 _ ?side1 ?side2 A7.out).mono ?_); (case side1 => repeat (first | exact (Kd.C_below HR2.out HB.out) | (with_reducible refine Kd.C_alloc ?_ _) | (with_reducible refine Kd.C_drewN ?_ _) | (with_reducible refine Kd.C_drew ?_))); (case side2 => exact HC2.out); rintro e w74 ⟨v193, rfl, ho0, hb⟩; refine ⟨_, rfl, ?_⟩; have n0_ := Aside0.mk (Kd.R_lower ho0 (below_size (by repeat (first | (with_reducible first | exact HB.out | apply below_alloc | apply pw_below_drewN | apply below_drew1) | exact HB.out)))); have n1_ := Aside0.mk (below_step (by repeat (first | (with_reducible first | exact HB.out | apply below_alloc | apply pw_below_drewN | apply below_drew1) | exact HB.out)) hb); clear HB; have HO194 := n0_; have HB := n1_; clear n0_ n1_; (try clear hb); (try clear hb2); (try clear hk); (try clear hi); (try clear ho0); obtain ⟨Ao75, co75, eo75⟩ := Kd.R_slice HO194.out; subst eo75) | ((with_reducible refine gate_callee (f := 53) rfl ?_); refine goesL_ (some 34) rfl rfl Try.func53 (by kernel_rfl) rfl #[.string t190, .string t191, .slice Ao75 t192.length co75] rfl (by (try simp only [List.map_toArray, List.map_cons, List.map_nil]); first | done | rfl | (simp only [List.length_drop, List.length_take]; rfl)) ?_; (with_reducible refine (journal_Write.calls t190 t191 _ _ t192 t195 t196 _ ?side1 ?side2 A8.out).mono ?_); (case side1 => repeat (first | exact (Kd.R_reads' HO194.out).2.2 | (with_reducible refine Kd.C_alloc ?_ _) | (with_reducible refine Kd.C_drewN ?_ _) | (with_reducible refine Kd.C_drew ?_))); (case side2 => exact (Kd.R_reads' HO194.out).2.1); rintro e w76 ⟨rfl, hb⟩; refine ⟨_, rfl, ?_⟩; have n0_ := Aside0.mk (Kd.R_below (by (with_reducible repeat (first | apply Kd.R_alloc | apply Kd.R_drewN | apply Kd.R_drew)); exact HO194.out) hb); have n1_ := Aside0.mk (below_step (by repeat (first | (with_reducible first | exact HB.out | apply below_alloc | apply pw_below_drewN | apply below_drew1) | exact HB.out)) hb); clear HO194; clear HB; have HO194 := n0_; have HB := n1_; clear n0_ n1_; (try clear hb); (try clear hb2); (try clear hk); (try clear hi)) | ((with_reducible refine gate_callee (f := 55) rfl ?_); refine goesL_ (some 39) rfl rfl Try.func55 (by kernel_rfl) rfl #[] rfl (by (try simp only [List.map_toArray, List.map_cons, List.map_nil]); first | done | rfl | (simp only [List.length_drop, List.length_take]; rfl)) ?_; (with_reducible refine (saltuslaw13_alive.calls k  true _ A70.out).mono ?_); rintro e w77 ⟨rfl, hb⟩; refine ⟨_, rfl, ?_⟩; have n0_ := Aside0.mk (Kd.R_below (by (with_reducible repeat (first | apply Kd.R_alloc | apply Kd.R_drewN | apply Kd.R_drew)); exact HO194.out) hb); have n1_ := Aside0.mk (below_step (by repeat (first | (with_reducible first | exact HB.out | apply below_alloc | apply pw_below_drewN | apply below_drew1) | exact HB.out)) hb); clear HO194; clear HB; have HO194 := n0_; have HB := n1_; clear n0_ n1_; (try clear hb); (try clear hb2); (try clear hk); (try clear hi)))
   go_ret
   exact ⟨by first | rfl | (simp [errW_none, errW_some] <;> rfl) | (simp [*, errW_none, errW_some] <;> rfl), by repeat (first | (with_reducible first | exact HB.out | apply below_alloc | apply pw_below_drewN | apply below_drew1) | exact HB.out)⟩
  ·replace c71 := Bool.eq_false_iff.mpr c71
   subst c71
   have H1 : (some false) = some r := by rw [if_neg (show ¬ (false = true) by decide)] at H; exact H
   clear H
   have H := H1
   clear H1
   exact absurd ((Option.some.inj H).trans hr.out) (by decide)
/-! ### journal_Whole: function 64 -/
end Go.Proofs.Ytolbhliepkcihaa.QJN
end
section
namespace Go.Proofs.Ytolbhliepkcihaa.Pure
open Go.RowKit Go.Proofs.Ytolbhliepkcihaa.QJN Go.Proofs.YtolbhliepkcihaaW.PrintWords Go.Proofs.YtolbhliepkcihaaW.PrintLast Go.Proofs.YtolbhliepkcihaaW.PrintMore Go.Proofs.Ytolbhliepkcihaa.Sha Go.Proofs.Ytolbhliepkcihaa.Mac Go.Proofs.Ytolbhliepkcihaa.Trust Go.Proofs.Ytolbhliepkcihaa.Codec Go.Proofs.Ytolbhliepkcihaa.Jour
def manyN : List ByteArray → Nat → Nat
 | [], _ => 0
 | s :: r, k => if s.size + 10 ≤ k then manyN r (k - (s.size + 10)) + 1 else 0
def endN : List ByteArray → Nat → Nat
 | [], _ => 0
 | s :: r, k => if s.size + 10 ≤ k then s.size + 10 + endN r (k - (s.size + 10)) else 0
theorem many_le : ∀ (l : List ByteArray) (k : Nat), manyN l k ≤ l.length
 | [], _ => Nat.zero_le _
 | s :: r, k => by
  unfold manyN
  split
  ·have := many_le r (k - (s.size + 10)); rw [List.length_cons]; omega
  ·exact Nat.zero_le _
theorem end_le : ∀ (l : List ByteArray) (k : Nat), endN l k ≤ k
 | [], _ => Nat.zero_le _
 | s :: r, k => by
  unfold endN
  split
  ·have := end_le r (k - (s.size + 10)); omega
  ·exact Nat.zero_le _
theorem scan_cut (key : ByteArray) : ∀ (l : List ByteArray) (last k : Nat), (∀ s, s ∈ l → s.size ≤ 4096) → k ≤ (wrS key last l).size →
  (scanL key last ((wrS key last l).extract 0 k)).map Prod.fst = l.take (manyN l k) ∧ endX (scanL key last ((wrS key last l).extract 0 k)) = endN l k
 | [], last, k, _, h => by
  have : ((wrS key last []).extract 0 k).size = 0 := by rw [ByteArray.size_extract]; show min k 0 - 0 = 0; omega
  have e : scanL key last ((wrS key last []).extract 0 k) = [] := scanL_none (by unfold oneJ; rw [if_neg (by omega)])
  rw [e]
  exact ⟨rfl, rfl⟩
 | s :: r, last, k, hs, h => by
  have hz : (recS key last s).size = s.size + 10 := recS_size key last s
  have hsz := hs s List.mem_cons_self
  have hW : wrS key last (s :: r) = recS key last s ++ wrS key (nextN key last s) r := rfl
  rw [hW] at h ⊢
  rw [ByteArray.size_append, hz] at h
  by_cases hk : s.size + 10 ≤ k
  ·have e1 : (recS key last s ++ wrS key (nextN key last s) r).extract 0 k = recS key last s ++ (wrS key (nextN key last s) r).extract 0 (k - (s.size + 10)) := by
    apply ext_l
    rw [xl, app_l, app_l, xl, List.drop_zero, List.drop_zero, List.take_append, List.take_of_length_le (by rw [len_l]; omega), len_l, hz]
    rfl
   have h2 : k - (s.size + 10) ≤ (wrS key (nextN key last s) r).size := by omega
   obtain ⟨q1, q2⟩ := scan_cut key r (nextN key last s) (k - (s.size + 10)) (fun t ht => hs t (List.mem_cons_of_mem _ ht)) h2
   rw [e1, scanL_some (one_rec key last s _ hsz), suf_ext _ _ _ _ hz rfl]
   unfold manyN endN
   rw [if_pos hk, if_pos hk, List.take_succ_cons, List.map_cons, q1]
   refine ⟨rfl, ?_⟩
   show s.size + 10 + endX _ = _
   rw [q2]
  ·rw [scanL_none (one_short key last s _ hsz k (by omega))]
   unfold manyN endN
   rw [if_neg hk, if_neg hk]
   exact ⟨rfl, rfl⟩
theorem pre_f (a : ByteArray) (n : Nat) (h : n ≤ a.size) : strings_HasPrefix.f a (a.extract 0 n) = some true := by
 have hz : (a.extract 0 n).size = n := by rw [ByteArray.size_extract]; omega
 unfold strings_HasPrefix.f stringslite_HasPrefix.f
 rw [hz, if_pos (by omega), if_pos (by omega), if_pos (by omega), Option.bind_some, Int.toNat_natCast]
 simp
theorem fin_f (c0 c1 : ByteArray) (h0 : c0.size ≤ 80) (h1 : c1.size ≤ 80) (l : List ByteArray) (hl : l.length ≤ 8) (hs : ∀ s, s ∈ l → s.size ≤ 4096) (k : Nat) (x : ByteArray) (hx : wrS c0 (wordN c0 c1) l = x) (hk : k ≤ x.size) (f : Nat) (hf : 9 < f) :
  (if (0 : Int) ≤ (k : Int) then (if (k : Int) ≤ (x.size : Int) then ((journal_Scan.f c0 c1 (x.extract 0 (k : Int).toNat)).bind fun bt210 => (if bt210.2.1 = ((endN l k : Nat) : Int) then (if 0 ≤ ((manyN l k : Nat) : Int) then (if ((manyN l k : Nat) : Int) ≤ (l.length : Int) then ((saltusref04_Same.f f bt210.1 (l.take ((manyN l k : Nat) : Int).toNat)).bind fun t219 => (if t219 = true then (if 0 ≤ bt210.2.1 then (if bt210.2.1 ≤ (x.size : Int) then ((strings_HasPrefix.f x (x.extract 0 (bt210.2.1 : Int).toNat)).bind fun t220 => (some t220)) else (none)) else (none)) else (some false))) else (none)) else (none)) else (some false))) else (none)) else (none)) = some true := by
 have hz := wrS_size c0 l (wordN c0 c1) hs
 rw [hx] at hz
 have hz2 : (x.extract 0 k).size = k := by rw [ByteArray.size_extract]; omega
 have hm := many_le l k
 have he := end_le l k
 obtain ⟨q1, q2⟩ := scan_cut c0 l (wordN c0 c1) k hs (by rw [hx]; exact hk)
 rw [hx] at q1 q2
 have ht : (l.take (manyN l k)).length ≤ 8 := by rw [List.length_take]; omega
 rw [if_pos (by omega), if_pos (by omega), Int.toNat_natCast]
 unfold journal_Scan.f
 rw [if_pos ⟨by omega, by omega, by omega⟩, Option.bind_some, q1, q2]
 dsimp only
 rw [if_pos rfl, if_pos (by omega), if_pos (by omega), Int.toNat_natCast, same_f _ f (by omega) (by omega), Option.bind_some, if_pos rfl, if_pos (by omega), if_pos (by omega), Int.toNat_natCast, pre_f x _ (by omega)]
 rfl
theorem many_ge (s : ByteArray) (r : List ByteArray) (k : Nat) (h : s.size + 10 ≤ k) : manyN (s :: r) k = manyN r (k - (s.size + 10)) + 1 ∧ endN (s :: r) k = s.size + 10 + endN r (k - (s.size + 10)) := by
 rw [manyN, endN, if_pos h, if_pos h]
 exact ⟨rfl, rfl⟩
theorem many_nil (k : Nat) : manyN [] k = 0 ∧ endN [] k = 0 := ⟨rfl, rfl⟩
theorem many_lt (s : ByteArray) (r : List ByteArray) (k : Nat) (h : ¬s.size + 10 ≤ k) : manyN (s :: r) k = 0 ∧ endN (s :: r) k = 0 := by
 rw [manyN, endN, if_neg h, if_neg h]
 exact ⟨rfl, rfl⟩
theorem bk_add {e K X z : Nat} (he : e ≤ K) (hk : K ≤ X) (hx : X ≤ 40000) (hz : z ≤ 4096) : wrap64 ((e : Int) + (z : Int)) = ((e + z : Nat) : Int) ∧ wrap64 (((e + z : Nat) : Int) + 10) = ((e + z + 10 : Nat) : Int) := ⟨wadd e z (by omega), wadd (e + z) 10 (by omega)⟩
theorem bk_sub {e z K : Nat} (hc : e + z + 10 ≤ K) : z + 10 ≤ K - e ∧ K - e - (z + 10) = K - (e + z + 10) := ⟨by omega, by omega⟩
theorem bk_not {e z K : Nat} (he : e ≤ K) (hc : ¬e + z + 10 ≤ K) : ¬z + 10 ≤ K - e := by omega
theorem bk_one {M i q : Nat} (h : M = i + (q + 1)) : M = i + 1 + q := by omega
theorem bk_two {M e z q : Nat} (h : M = e + (z + 10 + q)) : M = e + z + 10 + q := by omega
theorem back_step (l : List ByteArray) (s : ByteArray) (d : List ByteArray) (K e i : Nat) (hc : e + s.size + 10 ≤ K) (hm : manyN l K = i + manyN (s :: d) (K - e)) (hn : endN l K = e + endN (s :: d) (K - e)) :
  manyN l K = i + 1 + manyN d (K - (e + s.size + 10)) ∧ endN l K = e + s.size + 10 + endN d (K - (e + s.size + 10)) := by
 rw [(many_ge s d (K - e) (bk_sub hc).1).1, (bk_sub hc).2] at hm
 rw [(many_ge s d (K - e) (bk_sub hc).1).2, (bk_sub hc).2] at hn
 exact ⟨bk_one hm, bk_two hn⟩
theorem back_end (l : List ByteArray) (s : ByteArray) (d : List ByteArray) (K e i : Nat) (he : e ≤ K) (hc : ¬e + s.size + 10 ≤ K) (hm : manyN l K = i + manyN (s :: d) (K - e)) (hn : endN l K = e + endN (s :: d) (K - e)) :
  manyN l K = i ∧ endN l K = e := by
 rw [(many_lt s d (K - e) (bk_not he hc)).1] at hm
 rw [(many_lt s d (K - e) (bk_not he hc)).2] at hn
 exact ⟨hm, hn⟩
theorem back_nil (l : List ByteArray) (d : List ByteArray) (K e i : Nat) (hd : d = []) (hm : manyN l K = i + manyN d (K - e)) (hn : endN l K = e + endN d (K - e)) :
  manyN l K = i ∧ endN l K = e := by
 rw [hd, (many_nil _).1] at hm
 rw [hd, (many_nil _).2] at hn
 exact ⟨hm, hn⟩
structure Hd (p : Prop) : Prop where out : p
theorem back_l (c0 c1 : ByteArray) (l : List ByteArray) (hs : ∀ s, s ∈ l → s.size ≤ 4096) (K : Nat) (x : ByteArray) (hk : K ≤ x.size) (hxz : x.size ≤ 40000) (hl : l.length ≤ 8) :
  ∀ (f i e : Nat), l.length - i + 10 < f → i ≤ l.length → e ≤ K → Hd (manyN l K = i + manyN (l.drop i) (K - e)) → Hd (endN l K = e + endN (l.drop i) (K - e)) →
   (h0 : c0.size ≤ 80) → (h1 : c1.size ≤ 80) → (hx : Hd (wrS c0 (wordN c0 c1) l = x)) →
   saltuslaw13_JournalBack.l0 f c0 c1 l (K : Int) x (i : Int) (e : Int) l (l.length : Int) (i : Int) = some true := by
 intro f
 induction f with
 | zero => intro i e h; omega
 | succ f ih =>
  intro i e h hi he HM HN h0 h1 hx
  unfold saltuslaw13_JournalBack.l0
  by_cases hlt : i < l.length
  ·have e2 : wrap64 ((i : Int) + 1) = ((i + 1 : Nat) : Int) := wadd i 1 (by omega)
   have hz := hs _ (List.getElem_mem hlt)
   rw [List.drop_eq_getElem_cons hlt] at HM HN
   rw [if_pos (by omega), if_pos (by omega), if_pos (by omega), rd_at l i hlt]
   generalize l[i] = s at *
   obtain ⟨w1, w2⟩ := bk_add he hk hxz hz
   rw [w1, w2, e2]
   clear w1 w2 e2
   by_cases hc : e + s.size + 10 ≤ K
   ·obtain ⟨m1, m2⟩ := back_step l s _ K e i hc HM.out HN.out
    have m1 := Hd.mk m1
    have m2 := Hd.mk m2
    clear HM HN
    rw [if_neg (by omega)]
    exact ih (i + 1) (e + s.size + 10) (by omega) (by omega) hc m1 m2 h0 h1 hx
   ·have hfin := fin_f c0 c1 h0 h1 l hl hs K x hx.out hk f (by omega)
    obtain ⟨m1, m2⟩ := back_end l s _ K e i he hc HM.out HN.out
    rw [m1, m2] at hfin
    clear m1 m2 HM HN
    rw [if_pos (by omega)]
    exact hfin
  ·have hfin := fin_f c0 c1 h0 h1 l hl hs K x hx.out hk f (by omega)
   obtain ⟨m1, m2⟩ := back_nil l _ K e i (List.drop_eq_nil_of_le (by omega)) HM.out HN.out
   rw [m1, m2] at hfin
   clear m1 m2 HM HN
   rw [if_neg (by omega)]
   exact hfin
theorem place_t (t : Int) (n : Nat) (hn : n ≤ 40000) (h1 : t < (n : Int) + 1) (h2 : -((n : Int) + 1) < t) : wrap64 (t + (n : Int)) = t + (n : Int) ∧ wrap64 (t + (n : Int) + 1) = t + (n : Int) + 1 ∧ 0 ≤ t + (n : Int) + 1 := by
 unfold wrap64
 exact ⟨by omega, by omega, by omega⟩
theorem place_n (n : Nat) (hn : n ≤ 40000) : wrap64 ((n : Int) + 1) = (n : Int) + 1 := by unfold wrap64; omega
theorem tm_b (a d : Int) (hd : 0 < d) : Int.tmod a d < d ∧ -d < Int.tmod a d := by
 refine ⟨Int.tmod_lt_of_pos a hd, ?_⟩
 have h3 := Int.tmod_lt_of_pos (-a) hd
 rw [Int.neg_tmod] at h3
 generalize Int.tmod a d = t at *
 omega
theorem place_b (a : Int) (n : Nat) (hn : n ≤ 40000) : ∃ k : Nat, k ≤ n ∧ Int.tmod (wrap64 ((wrap64 ((Int.tmod a (wrap64 ((n : Int) + 1))) + (n : Int))) + 1)) (wrap64 ((n : Int) + 1)) = (k : Int) := by
 rw [place_n n hn]
 obtain ⟨h1, h2⟩ := tm_b a ((n : Int) + 1) (by omega)
 generalize Int.tmod a ((n : Int) + 1) = t at *
 obtain ⟨e2, e3, e4⟩ := place_t t n hn h1 h2
 rw [e2, e3]
 clear e2 e3
 obtain ⟨m, hm⟩ := Int.eq_ofNat_of_zero_le e4
 rw [hm, Int.tmod_eq_emod_of_nonneg (Int.natCast_nonneg _)]
 exact ⟨m % (n + 1), Nat.le_of_lt_succ (Nat.mod_lt m (Nat.succ_pos n)), rfl⟩
theorem scan_rec (key : ByteArray) (last : Nat) (s : ByteArray) (hs : s.size ≤ 4096) : scanL key last (recS key last s) = [(s, nextN key last s)] := by
 have q := scan_whole key [s] last (fun t ht => by rw [List.mem_singleton.1 ht]; exact hs)
 rw [wrS_one] at q
 exact q
theorem longer_c (c0 c1 : ByteArray) (h0 : c0.size ≤ 80) (h1 : c1.size ≤ 80) (l : List ByteArray) (hl : l.length ≤ 8) (m y : ByteArray) (hy : y.size ≤ 100000) (L : List Pr) (hsc : scanL c0 (wordN c0 c1) y = L) (hfst : L.map Prod.fst = l ++ [m]) (hend : Hd (endX L = y.size)) (hml : m.toList = ([109, 111, 114, 101] : List UInt8)) :
  saltuslaw13_longer.f c0 c1 y ((l.length + 1 : Nat) : Int) = some true := by
 have w1 : wrap64 (((l.length + 1 : Nat) : Int) - 1) = (l.length : Int) := by unfold wrap64; omega
 have hlen : (l ++ [m]).length = l.length + 1 := by rw [List.length_append]; rfl
 have hlast : rdOf ByteArray.empty (l ++ [m]) (l.length : Int) = m := by
  rw [rd_at _ _ (by rw [hlen]; omega)]
  simp
 unfold saltuslaw13_longer.f journal_Scan.f
 rw [if_pos ⟨by omega, by omega, by omega⟩, Option.bind_some, hsc, hfst, hend.out]
 dsimp only
 rw [hlen, if_pos rfl, if_pos rfl, w1, if_pos (by omega), if_pos (by omega), hlast, hml]
 rfl
theorem longer_f (c0 c1 : ByteArray) (h0 : c0.size ≤ 80) (h1 : c1.size ≤ 80) (l : List ByteArray) (hl : l.length ≤ 8) (hs : ∀ s, s ∈ l → s.size ≤ 4096) (x : ByteArray) (hx : wrS c0 (wordN c0 c1) l = x) (hxz : x.size ≤ 40000) (m : ByteArray) (hm : m = ⟨#[109, 111, 114, 101]⟩) :
  saltuslaw13_longer.f c0 c1 (x ++ recS c0 (goN c0 (wordN c0 c1) l) m) ((l.length + 1 : Nat) : Int) = some true := by
 have hmz2 : m.size = 4 := by rw [hm]; rfl
 have hmz : m.size ≤ 4096 := by rw [hmz2]; decide
 have hml : m.toList = ([109, 111, 114, 101] : List UInt8) := by rw [hm, ByteArray.toList_eq]
 have hz : (x ++ recS c0 (goN c0 (wordN c0 c1) l) m).size = x.size + (m.size + 10) := by rw [ByteArray.size_append, recS_size]
 have hsc : scanL c0 (wordN c0 c1) (x ++ recS c0 (goN c0 (wordN c0 c1) l) m) = prs c0 (wordN c0 c1) l ++ [(m, nextN c0 (goN c0 (wordN c0 c1) l) m)] := by
  rw [← hx, scan_wr c0 _ l (wordN c0 c1) hs, scan_rec _ _ _ hmz]
 have hfst : (prs c0 (wordN c0 c1) l ++ [(m, nextN c0 (goN c0 (wordN c0 c1) l) m)]).map Prod.fst = l ++ [m] := by rw [List.map_append, prs_fst]; rfl
 have hend : endX (prs c0 (wordN c0 c1) l ++ [(m, nextN c0 (goN c0 (wordN c0 c1) l) m)]) = x.size + (m.size + 10) := by
  rw [endX_app, prs_end, hx]
  rfl
 refine longer_c c0 c1 h0 h1 l hl m _ ?_ _ hsc hfst (Hd.mk (hend.trans hz.symm)) hml
 rw [hz, hmz2]
 clear hend hfst hsc hz hml
 omega
theorem journalBack_f (a0 a1 : ByteArray) (l0 : List ByteArray) (a3 : Int) (k : Nat) (hk : 40 < k) : saltuslaw13_JournalBack.f (k + 1 + 1) a0 a1 l0 a3 = some true := by
 obtain ⟨c0, e0, z0⟩ := cut_f a0
 obtain ⟨c1, e1, z1⟩ := cut_f a1
 obtain ⟨l, er, zr⟩ := few_f l0 (k + 1 + 1) (by omega)
 unfold saltuslaw13_JournalBack.f
 rw [e0, Option.bind_some, e1, Option.bind_some, er, Option.bind_some]
 unfold journal_Write.f
 rw [if_pos ⟨by omega, by omega, by omega⟩, Option.bind_some]
 unfold wrR
 cases hb : longB l with
 | true =>
  rw [if_pos rfl]
  dsimp only
  rw [if_neg (by decide), alive_f _ (by omega), Option.bind_some, if_pos rfl, emp_l]
  rfl
 | false =>
  have hs := (long_iff l).1 hb
  rw [if_neg Bool.false_ne_true]
  dsimp only
  rw [if_pos rfl]
  obtain ⟨x, hx⟩ : ∃ x, wrS c0 (wordN c0 c1) l = x := ⟨_, rfl⟩
  have hz := wrS_size c0 l (wordN c0 c1) hs
  rw [hx] at hz
  have hxz : x.size ≤ 40000 := by omega
  clear hz
  have hsw := Hd.mk (scan_whole c0 l (wordN c0 c1) hs)
  have hpe := Hd.mk (prs_end c0 l (wordN c0 c1))
  have hpl := Hd.mk (prs_last c0 l (wordN c0 c1))
  have hgo := Hd.mk (goN_lt c0 l (wordN c0 c1) (wordN_lt c0 c1))
  rw [hx] at hsw hpe
  rw [hx]
  have HX := Hd.mk hx
  clear hx
  unfold journal_Scan.f
  rw [if_pos ⟨by omega, by omega, by omega⟩, Option.bind_some, hsw.out, prs_fst, hpe.out, hpl.out, same_f l _ (by omega) (by omega), Option.bind_some, if_pos rfl]
  dsimp only
  rw [if_pos rfl, alive_f _ (by omega), Option.bind_some, saltuslaw13_JournalBack.j0, if_neg (by decide)]
  obtain ⟨m, hm⟩ : ∃ m, m = (⟨#[109, 111, 114, 101]⟩ : ByteArray) := ⟨_, rfl⟩
  rw [← hm]
  have hm0 := hm
  have hmz : m.size = 4 := by rw [hm]; rfl
  have w1 : wrap64 ((l.length : Int) + 1) = ((l.length + 1 : Nat) : Int) := wadd l.length 1 (by omega)
  clear hm
  unfold journal_Record.f
  rw [if_pos ⟨by omega, by omega, by have := hgo.out; omega⟩, Int.toNat_natCast, if_pos (by omega), Option.bind_some]
  dsimp only
  rw [if_pos rfl, recS_size, if_pos (by omega), w1, longer_f c0 c1 z0 z1 l zr hs x HX.out hxz m hm0, Option.bind_some, saltuslaw13_JournalBack.j1, if_neg (by decide)]
  obtain ⟨K, hK1, hK2⟩ := place_b a3 x.size hxz
  rw [hK2, if_neg (by have : wrap64 ((x.size : Int) + 1) = ((x.size + 1 : Nat) : Int) := wadd x.size 1 (by omega); omega)]
  exact back_l c0 c1 l hs K x hK1 hxz zr k 0 0 (by omega) (Nat.zero_le _) (Nat.zero_le _) ⟨by rw [List.drop_zero, Nat.sub_zero, Nat.zero_add]⟩ ⟨by rw [List.drop_zero, Nat.sub_zero, Nat.zero_add]⟩ z0 z1 HX
theorem journalBack_row (a0 a1 : ByteArray) (A2 : Option Addr) (c2 : Nat) (l2 : List ByteArray) (a3 : Int) (w : World) (_ : a0.size ≤ 140737488351232) (_ : a1.size ≤ 140737488351232) (hr2 : Kd.C Kd.string w A2 l2.length l2) (hc2 : l2.length ≤ c2) (_ : (Lit.int .i64 a3).wf = true) :
  Calls Try.prog 16 #[.string a0, .string a1, .slice A2 l2.length c2, .int .i64 a3] w fun e w' => e = .returned (.bool true) ∧ Below w.heap.size w w' :=
 saltuslaw13_JournalBack.calls 43 a0 a1 A2 c2 l2 a3 true w hr2 hc2 ⟨rfl⟩ (journalBack_f a0 a1 l2 a3 41 (by decide))
end Go.Proofs.Ytolbhliepkcihaa.Pure
end
