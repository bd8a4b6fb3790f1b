/- Any number's proof in any list is as the document says, or refused; and which two are the same; the library's table is as it was laid. -/
import Derived.Test.YtolbhliepkcihaaGreatDoorRows
import Derived.Test.YtolbhliepkcihaaGreatDoorCards
import Derived.Test.YtolbhliepkcihaaGreatDoorTie
import Derived.Test.YtolbhliepkcihaaGreatDoorKProofProvesa
import Derived.Test.YtolbhliepkcihaaGreatDoorKProofProvesc
import Derived.WalkKit
import Derived.ProofKit
import Derived.OpenShut
import Derived.ShutString
import Derived.ChangeOld
import Derived.Below
import Derived.SizedLaws
import Derived.Lib.SmallJoins
import Derived.Test.YtolbhliepkcihaaGreatDoorPWa
import Derived.SliceStrings
import Derived.Test.YtolbhliepkcihaaGreatDoorBaseH
import Derived.Deep.Slices
namespace Go.Proofs.YtolbhliepkcihaaGreatDoor
open Go.ChangeShapes Go.WideShapes Go.RowKit Go.Proofs.YtolbhliepkcihaaGreatDoorW.PrintWords
theorem row_strs {H : Type} {enc : TypeId × Value → H} {P : Program} {W : World} {base : Nat} {spare : Nat → Bool} {held : Bool} {t e : TypeId} {fuel : Nat} {A : Option Addr} {len cap : Nat} {x : DataW H × List MemPlace}
    (ht : P.underlying t = some (.slice e)) (he : P.underlying e = some .string) (hc : P.cellsOf e = 1) (h : DataW.trod enc P W base spare held fuel t (Value.cells (.slice A len cap)).toList = some x) :
    ∃ l : List ByteArray, l.length = len ∧ len ≤ cap ∧ Kd.C Kd.string W A l.length l := by
  rcases open_strings ht he hc h with ⟨hcs, _⟩ | ⟨a, len', cap', ss, hcs, _, hl, hm, hz, _, hcell, _⟩
  · simp [Value.cells] at hcs
    obtain ⟨rfl, rfl, rfl⟩ := hcs
    exact ⟨[], rfl, Nat.le_refl _, Kd.C_nil _ _⟩
  · simp [Value.cells] at hcs
    obtain ⟨rfl, rfl, rfl⟩ := hcs
    have hls : len ≤ ss.length := by
      rw [hz]
      split
      · exact hl
      · exact Nat.le_refl _
    have h1 : (ss.take len).length = len := by rw [List.length_take]; omega
    unfold maxLen at hm
    refine ⟨ss.take len, h1, hl, ?_⟩
    rw [h1]
    refine ⟨h1, by omega, fun _ => ⟨a, rfl, fun j p hj => ⟨[.string p], rfl, rfl, fun i u hu => ?_⟩⟩⟩
    have hjl : j < len := by
      have := (List.getElem?_eq_some_iff.1 hj).1
      omega
    match i, hu with
    | 0, hu =>
      have hu : Value.string p = u := by simpa using hu
      subst hu
      rw [List.getElem?_take, if_pos hjl] at hj
      have h2 := hcell j (by omega)
      rw [List.getD_eq_getElem?_getD, hj] at h2
      show W.cell? (a.add (j * 1 + 0)) = _
      rw [Nat.mul_one, Nat.add_zero]
      exact h2
end Go.Proofs.YtolbhliepkcihaaGreatDoor
namespace Go.Proofs.YtolbhliepkcihaaGreatDoor
open Go.ChangeShapes Go.WideShapes Go.Deep Go.RowKit Go.Proofs.YtolbhliepkcihaaGreatDoorW.PrintWords
theorem row_strs2 {H : Type} {enc : TypeId × Value → H} {W : World} {base : Nat} {spare : Nat → Bool} {held : Bool} {fuel : Nat} {v : Value} {x : DataW H × List MemPlace}
    (h : DataW.trod enc Tryz.prog W base spare held fuel 47 [v] = some x) : ∃ A c, ∃ l : List ByteArray, v = .slice A l.length c ∧ l.length ≤ c ∧ Kd.C Kd.string W A l.length l := by
  obtain ⟨A, len, cap, rfl⟩ : ∃ A len cap, v = .slice A len cap := by
    rcases open_slice1 Tryz.underlying47 (by kernel_rfl) h with ⟨hcs, _⟩ | ⟨a, len, cap, m, n, V, D, Pl, hcs, _⟩
    · exact ⟨_, _, _, by simpa using hcs⟩
    · exact ⟨_, _, _, by simpa using hcs⟩
  obtain ⟨l, rfl, h1, h2⟩ := row_strs (A := A) (len := len) (cap := cap) Tryz.underlying47 Tryz.underlying9 (by kernel_rfl) h
  exact ⟨A, cap, l, rfl, h1, h2⟩
theorem row_rows {H : Type} {enc : TypeId × Value → H} {W : World} {base : Nat} {spare : Nat → Bool} {held : Bool} {fuel : Nat} {v : Value} {x : DataW H × List MemPlace}
    (h : DataW.trod enc Tryz.prog W base spare held fuel 24 [v] = some x) : ∃ A c, ∃ l : List (List ByteArray), v = .slice A l.length c ∧ l.length ≤ c ∧ Kd.C (Kd.slice 9 Kd.string) W A l.length l := by
  rcases open_slice1 Tryz.underlying24 (by kernel_rfl) h with ⟨hcs, _⟩ | ⟨a, len, cap, m, n, V, D, Pl, hcs, _, hl, hm, hmm, _, hi⟩
  · obtain rfl : v = .slice none 0 0 := by simpa using hcs
    exact ⟨none, 0, [], rfl, Nat.le_refl _, Kd.C_nil _ _⟩
  · obtain rfl : v = .slice (some a) len cap := by simpa using hcs
    have hlm : len ≤ m := by
      rw [hmm]
      split
      · exact hl
      · exact Nat.le_refl _
    have each : ∀ i, i < len → ∃ y : List ByteArray, W.cell? (a.add i) = some (V i) ∧ ∃ A c, V i = .slice A y.length c ∧ y.length ≤ c ∧ Kd.C Kd.string W A y.length y := by
      intro i hil
      obtain ⟨hc, ht⟩ := hi i (by omega)
      obtain ⟨A, c, l, h1, h2, h3⟩ := row_strs2 ht
      exact ⟨l, hc, A, c, h1, h2, h3⟩
    obtain ⟨X, hX⟩ := choose_lt (α := List ByteArray) (p := fun i y => W.cell? (a.add i) = some (V i) ∧ ∃ A c, V i = .slice A y.length c ∧ y.length ≤ c ∧ Kd.C Kd.string W A y.length y) each
    have hz : ((List.range len).map X).length = len := by simp
    unfold maxLen at hm
    refine ⟨some a, cap, (List.range len).map X, by rw [hz], by omega, ?_⟩
    rw [hz]
    refine ⟨hz, by omega, fun _ => ⟨a, rfl, fun j p hj => ?_⟩⟩
    have hjl : j < len := by
      have := (List.getElem?_eq_some_iff.1 hj).1
      omega
    have hp : X j = p := by
      rw [List.getElem?_map, List.getElem?_range hjl] at hj
      simpa using hj
    subst hp
    obtain ⟨hc, A, c, e, h1, h2⟩ := hX j hjl
    refine ⟨[V j], rfl, ⟨A, c, by rw [e], h1, h2⟩, fun i u hu => ?_⟩
    match i, hu with
    | 0, hu =>
      have hu : V j = u := by simpa using hu
      subst hu
      show W.cell? (a.add (j * 1 + 0)) = _
      rw [Nat.mul_one, Nat.add_zero]
      exact hc
end Go.Proofs.YtolbhliepkcihaaGreatDoor
namespace Go.Proofs.YtolbhliepkcihaaGreatDoor.proofProves
open Go.ChangeShapes Go.WideShapes Go.ChangeAt Go.RowKit Go.Proofs.YtolbhliepkcihaaGreatDoorW.PrintWords Go.Proofs.YtolbhliepkcihaaGreatDoor.Kinds
open Go.ChangeMaps (open_string shut_string)
set_option linter.unusedVariables false
theorem own : ownKnob Tryz.prog.godebug = none := by kernel_rfl
theorem laidOut : laidOutB Tryz.prog = true := by kernel_rfl
set_option maxRecDepth 100000 in
theorem lifted (os : Os) (started : os.Started) (H : Type) (enc : TypeId × Value → H) :
    ReturnsInHanded {} Tryz.checked os 3 .any (fun w args => (Rows.proofProvesSpec.pre enc Tryz.prog Tryz.f3 [] false w args ∧ laidMetH Tryz.prog laidL w) ∧ sizedMet enc Tryz.prog Tryz.f3 (OpenSpec.ofChange Rows.proofProvesSpec) false w args) (Rows.proofProvesSpec.post enc Tryz.prog Tryz.f3 false true false false) := by
  refine returnsInHanded_of_change_and (C := Tryz.checked) (X := fun w _ => laidMetH Tryz.prog laidL w) (fun _ _ _ hh h => h.of_heap hh) own started (by kernel_rfl) Tryz.func3
    (ChangeSpec.witness_shaped (enc := enc) (C := Tryz.checked) (os := os) (X := fun w _ => laidMetH Tryz.prog laidL w) false (World.doorLaid Tryz.prog 14 os) #[.string ByteArray.empty, .slice none 0 0, .int .u64 0, .agg #[.slice none 0 0, .slice none 0 0], .agg #[.slice none 0 0, .slice none 0 0]] 8 rfl (World.shaped_of_RefB (by kernel_rfl) (by kernel_rfl)) (by kernel_rfl) (by kernel_rfl) (by kernel_rfl) (door_met os _)) ?_
  intro W base args ds gs before hval0 hW _ hsz0 hL _
  have hsz : (DataW.weightsEach Tryz.prog (Tryz.f3.params.toList ++ Rows.proofProvesSpec.plain.varTypes Tryz.prog) (ds ++ gs)).all (· ≤ reachBytes) = true := hsz0
  have hval : ∀ (j : Nat) t v, Tryz.f3.params[j]? = some t → args[j]? = some v → Value.okWide Tryz.prog W .any base t v := hval0
  have hW' := hW
  obtain ⟨p, q, hA0, hV, rfl, hfz, hnd⟩ := hW
  have hA : DataW.TrodAll enc Tryz.prog W 0 (fun _ => true) true Tryz.f3.params.toList args.toList ds p := hA0
  rw [Tryz.params3] at hA hval hsz
  obtain ⟨v0, vs0, d0, ds0, p0, q0, hargs, rfl, rfl, h0, r0⟩ := trodAll_cons hA
  obtain ⟨v1, vs1, d1, ds1, p1, q1, rfl, rfl, rfl, h1, r1⟩ := trodAll_cons r0
  obtain ⟨v2, vs2, d2, ds2, p2, q2, rfl, rfl, rfl, h2, r2⟩ := trodAll_cons r1
  obtain ⟨v3, vs3, d3, ds3, p3, q3, rfl, rfl, rfl, h3, r3⟩ := trodAll_cons r2
  obtain ⟨v4, vs4, d4, ds4, p4, q4, rfl, rfl, rfl, h4, r4⟩ := trodAll_cons r3
  obtain ⟨rfl, rfl, rfl⟩ := trodAll_nil r4
  obtain rfl : args = #[v0, v1, v2, v3, v4] := by cases args; simp_all
  obtain ⟨rfl, rfl⟩ := trodVars_none hV
  obtain ⟨a0, rfl, rfl, rfl, y0⟩ := open_string Tryz.underlying9 (hval 0 9 v0 rfl rfl) h0
  have w0 : a0.size ≤ 140737488351232 := by
    have z := sized_string hsz (j := 0) (t := 9) rfl rfl
    rw [Array.length_toList] at z
    exact z
  have k1 := h1
  have lt1 : ∀ x ∈ p1, x.block < W.heap.size := by obtain ⟨m, hm⟩ := k1; exact DataW.trod_lt m _ _ _ hm
  obtain ⟨A1, len1, c1, rfl⟩ := okWide_slice Tryz.underlying22 (hval 1 22 v1 rfl rfl)
  obtain ⟨l1, rfl, hc1, hr1, hw1⟩ := (show ∃ l : List S44, l.length = len1 ∧ len1 ≤ c1 ∧ Kd.C k44 W A1 l.length l ∧ ∀ y, y ∈ l → 0 ≤ y.f0 ∧ y.f0 ≤ 18446744073709551615 ∧ y.f1.size ≤ 9223372036854775807 by obtain ⟨fuel, hf⟩ := h1; exact row_items hf)
  obtain ⟨a2, rfl, rfl, rfl, w2⟩ := open_int Tryz.underlying23 (hval 2 23 v2 rfl rfl) h2
  have k3 := h3
  have lt3 : ∀ x ∈ p3, x.block < W.heap.size := by obtain ⟨m, hm⟩ := k3; exact DataW.trod_lt m _ _ _ hm
  obtain ⟨c3_0, c3_1, y3_0, y3_1, m3, rfl, rfl, rfl, z3_0, z3_1⟩ := Go.Joins.open_agg2 Tryz.underlying26 (by kernel_rfl) (by kernel_rfl) (hval 3 26 v3 rfl rfl) h3
  obtain ⟨A3_0, C3_0, L3_0, rfl, hc3_0, hr3_0⟩ := row_rows z3_0
  obtain ⟨A3_1, C3_1, L3_1, rfl, hc3_1, hr3_1⟩ := row_rows z3_1
  have k4 := h4
  have lt4 : ∀ x ∈ p4, x.block < W.heap.size := by obtain ⟨m, hm⟩ := k4; exact DataW.trod_lt m _ _ _ hm
  obtain ⟨c4_0, c4_1, y4_0, y4_1, m4, rfl, rfl, rfl, z4_0, z4_1⟩ := Go.Joins.open_agg2 Tryz.underlying26 (by kernel_rfl) (by kernel_rfl) (hval 4 26 v4 rfl rfl) h4
  obtain ⟨A4_0, C4_0, L4_0, rfl, hc4_0, hr4_0⟩ := row_rows z4_0
  obtain ⟨A4_1, C4_1, L4_1, rfl, hc4_1, hr4_1⟩ := row_rows z4_1
  clear hA0 hval0 hsz0 hsz
  refine (ProveLaw.proofProves_row a0 A1 c1 l1 a2 A3_0 C3_0 L3_0 A3_1 C3_1 L3_1 A4_0 C4_0 L4_0 A4_1 C4_1 L4_1 W w0 hr1 hc1 hw1 w2 hr3_0 hc3_0 hr3_1 hc3_1 hr4_0 hc4_0 hr4_1 hc4_1 (of_laid hL)).mono fun e W' ⟨he, bel⟩ => ?_
  subst he
  exact ⟨_, rfl, _, _, _, [], _, [], hW', trodAll_mk1 (shut_bool Tryz.underlying4 _), (trodAll_cons_mk (shut_string Tryz.underlying9 y0) (trodAll_cons_mk (Below.trod laidOut (by kernel_rfl) (of_decide_eq_true (by kernel_rfl)) k1 bel lt1) (trodAll_cons_mk (shut_int Tryz.underlying23 w2) (trodAll_cons_mk (Below.trod laidOut (by kernel_rfl) (of_decide_eq_true (by kernel_rfl)) k3 bel lt3) (trodAll_cons_mk (Below.trod laidOut (by kernel_rfl) (of_decide_eq_true (by kernel_rfl)) k4 bel lt4) trodAll_mk0))))), rfl, bel.frame _, fun h => by cases h⟩
theorem over : Rows.proofProvesRow.holds Tryz.pinned (OpenSpec.ofChange Rows.proofProvesSpec) :=
  OpenClaim.holds_of_wide 3 Tryz.f3 rfl rfl rfl rfl rfl rfl rfl ⟨rfl, rfl, rfl, rfl, rfl⟩ rfl rfl rfl rfl rfl (by kernel_rfl) Tryz.func3 (by kernel_rfl)
    (of_decide_eq_true (by kernel_rfl)) (by unfold Func.isWrapper; first | (rw [if_pos (by decide +kernel)]; kernel_rfl) | (rw [if_neg (by decide +kernel)]; exact ⟨rfl, rfl⟩))
    (fun os started H enc _ => lifted os started H enc)
theorem proved : Rows.ProofProvesCardSaid :=
  Claim7.holds_tied_plain_at .later [] [.data] true (true, "cadcaea7083b5f5a8cd8832e2dd23dfcfcd2985b771edaaf9b958ec3c3a1f771") false
    over (fun _ h => by cases h) (by kernel_rfl) (fun _ h => by cases h) proofProves_row_tie rfl ⟨rfl, rfl⟩ (by kernel_rfl) rfl
    (fun f fn hf hfn => by
      obtain rfl : f = 3 := Option.some.inj ((show Tryz.prog.funcNamed "saltus/saltuslaw18.ProofProves" = some 3 by kernel_rfl).symm.trans hf) |>.symm
      obtain rfl : fn = Tryz.f3 := (Option.some.inj (Tryz.func3.symm.trans hfn)).symm
      exact ⟨by kernel_rfl, fun j t ht => by
        rw [Tryz.params3] at ht
        have hm : t ∈ [9, 22, 23, 26, 26] := by simpa using Array.mem_of_getElem? ht
        have hall : ([9, 22, 23, 26, 26].all fun u => !Tryz.prog.wantsStandIn u) = true := by kernel_rfl
        exact (show Tryz.prog.wantsStandIn t = false by simpa using List.all_eq_true.1 hall t hm)⟩)
    (by kernel_rfl)
#print axioms proved
end Go.Proofs.YtolbhliepkcihaaGreatDoor.proofProves
namespace Go.Proofs.YtolbhliepkcihaaGreatDoor
/-- The card, under a short name, for the claim. -/
theorem proofProves_holds : Rows.ProofProvesCardSaid := proofProves.proved
end Go.Proofs.YtolbhliepkcihaaGreatDoor
