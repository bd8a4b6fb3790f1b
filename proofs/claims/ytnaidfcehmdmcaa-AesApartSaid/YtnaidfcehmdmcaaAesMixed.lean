/- AES's step mixed: the walk. -/
import Derived.Test.YtnaidfcehmdmcaaAesSteps
import Derived.Deep.RegionWith
import Derived.BigRegion
import Derived.Outline
namespace Go.Proofs.Ytnaidfcehmdmcaa.AS
open Go.RowKit Go.Proofs.YtnaidfcehmdmcaaW.PrintWords Go.Proofs.YtnaidfcehmdmcaaW.PrintLast Go.Proofs.YtnaidfcehmdmcaaW.PrintMore
open Go.Proofs.Ytnaidfcehmdmcaa.FC Go.Proofs.Ytnaidfcehmdmcaa.Mem

def allI (st : Nat → Int) (c : Nat) : Int := bits .xor .u8 (bits .xor .u8 (bits .xor .u8 (st c) (st (c + 1))) (st (c + 2))) (st (c + 3))
def mixI (st : Nat → Int) (c r : Nat) : Int := bits .xor .u8 (st (c + r)) (bits .xor .u8 (allI st c) (mulI (bits .xor .u8 (st (c + r)) (st (c + (r + 1) % 4))) 2))
def mixA (st : Nat → Int) (i : Nat) : Int := mixI st (4 * (i / 4)) (i % 4)

theorem al62 : Try.prog.arrayLen 62 = 16 := by kernel_rfl
theorem ua62 : Try.prog.underlying 62 = some (.array (Try.prog.arrayLen 62) (Try.prog.elem 62)) := by kernel_rfl
theorem sz62 (w : World) : (sizeOf (Try.prog.elem 62)).run Try.prog w = .ok 1 w := by kernel_rfl
theorem slice62 (c g : Nat) (hc : c ≤ 12) (w : World) : (Instr.sliceAt 62 (.pointer (some ⟨g, 0, none⟩)) (some (.int .i64 (c : Int))) (some (.int .i64 ((c : Int) + 4))) none).run Try.prog w = .ok (.slice (some ⟨g, c, none⟩) 4 (16 - c)) w := by
  rw [run_sliceAt_array_lh w 62 ⟨g, 0, none⟩ ua62 .i64 .i64 (c : Int) ((c : Int) + 4) (by omega) (by omega) (by rw [al62]; omega), sz62, Result.andThen_ok, al62, slicedAt]
  have e1 : ((c : Int)).toNat = c := Int.toNat_natCast c
  have e2 : ((c : Int) + 4).toNat = c + 4 := by omega
  rw [e1, e2, if_neg (by omega), Nat.mul_one]
  have e3 : c + 4 - c = 4 := by omega
  rw [e3]
  congr 3
  unfold Addr.add
  split
  · rename_i h; rw [h]
  · simp
theorem array65 (A : Option Addr) (c : Nat) (w : World) : (Instr.arrayAt 65 (.slice A 4 c)).run Try.prog w = .ok (.pointer A) w := by
  have hu : Try.prog.underlying 65 = some (.array 4 5) := by kernel_rfl
  simp [Instr.arrayAt, run_underlying hu]
theorem array62 (A : Option Addr) (c : Nat) (w : World) : (Instr.arrayAt 62 (.slice A 16 c)).run Try.prog w = .ok (.pointer A) w := by
  have hu : Try.prog.underlying 62 = some (.array 16 5) := by kernel_rfl
  simp [Instr.arrayAt, run_underlying hu]
theorem load65 (f : Nat → Int) (g c : Nat) (w : World) (h : ∀ i, i < 4 → w.cell? ⟨g, c + i, none⟩ = some (.int .u8 (f i))) : (loadVar 65 ⟨g, c, none⟩).run Try.prog w = .ok (.agg (u8a 4 f)) w := by
  have hl : (loadCells ⟨g, c, none⟩ (u8a 4 f).toList.length).run Try.prog w = .ok (u8a 4 f).toList.toArray w :=
    run_loadCells_list (P := Try.prog) w ⟨g, c, none⟩ (u8a 4 f).toList (fun j v hv => by
      have hj : j < 4 := by
        have := (List.getElem?_eq_some_iff.1 hv).1
        rw [Array.length_toList, u8a_size] at this
        exact this
      have hadd : (⟨g, c, none⟩ : Addr).add j = ⟨g, c + j, none⟩ := by unfold Addr.add; split <;> simp_all
      rw [hadd, h j hj, ← u8a_at f hj]
      simpa using hv)
  have hi := size65 f
  have hu := Try.underlying65
  cases hq : Try.prog.info? 65 with
  | none => simp [hq] at hi
  | some i =>
    have hs : i.size = (u8a 4 f).size := by simpa [hq] using hi
    have hagg : (isAgg 65).run Try.prog w = .ok true w := by
      unfold isAgg
      rw [Sem.run_bind, run_underlying hu w]
      rfl
    simp only [Array.length_toList, Array.toArray_toList] at hl
    simp [loadVar, Sem.run_bind, hagg, sizeOf, typeInfo, hq, hs, hl]
theorem wpList_load_at {P : Program} {ops : Array Oper} {rest : List Oper} {o : Oper} {a : Act} {w : World} {Q : Exit → Act → World → Prop} (hgd : o.guard = none) (ty : TypeId) (x : Operand) (ho : o.op = .load ty x)
    (A : Addr) (hx : a.eval x = .pointer (some A)) (v : Value) (hv : (loadVar ty A).run P w = .ok v w)
    (h : wpList P ops Q rest (a.put o.dst v) w) : wpList P ops Q (o :: rest) a w :=
  wpList_plain hgd fun _ hK => by
    unfold Oper.wp execOp
    simp only [ho, hx, Instr.loadAt, Instr.sureAddr, Sem.run_bind, Sem.run_pure, Result.andThen_ok, hv]
    exact hK _ _ h

set_option maxRecDepth 100000 in
set_option maxHeartbeats 4000000 in
theorem mixed_any (st : Nat → Int) (hst : ∀ i, i < 16 → By (st i)) (w : World) : Calls Try.prog 51 #[.agg (u8a 16 st)] w fun e w' => e = .returned (.agg (u8a 16 (mixA st))) ∧ Below w.heap.size w w' := by
  go_enter Try.func51, Try.ntmps51
  go_wp2
  rw [zero16]
  have H1 := (Blk.new w 62 (u8a 16 st)).alloc (.cells (u8a 16 fun _ => 0) 62)
  have H2 := Blk.new (w.alloc (.cells (u8a 16 st) 62)) 62 (u8a 16 fun _ => 0)
  have B0 : Below w.heap.size w ((w.alloc (.cells (u8a 16 st) 62)).alloc (.cells (u8a 16 fun _ => 0) 62)) := ((Below.refl _ _).alloc (Nat.le_refl _) _).alloc (by simp) _
  rw [World.size_alloc] at H2
  generalize hg : w.heap.size = g at *
  go_loopw [3] (fun i wr => ∃ j : Nat, j ≤ 4 ∧ i = .int .i64 (4 * (j : Int)) ∧ Blk wr g 62 (u8a 16 fun i => if i < 4 * j then mixA st i else st i) ∧ Blk wr (g + 1) 62 (u8a 16 fun _ => 0) ∧ Below g w wr) (fun i _ => 16 - (intOf i).toNat)
  case atStart => exact ⟨0, by omega, rfl, by simpa using H1, H2, B0⟩
  case round =>
    clear H1 H2 B0
    obtain ⟨j, hj, rfl, hB, hR, hb⟩ := hrel
    by_cases hlt : j < 4
    · obtain ⟨c, hc⟩ : ∃ c, 4 * j = c := ⟨_, rfl⟩
      have ec : (4 * (j : Int)) = (c : Int) := by omega
      rw [ec]
      have c12 : c ≤ 12 := by omega
      have cc : ∀ i, i < 4 → wr.cell? ⟨g, c + i, none⟩ = some (.int .u8 (st (c + i))) := fun i hi => by rw [hB.cell, u8a_at _ (by omega), if_neg (by omega)]
      have hsl := slice62 c g c12
      have har := array65 (some ⟨g, c, none⟩) (16 - c)
      have hld := Lib.hid (load65 (fun i => st (c + i)) g c wr cc)
      have EC := Lib.hid ec
      have HC := Lib.hid hc
      clear ec hc
      have CC := Lib.hid cc
      clear cc
      have hga : g < wr.heap.size := hB.lt
      have hgb : g + 1 < wr.heap.size := hR.lt
      have hgw : g ≤ wr.heap.size := by omega
      go_wp2_with (first | (refine wpList_load_at rfl 65 _ rfl ⟨g, c, none⟩ rfl _ hld.out ?_) | (refine wpList_store_row rfl 65 _ _ rfl wr.heap.size _ rfl rfl 65 _ (Blk.new wr 65 _) (size65 _) (by rw [u8a_size]; rfl) (u8a_one _ _) ?_; have A1 := (Blk.new wr 65 #[Value.int .u8 0, .int .u8 0, .int .u8 0, .int .u8 0]).row (u8a 4 fun i => st (c + i)); have B1 := (hB.alloc (.cells #[Value.int .u8 0, .int .u8 0, .int .u8 0, .int .u8 0] 65)).row_far (Nat.ne_of_lt hga) (u8a 4 fun i => st (c + i)); have R1 := (hR.alloc (.cells #[Value.int .u8 0, .int .u8 0, .int .u8 0, .int .u8 0] 65)).row_far (Nat.ne_of_lt hgb) (u8a 4 fun i => st (c + i)); have b1 := below_row (hb.alloc hgw (.cells #[Value.int .u8 0, .int .u8 0, .int .u8 0, .int .u8 0] 65)) hgw (u8a 4 fun i => st (c + i)); generalize (wr.alloc (.cells #[Value.int .u8 0, .int .u8 0, .int .u8 0, .int .u8 0] 65)).setRow wr.heap.size (u8a 4 fun i => st (c + i)) = w1 at *; have d0 := A1.cell 0; have d1 := A1.cell 1; have d2 := A1.cell 2; have d3 := A1.cell 3; rw [u8a_at _ (by decide)] at d0 d1 d2 d3))
      clear d0 d1 d2 d3 hld hB hR hb
      generalize hga' : wr.heap.size = ga at *
      have AL := Lib.hid (show bits BinOp.xor IntKind.u8 (bits BinOp.xor IntKind.u8 (bits BinOp.xor IntKind.u8 (st c) (st (c + 1))) (st (c + 2))) (st (c + 3)) = allI st c from rfl)
      rw [AL.out]
      generalize hal : allI st c = al at *
      have HAL := Lib.hid hal
      clear hal AL CC hga'
      go_loopw [28] (fun i wi => ∃ r : Nat, r ≤ 4 ∧ i = .int .i64 r ∧ Blk wi g 62 (u8a 16 fun i => if i < c + r then mixA st i else st i) ∧ Blk wi (g + 1) 62 (u8a 16 fun _ => 0) ∧ Blk wi ga 65 (u8a 4 fun i => st (c + i)) ∧ Below g w wi) (fun i _ => 4 - (intOf i).toNat)
      case atStart => exact ⟨0, by omega, rfl, by rw [← HC.out]; exact B1, R1, A1, b1⟩
      case round =>
        clear A1 B1 R1 b1
        rename_i wi _
        obtain ⟨r, hr, rfl, B1, R1, A1, b1⟩ := hrel
        by_cases hrl : r < 4
        · obtain ⟨q, hq⟩ : ∃ q, (r + 1) % 4 = q := ⟨_, rfl⟩
          have q4 : q < 4 := by omega
          have a3 : bits .and .i64 ((r : Int) + 1) 3 = (q : Int) := by
            have := and3 (r + 1) (by omega)
            rw [hq] at this
            exact this
          have HQ := Lib.hid hq
          clear hq
          have e1 := B1.cell (c + r)
          rw [u8a_at _ (by omega), if_neg (by omega)] at e1
          have e2 := A1.cell r
          rw [u8a_at _ hrl] at e2
          have e3 := A1.cell q
          rw [u8a_at _ q4] at e3
          have hf := B1.frozen (c + r)
          have by1 : By (bits .xor .u8 (st (c + r)) (st (c + q))) := (hst _ (by omega)).xor (hst _ (by omega))
          have by2 : By 2 := ⟨by decide, by decide⟩
          have i1 : (c : Int) + (r : Int) < 16 := by omega
          have i2 : 0 ≤ (c : Int) + (r : Int) := by omega
          have i3 : (r : Int) < 4 := by omega
          have i4 : (q : Int) < 4 := by omega
          have i5 : ((c : Int) + (r : Int)).toNat = c + r := by omega
          have i6 : IntKind.i64.wrap ((c : Int) + (r : Int)) = (c : Int) + (r : Int) := IntWalk.i64_in _ (by omega)
          have i7 : IntKind.i64.wrap ((r : Int) + 1) = (r : Int) + 1 := IntWalk.i64_in _ (by omega)
          have mx : mixA st (c + r) = bits .xor .u8 (st (c + r)) (bits .xor .u8 al (mulI (bits .xor .u8 (st (c + r)) (st (c + q))) 2)) := by
            have h1 : 4 * ((c + r) / 4) = c := by have := HC.out; omega
            have h2 : (c + r) % 4 = r := by have := HC.out; omega
            unfold mixA
            rw [h1, h2]
            unfold mixI
            rw [HAL.out, HQ.out]
          have st1 : (u8a 16 fun i => if i < c + (r + 1) then mixA st i else st i) = (u8a 16 fun i => if i < c + r then mixA st i else st i).setIfInBounds (c + r) (.int .u8 (bits .xor .u8 (st (c + r)) (bits .xor .u8 al (mulI (bits .xor .u8 (st (c + r)) (st (c + q))) 2)))) := by
            rw [u8a_set _ _ (by omega), ← mx]
            apply u8a_ext
            intro i _
            by_cases h1 : i = c + r
            · subst h1; rw [if_pos (by omega), if_pos rfl]
            · rw [if_neg h1]
              by_cases h2 : i < c + r
              · rw [if_pos (by omega), if_pos h2]
              · rw [if_neg (by omega), if_neg h2]
          have ST := Lib.hid st1
          clear mx st1
          go_wp2
          go_region_with ((go_at_call 16; refine (mul_any _ _ _ by1 by2).mono ?_; rintro e w' ⟨rfl, ⟨nd, rfl⟩⟩))
          all_goals
            go_wp2
            go_roundw
            case rel =>
              refine ⟨r + 1, by omega, by go_num, ?_, ?_, ?_, ?_⟩
              · rw [ST.out]
                (repeat (first | exact B1 | refine Blk.drewN ?_ _ | refine Blk.drew ?_ | refine Blk.set_ ?_ _ _))
              · (repeat (first | exact R1 | refine Blk.drewN ?_ _ | refine Blk.drew ?_ | refine Blk.far ?_ (by simp) _))
              · (repeat (first | exact A1 | refine Blk.drewN ?_ _ | refine Blk.drew ?_ | refine Blk.far ?_ (by simp; omega) _))
              · (repeat (first | exact b1 | refine pw_below_drewN ?_ _ | refine below_drew ?_ | refine Below.setCell ?_ (by simp) _))
            case measure => simp [intOf]; omega
        · obtain rfl : r = 4 := by omega
          go_wp2
          go_roundw
          case rel =>
            refine ⟨j + 1, by omega, ?_, ?_, R1, b1⟩
            · have := EC.out; congr 1; omega
            · have e : 4 * (j + 1) = c + 4 := by have := HC.out; omega
              rw [e]; exact B1
          case measure => simp [intOf]; omega
    · obtain rfl : j = 4 := by omega
      go_wp2_with (first | (refine wpList_load_row rfl 62 _ rfl g rfl 62 _ (0, 0) _ hB Try.underlying62 rfl (size62 _) ?_) | (refine wpList_store_row rfl 62 _ _ rfl (g + 1) _ rfl rfl 62 _ hR (size62 _) (by rw [u8a_size, u8a_size]) (u8a_one _ _) ?_))
      refine bodyPost_ret (results_cell_row rfl _ _ (g + 1) 62 _ (0, 0) _ rfl (hR.row _) Try.underlying62 rfl (size62 _)) rfl ⟨?_, by rw [hg]; exact below_row hb (Nat.le_succ g) _⟩
      rw [u8a_ext (g := mixA st)]
      intro i hi
      rw [if_pos (by omega)]
end Go.Proofs.Ytnaidfcehmdmcaa.AS
