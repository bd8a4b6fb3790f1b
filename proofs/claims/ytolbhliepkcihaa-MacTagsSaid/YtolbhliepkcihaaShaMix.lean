/- SHA-256's mixing of a block into a state: the walk. -/
import Derived.Test.YtolbhliepkcihaaShaWords
namespace Go.Proofs.Ytolbhliepkcihaa.Sha
open Go.RowKit Go.Proofs.Ytolbhliepkcihaa.QR Go.Proofs.Ytolbhliepkcihaa.Mem Go.Proofs.YtolbhliepkcihaaW.PrintWords Go.Proofs.YtolbhliepkcihaaW.PrintLast Go.Proofs.YtolbhliepkcihaaW.PrintMore
theorem wpStill_load_at {P : Program} {ops : Array Oper} {rest : List Oper} {o : Oper} {a : Act} {w : World} {Q : Act → Prop} (hgd : o.guard = none) (ty : TypeId) (x : Operand) (ho : o.op = .load ty x)
    (A : Addr) (hx : a.eval x = .pointer (some A)) (v : Value) (hv : (loadVar ty A).run P w = .ok v w)
    (h : wpStill P ops w Q rest (a.put o.dst v)) : wpStill P ops w Q (o :: rest) a := by
  refine wpStill_step (fun K hK => ?_)
  have hw : Region.wanted o (yielded ops a.tmps) = true := by simp [Region.wanted, hgd]
  rw [if_pos hw]
  unfold Oper.still execOp
  simp only [ho, hx, Instr.loadAt, Instr.sureAddr, Sem.run_bind, Sem.run_pure, Result.andThen_ok, hv]
  rw [Oper.stillUpon_value]
  exact hK _ h
theorem index64 (f : Nat → Int) (t : Nat) (ht : t < 64) (w : World) : (Instr.index 127 (.agg (ka .u32 64 f)) (.int .i64 (t : Int))).run Try.prog w = .ok (.int .u32 (f t)) w := by
  have hs : (sizeOf 25).run Try.prog w = .ok 1 w := by kernel_rfl
  have ha : (isAgg 25).run Try.prog w = .ok false w := by kernel_rfl
  simp [Instr.index, asIntOf, run_underlying Try.underlying127, ht, hs, part, ha, Sem.run_bind, Result.andThen, ka_at _ ht]
/-- number i of a state -/
def St.at (s : St) (i : Nat) : Nat := s.list.getD i 0
theorem St.arr_eq (s : St) : s.arr = ka .u32 8 fun i => ((s.at i : Nat) : Int) := rfl
theorem size8 (f : Nat → Int) : (Try.prog.info? 86).map (·.size) = some (ka .u32 8 f).size := by rw [ka_size]; kernel_rfl
theorem size8s (s : St) : (Try.prog.info? 86).map (·.size) = some s.arr.size := by rw [St.arr_eq]; exact size8 _
theorem one8s (s : St) : s.arr.all (·.oneCell') = true := by rw [St.arr_eq]; exact ka_one _ _ _
theorem zero8 : #[Value.int .u32 0, .int .u32 0, .int .u32 0, .int .u32 0, .int .u32 0, .int .u32 0, .int .u32 0, .int .u32 0] = ka .u32 8 fun _ => 0 := rfl
theorem addS_at (s t : St) (i : Nat) (hi : i < 8) : (addS s t).at i = (s.at i + t.at i) % M := by
  have : i = 0 ∨ i = 1 ∨ i = 2 ∨ i = 3 ∨ i = 4 ∨ i = 5 ∨ i = 6 ∨ i = 7 := by omega
  rcases this with rfl | rfl | rfl | rfl | rfl | rfl | rfl | rfl <;> rfl
/-- the first t numbers of a state are added to -/
def acut (x s : St) (t i : Nat) : Int := if i < t then (((x.at i + s.at i) % M : Nat) : Int) else ((x.at i : Nat) : Int)
theorem acut_ge (x s : St) (t i : Nat) (h : t ≤ i) : acut x s t i = ((x.at i : Nat) : Int) := if_neg (by omega)
theorem acut_set (x s : St) (t : Nat) (ht : t < 8) : (ka .u32 8 (acut x s t)).setIfInBounds t (.int .u32 ((((x.at t : Nat) : Int) + ((s.at t : Nat) : Int)) % 4294967296)) = ka .u32 8 (acut x s (t + 1)) := by
  rw [ka_set _ _ ht]
  refine ka_ext fun i _ => ?_
  unfold acut
  by_cases h : i = t
  · subst h; rw [if_pos rfl, if_pos (by omega)]; unfold M; omega
  · rw [if_neg h]
    by_cases h2 : i < t
    · rw [if_pos h2, if_pos (by omega)]
    · rw [if_neg h2, if_neg (by omega)]
set_option maxRecDepth 100000 in
set_option maxHeartbeats 4000000 in
theorem mix_any (s : St) (hs : s.Ok) (b : ByteArray) (hb : b.size = 64) (kb cap : Nat) (_hcap : 64 ≤ cap) (w : World) (hk : ∀ i, i < 64 → w.cell? ⟨kb, i, none⟩ = some (.int .u32 ((keyN i : Nat) : Int))) :
    Calls Try.prog 72 #[.agg s.arr, .slice (some ⟨kb, 0, none⟩) 64 cap, .string b] w fun e w' => e = .returned (.agg (mixS s b).arr) ∧ Below w.heap.size w w' := by
  have lk := World.block_lt_of_cell? w _ (hk 0 (by decide))
  have HK := Lib.hid hk
  clear hk
  go_enter Try.func72, Try.ntmps72
  obtain ⟨g, hg⟩ : ∃ g, w.heap.size = g := ⟨_, rfl⟩
  have L0 := Blk.new w 86 s.arr
  have L1 := Blk.new (w.alloc (.cells s.arr 86)) 86 (ka .u32 8 fun _ => 0)
  have L2 := Blk.new ((w.alloc (.cells s.arr 86)).alloc (.cells (ka .u32 8 fun _ => 0) 86)) 86 (ka .u32 8 fun _ => 0)
  have B0 : Below w.heap.size w (((w.alloc (.cells s.arr 86)).alloc (.cells (ka .u32 8 fun _ => 0) 86)).alloc (.cells (ka .u32 8 fun _ => 0) 86)) := (((Below.refl _ _).alloc (Nat.le_refl _) _).alloc (by simp) _).alloc (by simp; omega) _
  simp only [World.size_alloc] at L1 L2
  rw [hg] at L0 L1 L2 B0 lk
  have HG := Lib.hid hg
  go_wp2_with (first | (rw [zero8]; refine wpList_load_row rfl 86 _ rfl g rfl 86 _ (0, 0) _ (L0.alloc _) Try.underlying86 rfl (size8s s) ?_) | (rw [zero8]; refine wpList_store_row rfl 86 _ _ rfl (g + 1 + 1) _ rfl rfl 86 _ L2 (size8s s) (by rw [St.arr_eq, ka_size, ka_size]) (one8s s) ?_; have A0 := ((L0.alloc (.cells (ka .u32 8 fun _ => 0) 86)).alloc (.cells (ka .u32 8 fun _ => 0) 86)).row_far (g' := g + 1 + 1) (by omega) s.arr; have A1 := (L1.alloc (.cells (ka .u32 8 fun _ => 0) 86)).row_far (g' := g + 1 + 1) (by omega) s.arr; have A2 := L2.row s.arr; have b0 := below_row B0 (g := g + 1 + 1) (by omega) s.arr; generalize World.setRow _ _ _ = w3 at *) | (go_at_call 103; clear L0 L1 L2 B0; refine (words_any b hb _).mono ?_; rintro e w1 ⟨rfl, hb1⟩))
  have z3 := A2.lt
  have A0 := A0.below hb1 A0.lt
  have A1 := A1.below hb1 A1.lt
  have A2 := A2.below hb1 A2.lt
  have b1 : Below g w w1 := b0.trans (hb1.mono (by omega))
  clear hb1 b0 z3
  go_loopw [14] (fun i wr => ∃ t : Nat, t ≤ 64 ∧ i = .int .i64 t ∧ Blk wr (g + 1 + 1) 86 (rounds (wordN b) s t).arr ∧ Blk wr g 86 s.arr ∧ Blk wr (g + 1) 86 (ka .u32 8 fun _ => 0) ∧ Below g w wr) (fun i _ => 64 - (intOf i).toNat)
  case atStart => exact ⟨0, by omega, rfl, A2, A0, A1, b1⟩
  case round =>
    clear A0 A1 A2 b1
    obtain ⟨t, ht, rfl, A2, A0, A1, b1⟩ := hrel
    by_cases hlt : t < 64
    · have hix := index64 (fun t => ((wordN b t : Nat) : Int)) t hlt
      have i0 : (0 : Int) ≤ (t : Int) := by omega
      have i1 : (t : Int) < 64 := by omega
      go_wp2
      have hck : wr.cell? ⟨kb, t, none⟩ = some (.int .u32 ((keyN t : Nat) : Int)) := (World.cell?_of_block (a := ⟨kb, t, none⟩) (b1.block kb lk)).trans (HK.out t hlt)
      have cks : ({ heap := wr.heap, tape := wr.tape, drawn := wr.drawn + 1, os := wr.os, output := wr.output } : World).cell? ⟨kb, t, none⟩ = some (.int .u32 ((keyN t : Nat) : Int)) := hck
      have hld := run_loadVar_row (P := Try.prog) wr.drew (g + 1 + 1) 86 86 _ (0, 0) _ A2.drew Try.underlying86 rfl (size8s _)
      go_still_tail 6, (by kernel_rfl)
      refine wpStill_load_at rfl 86 _ rfl ⟨g + 1 + 1, 0, none⟩ rfl _ hld ?_
      repeat still_step
      refine wpStill_nil ?_
      change wpList _ _ _ _ _ wr.drew
      clear cks hck hld hix
      have hok := Ok.rounds hs (wordN b) t
      have HOK := Lib.hid hok
      clear hok
      go_wp2_with (first | (go_at_call 104; refine (round_any _ HOK.out _ _ _).mono ?_; rintro e w5 ⟨rfl, hb5⟩; have z2 := A2.lt; have A0 := A0.drew.below hb5 A0.lt; have A1 := A1.drew.below hb5 A1.lt; have A2 := A2.drew.below hb5 A2.lt; have b5 := (Mem.below_drew b1).trans (hb5.mono (by simp; omega))) | (refine wpList_store_row rfl 86 _ _ rfl (g + 1 + 1) _ rfl rfl 86 _ A2 (size8s _) (by rw [St.arr_eq, St.arr_eq, ka_size, ka_size]) (one8s _) ?_; have C0 := A0.row_far (g' := g + 1 + 1) (by omega) (roundS (rounds (wordN b) s t) (keyN t) (wordN b t)).arr; have C1 := A1.row_far (g' := g + 1 + 1) (by omega) (roundS (rounds (wordN b) s t) (keyN t) (wordN b t)).arr; have C2 := A2.row (roundS (rounds (wordN b) s t) (keyN t) (wordN b t)).arr; have b6 := below_row b5 (g := g + 1 + 1) (by omega) (roundS (rounds (wordN b) s t) (keyN t) (wordN b t)).arr; generalize w5.setRow (g + 1 + 1) (roundS (rounds (wordN b) s t) (keyN t) (wordN b t)).arr = w6 at *))
      go_roundw
      case rel => exact ⟨t + 1, by omega, by go_num, C2, C0, C1, b6⟩
      case measure => simp [intOf]; omega
    · obtain rfl : t = 64 := by omega
      rw [show ((64 : Nat) : Int) = 64 from rfl]
      go_wp2
      obtain ⟨x, hx⟩ : ∃ x, rounds (wordN b) s 64 = x := ⟨_, rfl⟩
      rw [hx] at A2
      have HX := Lib.hid hx
      clear hx
      go_loopw [26] (fun i wi => ∃ t : Nat, t ≤ 8 ∧ i = .int .i64 t ∧ Blk wi (g + 1 + 1) 86 (ka .u32 8 (acut x s t)) ∧ Blk wi g 86 s.arr ∧ Blk wi (g + 1) 86 (ka .u32 8 fun _ => 0) ∧ Below g w wi) (fun i _ => 8 - (intOf i).toNat)
      case atStart => exact ⟨0, by omega, rfl, A2, A0, A1, b1⟩
      case round =>
        clear A0 A1 A2 b1
        rename_i wi _
        obtain ⟨t, ht, rfl, A2, A0, A1, b1⟩ := hrel
        by_cases hlt : t < 8
        · have i0 : (0 : Int) ≤ (t : Int) := by omega
          have i1 : (t : Int) < 8 := by omega
          have c2 := A2.cell t
          rw [ka_at _ hlt, acut_ge x s t t (Nat.le_refl _)] at c2
          have c0 := A0.cell t
          rw [St.arr_eq, ka_at _ hlt] at c0
          have f2 := A2.frozen t
          go_wp2
          go_region
          go_wp2
          go_roundw
          case rel =>
            refine ⟨t + 1, by omega, by go_num, ?_, A0.drew.far (p := ⟨g + 1 + 1, t, none⟩) (by simp; omega) _, A1.drew.far (p := ⟨g + 1 + 1, t, none⟩) (by simp) _, (Mem.below_drew b1).setCell (p := ⟨g + 1 + 1, t, none⟩) (by simp; omega) _⟩
            have H3 := A2.drew.set_ t (.int .u32 ((((x.at t : Nat) : Int) + ((s.at t : Nat) : Int)) % 4294967296))
            rw [acut_set x s t hlt] at H3
            exact H3
          case measure => simp [intOf]; omega
        · obtain rfl : t = 8 := by omega
          rw [show ((8 : Nat) : Int) = 8 from rfl]
          have e : ka .u32 8 (acut x s 8) = (mixS s b).arr := by
            rw [St.arr_eq]
            refine ka_ext fun i hi => ?_
            unfold mixS
            rw [HX.out, addS_at _ _ _ hi]
            exact if_pos hi
          rw [e] at A2
          have HE := Lib.hid e
          clear e
          go_wp2_with (first | (refine wpList_load_row rfl 86 _ rfl (g + 1 + 1) rfl 86 _ (0, 0) _ A2 Try.underlying86 rfl (size8s _) ?_) | (refine wpList_store_row rfl 86 _ _ rfl (g + 1) _ rfl rfl 86 _ A1 (size8s _) (by rw [St.arr_eq, ka_size, ka_size]) (one8s _) ?_))
          exact bodyPost_ret (results_cell_row rfl _ _ (g + 1) 86 _ (0, 0) _ rfl (A1.row _) Try.underlying86 rfl (size8s _)) rfl ⟨rfl, by rw [HG.out]; exact below_row b1 (Nat.le_succ g) _⟩
end Go.Proofs.Ytolbhliepkcihaa.Sha
