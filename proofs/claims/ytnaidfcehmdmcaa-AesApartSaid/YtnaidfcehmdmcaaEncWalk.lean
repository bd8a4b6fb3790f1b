/- aes.Encrypt: the step behind a key, and Encrypt: the walks. -/
import Derived.Test.YtnaidfcehmdmcaaKeysCon
import Derived.StillTailTactics
namespace Go.Proofs.Ytnaidfcehmdmcaa.Key
open Go.RowKit Go.Proofs.Ytnaidfcehmdmcaa.FC Go.Proofs.Ytnaidfcehmdmcaa.Mem Go.Proofs.Ytnaidfcehmdmcaa.AS Go.Proofs.Ytnaidfcehmdmcaa.Row
open Go.Proofs.YtnaidfcehmdmcaaW.PrintWords Go.Proofs.YtnaidfcehmdmcaaW.PrintLast Go.Proofs.YtnaidfcehmdmcaaW.PrintMore

def subA (st : Nat → Int) (i : Nat) : Int := boxI (st (tplace i))
def encR (T : Nat → ByteArray) (N : Nat) (st : Nat → Int) : Nat → Nat → Int
  | 0 => fun i => bits .xor .u8 (st i) (bt (T 0) i)
  | m + 1 => fun i => bits .xor .u8 ((if m + 2 < N then mixA (subA (encR T N st m)) else subA (encR T N st m)) i) (bt (T (m + 1)) i)
theorem subA_by {st : Nat → Int} (h : ∀ i, By (st i)) (i : Nat) : By (subA st i) := By.box (h _)
theorem mixA_by {st : Nat → Int} (h : ∀ i, By (st i)) (i : Nat) : By (mixA st i) := by
  unfold mixA mixI allI
  exact (h _).xor (((((h _).xor (h _)).xor (h _)).xor (h _)).xor (((h _).xor (h _)).mul ⟨by decide, by decide⟩))
theorem encR_by (T : Nat → ByteArray) (N : Nat) {st : Nat → Int} (h : ∀ i, By (st i)) : ∀ m i, By (encR T N st m i)
  | 0, i => (h i).xor (bt_by _ _)
  | m + 1, i => by
    unfold encR
    refine By.xor ?_ (bt_by _ _)
    split
    · exact mixA_by (subA_by (encR_by T N h m)) i
    · exact subA_by (encR_by T N h m) i
theorem slice36 (rb N cap : Nat) (hN : 1 ≤ N) (h2 : 2 ≤ cap) (w : World) : (Instr.sliceAt 36 (.slice (some ⟨rb, 0, none⟩) N cap) (some (.int .i64 1)) none none).run Try.prog w = .ok (.slice (some ⟨rb, 1, none⟩) (N - 1) (cap - 1)) w := by
  have ht : Try.prog.underlying 36 = some (.slice (Try.prog.elem 36)) := by kernel_rfl
  have hs : (sizeOf (Try.prog.elem 36)).run Try.prog w = .ok 1 w := by kernel_rfl
  rw [run_sliceAt_slice w 36 _ _ _ _ ht, run_slice_l w 36 _ _ _ ht .i64 1 (by omega) (by omega), hs, Result.andThen_ok]
  unfold sliced
  rw [if_neg (by simp; omega)]
  simp [Addr.add]
theorem load_var62 (f : Nat → Int) (g : Nat) (w : World) (h : Blk w g 62 (u8a 16 f)) : (loadVar 62 ⟨g, 0, none⟩).run Try.prog w = .ok (.agg (u8a 16 f)) w :=
  load62 f g 0 w fun i hi => by rw [Nat.zero_add, h.cell, u8a_at f hi]

theorem turned_sub (st : Nat → Int) (w : World) : Calls Try.prog 50 #[.agg (u8a 16 fun i => boxI (st i))] w fun e w' => e = .returned (.agg (u8a 16 (subA st))) ∧ Below w.heap.size w w' := turned_any _ w
theorem wpStill_load_at {P : Program} {ops : Array Oper} {rest : List Oper} {o : Oper} {a : Act} {w : World} {Q : Act → Prop} (hgd : o.guard = none) (ty : TypeId) (x : Operand) (ho : o.op = .load ty x)
    (A : Addr) (hx : a.eval x = .pointer (some A)) (v : Value) (hv : (loadVar ty A).run P w = .ok v w)
    (h : wpStill P ops w Q rest (a.put o.dst v)) : wpStill P ops w Q (o :: rest) a := by
  refine wpStill_step (fun K hK => ?_)
  have hw : Region.wanted o (yielded ops a.tmps) = true := by simp [Region.wanted, hgd]
  rw [if_pos hw]
  unfold Oper.still execOp
  simp only [ho, hx, Instr.loadAt, Instr.sureAddr, Sem.run_bind, Sem.run_pure, Result.andThen_ok, hv]
  rw [Oper.stillUpon_value]
  exact hK _ h

set_option maxRecDepth 100000 in
set_option maxHeartbeats 4000000 in
theorem step55 (T : Nat → ByteArray) (N M cap rb kb : Nat) (hM : N - 1 = M) (hT : ∀ i, i < N → (T i).size = 16) (hN : 2 ≤ N) (hN2 : N ≤ 100) (hcap : N ≤ cap) (st : Nat → Int) (hst : ∀ i, By (st i)) (w : World)
    (hk : w.cell? ⟨kb, 0, none⟩ = some (.slice (some ⟨rb, 0, none⟩) N cap)) (hr : ∀ i, i < N → w.cell? ⟨rb, i, none⟩ = some (.string (T i))) :
    Calls Try.prog 55 #[.agg (u8a 16 st), .pointer (some ⟨kb, 0, none⟩)] w fun e w' => e = .returned (.agg (u8a 16 (encR T N st M))) ∧ Below w.heap.size w w' := by
  have lk := World.block_lt_of_cell? w _ hk
  have lr := World.block_lt_of_cell? w _ (hr 0 (by omega))
  go_enter Try.func55, Try.ntmps55
  go_wp2
  rw [zero16]
  have H1 := (Blk.new w 62 (u8a 16 st)).alloc (.cells (u8a 16 fun _ => 0) 62)
  have H2 := Blk.new (w.alloc (.cells (u8a 16 st) 62)) 62 (u8a 16 fun _ => 0)
  have B0 : Below w.heap.size w ((w.alloc (.cells (u8a 16 st) 62)).alloc (.cells (u8a 16 fun _ => 0) 62)) := ((Below.refl _ _).alloc (Nat.le_refl _) _).alloc (by simp) _
  rw [World.size_alloc] at H2
  generalize (w.alloc (.cells (u8a 16 st) 62)).alloc (.cells (u8a 16 fun _ => 0) 62) = w2 at *
  generalize hg : w.heap.size = g at *
  have hk2 : w2.cell? ⟨kb, 0, none⟩ = some (.slice (some ⟨rb, 0, none⟩) N cap) := (World.cell?_of_block (a := ⟨kb, 0, none⟩) (B0.block kb lk)).trans hk
  have hr2 : w2.cell? ⟨rb, 0, none⟩ = some (.string (T 0)) := (World.cell?_of_block (a := ⟨rb, 0, none⟩) (B0.block rb lr)).trans (hr 0 (by omega))
  have hl62 := load_var62 st g w2.drew H1.drew
  have h0N : 0 < N := by omega
  obtain ⟨cp, hcp⟩ : ∃ cp, cap - 1 = cp := ⟨_, rfl⟩
  have hsl := slice36 rb N cap (by omega) (by omega)
  rw [hM, hcp] at hsl
  go_still_tail 4, (by kernel_rfl)
  refine wpStill_load_at rfl 62 _ rfl ⟨g, 0, none⟩ rfl _ hl62 ?_
  repeat still_step
  refine wpStill_nil ?_
  change wpList _ _ _ _ _ w2.drew
  go_wp2_with (first | (go_at_call 56; refine (with_any st (T 0) (hT 0 (by omega)) _).mono ?_; rintro e w3 ⟨rfl, hb3⟩; have B1 := H1.drew.below hb3 H1.lt; have R1 := H2.drew.below hb3 H2.lt; have b1 := below_row ((below_drew B0).trans (hb3.mono (by have := H1.lt; simp; omega))) (Nat.le_refl g) (u8a 16 fun i => bits .xor .u8 (st i) (bt (T 0) i))) | (refine wpList_store_row rfl 62 _ _ rfl g _ rfl rfl 62 _ B1 (size62 _) (by rw [u8a_size, u8a_size]) (u8a_one _ _) ?_; have B2 := B1.row (u8a 16 fun i => bits .xor .u8 (st i) (bt (T 0) i)); have R2 := R1.row_far (g' := g) (by simp) (u8a 16 fun i => bits .xor .u8 (st i) (bt (T 0) i)); generalize w3.setRow g (u8a 16 fun i => bits .xor .u8 (st i) (bt (T 0) i)) = w4 at *; have hk4 : w4.cell? ⟨kb, 0, none⟩ = some (.slice (some ⟨rb, 0, none⟩) N cap) := (World.cell?_of_block (a := ⟨kb, 0, none⟩) (b1.block kb lk)).trans hk))
  have E0 : (fun i => bits .xor .u8 (st i) (bt (T 0) i)) = encR T N st 0 := rfl
  rw [E0] at B2
  clear E0 H1 H2 B0 hk2 hr2 hl62 B1 R1 hk4 hb3
  go_loopw [14] (fun i wr => ∃ m : Nat, m ≤ M ∧ i = .int .i64 m ∧ Blk wr g 62 (u8a 16 (encR T N st m)) ∧ Blk wr (g + 1) 62 (u8a 16 fun _ => 0) ∧ Below g w wr) (fun i _ => M - (intOf i).toNat)
  case atStart => exact ⟨0, by omega, rfl, B2, R2, b1⟩
  case round =>
    clear B2 R2 b1
    obtain ⟨m, hm, rfl, B2, R2, b1⟩ := hrel
    have hk5 : wr.cell? ⟨kb, 0, none⟩ = some (.slice (some ⟨rb, 0, none⟩) N cap) := (World.cell?_of_block (a := ⟨kb, 0, none⟩) (b1.block kb lk)).trans hk
    by_cases hlt : m < M
    · have hr5 : wr.cell? ⟨rb, 1 + m, none⟩ = some (.string (T (m + 1))) := (World.cell?_of_block (a := ⟨rb, 1 + m, none⟩) (b1.block rb lr)).trans (by rw [Nat.add_comm]; exact hr (m + 1) (by omega))
      have hi : (m : Int) < (M : Int) := by omega
      by_cases hlast : m + 2 < N
      · have hl : (m : Int) < (N : Int) - 2 := by omega
        go_wp2_with (first | (go_at_call 49; refine (boxed_any (encR T N st m) (fun i _ => encR_by T N hst m i) _).mono ?_; rintro e wa ⟨rfl, h11⟩; have B11 := B2.below h11 B2.lt; have R11 := R2.below h11 R2.lt; have b11 := b1.trans (h11.mono (Nat.le_of_lt B2.lt))) | (go_at_call 50; refine (turned_sub (encR T N st m) _).mono ?_; rintro e wb ⟨rfl, h12⟩; have B12 := B11.below h12 B11.lt; have R12 := R11.below h12 R11.lt; have b12 := b11.trans (h12.mono (Nat.le_of_lt B11.lt))) | (refine wpList_store_row rfl 62 _ _ rfl g _ rfl rfl 62 _ B12 (size62 _) (by rw [u8a_size, u8a_size]) (u8a_one _ _) ?_; have B13 := B12.row (u8a 16 (subA (encR T N st m))); have R13 := R12.row_far (g' := g) (by simp) (u8a 16 (subA (encR T N st m))); have b13 := below_row b12 (Nat.le_refl g) (u8a 16 (subA (encR T N st m))); generalize wb.setRow g (u8a 16 (subA (encR T N st m))) = wc at *; have hk13 : wc.cell? ⟨kb, 0, none⟩ = some (.slice (some ⟨rb, 0, none⟩) N cap) := (World.cell?_of_block (a := ⟨kb, 0, none⟩) (b13.block kb lk)).trans hk) | (go_at_call 51; refine (mixed_any (subA (encR T N st m)) (fun i _ => subA_by (encR_by T N hst m) i) _).mono ?_; rintro e wd ⟨rfl, h14⟩; have B14 := B13.below h14 B13.lt; have R14 := R13.below h14 R13.lt; have b14 := b13.trans (h14.mono (Nat.le_of_lt B13.lt))) | (refine wpList_store_row rfl 62 _ _ rfl g _ rfl rfl 62 _ B14 (size62 _) (by rw [u8a_size, u8a_size]) (u8a_one _ _) ?_; have B15 := B14.row (u8a 16 (mixA (subA (encR T N st m)))); have R15 := R14.row_far (g' := g) (by simp) (u8a 16 (mixA (subA (encR T N st m)))); have b15 := below_row b14 (Nat.le_refl g) (u8a 16 (mixA (subA (encR T N st m)))); generalize wd.setRow g (u8a 16 (mixA (subA (encR T N st m)))) = we at *; have hk15 : we.cell? ⟨kb, 0, none⟩ = some (.slice (some ⟨rb, 0, none⟩) N cap) := (World.cell?_of_block (a := ⟨kb, 0, none⟩) (b15.block kb lk)).trans hk) | (go_at_call 56; refine (with_any (mixA (subA (encR T N st m))) (T (m + 1)) (hT _ (by omega)) _).mono ?_; rintro e wf ⟨rfl, h16⟩; have B16 := B15.below h16 B15.lt; have R16 := R15.below h16 R15.lt; have b16 := b15.trans (h16.mono (Nat.le_of_lt B15.lt))) | (refine wpList_store_row rfl 62 _ _ rfl g _ rfl rfl 62 _ B16 (size62 _) (by rw [u8a_size, u8a_size]) (u8a_one _ _) ?_; have B17 := B16.row (u8a 16 (fun i => bits .xor .u8 (mixA (subA (encR T N st m)) i) (bt (T (m + 1)) i))); have R17 := R16.row_far (g' := g) (by simp) (u8a 16 (fun i => bits .xor .u8 (mixA (subA (encR T N st m)) i) (bt (T (m + 1)) i))); have b17 := below_row b16 (Nat.le_refl g) (u8a 16 (fun i => bits .xor .u8 (mixA (subA (encR T N st m)) i) (bt (T (m + 1)) i))); generalize wf.setRow g (u8a 16 (fun i => bits .xor .u8 (mixA (subA (encR T N st m)) i) (bt (T (m + 1)) i))) = wg at *; have hk17 : wg.cell? ⟨kb, 0, none⟩ = some (.slice (some ⟨rb, 0, none⟩) N cap) := (World.cell?_of_block (a := ⟨kb, 0, none⟩) (b17.block kb lk)).trans hk) | (refine wpList_load_row rfl 62 _ rfl g rfl 62 _ (0, 0) _ B15 Try.underlying62 rfl (size62 _) ?_) | (refine wpList_load_row rfl 62 _ rfl g rfl 62 _ (0, 0) _ B13 Try.underlying62 rfl (size62 _) ?_) | (refine wpList_load_row rfl 62 _ rfl g rfl 62 _ (0, 0) _ B2 Try.underlying62 rfl (size62 _) ?_))
        go_roundw
        case rel =>
          refine ⟨m + 1, by omega, by go_num, ?_, R17, b17⟩
          have e : (fun i => bits .xor .u8 (mixA (subA (encR T N st m)) i) (bt (T (m + 1)) i)) = encR T N st (m + 1) := by
            show _ = (fun i => bits .xor .u8 ((if m + 2 < N then mixA (subA (encR T N st m)) else subA (encR T N st m)) i) (bt (T (m + 1)) i))
            rw [if_pos hlast]
          rw [← e]
          exact B17
        case measure => simp [intOf]; omega
      · have hl : ¬ (m : Int) < (N : Int) - 2 := by omega
        go_wp2_with (first | (go_at_call 49; refine (boxed_any (encR T N st m) (fun i _ => encR_by T N hst m i) _).mono ?_; rintro e wa ⟨rfl, h11⟩; have B11 := B2.below h11 B2.lt; have R11 := R2.below h11 R2.lt; have b11 := b1.trans (h11.mono (Nat.le_of_lt B2.lt))) | (go_at_call 50; refine (turned_sub (encR T N st m) _).mono ?_; rintro e wb ⟨rfl, h12⟩; have B12 := B11.below h12 B11.lt; have R12 := R11.below h12 R11.lt; have b12 := b11.trans (h12.mono (Nat.le_of_lt B11.lt))) | (refine wpList_store_row rfl 62 _ _ rfl g _ rfl rfl 62 _ B12 (size62 _) (by rw [u8a_size, u8a_size]) (u8a_one _ _) ?_; have B13 := B12.row (u8a 16 (subA (encR T N st m))); have R13 := R12.row_far (g' := g) (by simp) (u8a 16 (subA (encR T N st m))); have b13 := below_row b12 (Nat.le_refl g) (u8a 16 (subA (encR T N st m))); generalize wb.setRow g (u8a 16 (subA (encR T N st m))) = wc at *; have hk13 : wc.cell? ⟨kb, 0, none⟩ = some (.slice (some ⟨rb, 0, none⟩) N cap) := (World.cell?_of_block (a := ⟨kb, 0, none⟩) (b13.block kb lk)).trans hk) | (go_at_call 56; refine (with_any (subA (encR T N st m)) (T (m + 1)) (hT _ (by omega)) _).mono ?_; rintro e wf ⟨rfl, h16⟩; have B16 := B13.below h16 B13.lt; have R16 := R13.below h16 R13.lt; have b16 := b13.trans (h16.mono (Nat.le_of_lt B13.lt))) | (refine wpList_store_row rfl 62 _ _ rfl g _ rfl rfl 62 _ B16 (size62 _) (by rw [u8a_size, u8a_size]) (u8a_one _ _) ?_; have B17 := B16.row (u8a 16 (fun i => bits .xor .u8 (subA (encR T N st m) i) (bt (T (m + 1)) i))); have R17 := R16.row_far (g' := g) (by simp) (u8a 16 (fun i => bits .xor .u8 (subA (encR T N st m) i) (bt (T (m + 1)) i))); have b17 := below_row b16 (Nat.le_refl g) (u8a 16 (fun i => bits .xor .u8 (subA (encR T N st m) i) (bt (T (m + 1)) i))); generalize wf.setRow g (u8a 16 (fun i => bits .xor .u8 (subA (encR T N st m) i) (bt (T (m + 1)) i))) = wg at *; have hk17 : wg.cell? ⟨kb, 0, none⟩ = some (.slice (some ⟨rb, 0, none⟩) N cap) := (World.cell?_of_block (a := ⟨kb, 0, none⟩) (b17.block kb lk)).trans hk) | (refine wpList_load_row rfl 62 _ rfl g rfl 62 _ (0, 0) _ B13 Try.underlying62 rfl (size62 _) ?_) | (refine wpList_load_row rfl 62 _ rfl g rfl 62 _ (0, 0) _ B2 Try.underlying62 rfl (size62 _) ?_))
        go_roundw
        case rel =>
          refine ⟨m + 1, by omega, by go_num, ?_, R17, b17⟩
          have e : (fun i => bits .xor .u8 (subA (encR T N st m) i) (bt (T (m + 1)) i)) = encR T N st (m + 1) := by
            show _ = (fun i => bits .xor .u8 ((if m + 2 < N then mixA (subA (encR T N st m)) else subA (encR T N st m)) i) (bt (T (m + 1)) i))
            rw [if_neg hlast]
          rw [← e]
          exact B17
        case measure => simp [intOf]; omega
    · obtain rfl : m = M := by omega
      go_wp2_with (first | (refine wpList_load_row rfl 62 _ rfl g rfl 62 _ (0, 0) _ B2 Try.underlying62 rfl (size62 _) ?_) | (refine wpList_store_row rfl 62 _ _ rfl (g + 1) _ rfl rfl 62 _ R2 (size62 _) (by rw [u8a_size, u8a_size]) (u8a_one _ _) ?_))
      refine bodyPost_ret (results_cell_row rfl _ _ (g + 1) 62 _ (0, 0) _ rfl (R2.row _) Try.underlying62 rfl (size62 _)) rfl ⟨rfl, by rw [hg]; exact below_row b1 (Nat.le_succ g) _⟩
set_option maxRecDepth 100000 in
set_option maxHeartbeats 4000000 in
theorem done55 (block : ByteArray) (h16 : block.size = 16) (w : World) (out : Nat → Int) (kb : Nat)
    (hstep : ∀ W : World, Below w.heap.size w W → Calls Try.prog 55 #[.agg (u8a 16 fun i => bt block i), .pointer (some ⟨kb, 0, none⟩)] W fun e w' => e = .returned (.agg (u8a 16 out)) ∧ Below W.heap.size W w') :
    Calls Try.prog 48 #[.string block, .func (.func 55) #[] #[.pointer (some ⟨kb, 0, none⟩)]] w fun e w' => e = .returned (.tuple #[.string (txt out), .int .i64 0]) ∧ Below w.heap.size w w' := by
  have HS := Lib.hid hstep
  clear hstep
  have hcv := Lib.run_convert_string_bytes (P := Try.prog) w 9 29 5 block Try.underlying9 Try.underlying29 Try.underlying5
  rw [h16] at hcv
  have har := array62 (some ⟨w.heap.size, 0, none⟩) (grownCap w 16 0 5)
  have hld := Lib.hid (load62 (fun i => bt block i) w.heap.size 0 (Lib.bytesWorld w 5 block) (fun i hi => by rw [Nat.zero_add, Lib.bytesWorld_cell w 5 block i (by omega), data_at block i (by omega)]))
  have b1 := Lib.hid (below_bytes w block)
  have hz := Lib.bytesWorld_size w 5 block
  have hne : ((block.size : Int) != 16) = false := by rw [h16]; rfl
  go_enter Try.func48, Try.ntmps48
  go_wp2_with (first | (refine wpList_load_at rfl 62 _ rfl ⟨w.heap.size, 0, none⟩ rfl _ hld.out ?_))
  refine (HS.out _ b1.out).mono ?_
  rintro e w2 ⟨rfl, hb2⟩
  have hsl := slice62a w2.heap.size
  have bw2 : Below w.heap.size w w2 := b1.out.trans (hb2.mono (by rw [hz]; omega))
  have hzw : w.heap.size ≤ w2.heap.size := bw2.size
  clear hcv har hb2 hz
  go_wp2_with (first | (refine wpList_store_row rfl 62 _ _ rfl w2.heap.size _ rfl rfl 62 _ (Blk.new w2 62 _) (size62 _) (by rw [u8a_size]; rfl) (u8a_one _ _) ?_; have A1 := (Blk.new w2 62 #[Value.int .u8 0, .int .u8 0, .int .u8 0, .int .u8 0, .int .u8 0, .int .u8 0, .int .u8 0, .int .u8 0, .int .u8 0, .int .u8 0, .int .u8 0, .int .u8 0, .int .u8 0, .int .u8 0, .int .u8 0, .int .u8 0]).row (u8a 16 out); have B1 := below_row (bw2.alloc hzw (.cells #[Value.int .u8 0, .int .u8 0, .int .u8 0, .int .u8 0, .int .u8 0, .int .u8 0, .int .u8 0, .int .u8 0, .int .u8 0, .int .u8 0, .int .u8 0, .int .u8 0, .int .u8 0, .int .u8 0, .int .u8 0, .int .u8 0] 62)) hzw (u8a 16 out); generalize World.setRow _ _ _ = w3 at *; have hc3 := conv_txt out w2.heap.size 62 w3 A1))
  go_ret2
  exact ⟨rfl, B1⟩
theorem done55_no (block : ByteArray) (h16 : block.size ≠ 16) (kb : Nat) (w : World) :
    Calls Try.prog 48 #[.string block, .func (.func 55) #[] #[.pointer (some ⟨kb, 0, none⟩)]] w fun e w' => e = .returned (.tuple #[.string ⟨#[]⟩, .int .i64 4]) ∧ Below w.heap.size w w' := by
  have hne : ((block.size : Int) != 16) = true := by rw [bne_iff_ne]; omega
  go_enter Try.func48, Try.ntmps48
  go_wp2
  go_ret2
  exact ⟨rfl, Below.refl _ _⟩
end Go.Proofs.Ytnaidfcehmdmcaa.Key
