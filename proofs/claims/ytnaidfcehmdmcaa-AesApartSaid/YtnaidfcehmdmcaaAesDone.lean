/- AES's done, and the three steps that stand over it: the walks. -/
import Derived.Test.YtnaidfcehmdmcaaAesMixed
import Derived.Lib.ConvBytes
import Derived.Laws.BytesArg
namespace Go.Proofs.Ytnaidfcehmdmcaa.AS
open Go.RowKit Go.Proofs.YtnaidfcehmdmcaaW.PrintWords Go.Proofs.YtnaidfcehmdmcaaW.PrintLast Go.Proofs.YtnaidfcehmdmcaaW.PrintMore
open Go.Proofs.Ytnaidfcehmdmcaa.FC Go.Proofs.Ytnaidfcehmdmcaa.Mem

theorem below_bytes (w : World) (s : ByteArray) : Below w.heap.size w (Lib.bytesWorld w 5 s) :=
  ⟨rfl, rfl, rfl, by rw [Lib.bytesWorld_size]; omega, fun i hi => Lib.bytesWorld_at_old w 5 s i hi⟩
theorem load62 (f : Nat → Int) (g c : Nat) (w : World) (h : ∀ i, i < 16 → w.cell? ⟨g, c + i, none⟩ = some (.int .u8 (f i))) : (loadVar 62 ⟨g, c, none⟩).run Try.prog w = .ok (.agg (u8a 16 f)) w := by
  have hl : (loadCells ⟨g, c, none⟩ (u8a 16 f).toList.length).run Try.prog w = .ok (u8a 16 f).toList.toArray w :=
    run_loadCells_list (P := Try.prog) w ⟨g, c, none⟩ (u8a 16 f).toList (fun j v hv => by
      have hj : j < 16 := by
        have := (List.getElem?_eq_some_iff.1 hv).1
        rw [Array.length_toList, u8a_size] at this
        exact this
      have hadd : (⟨g, c, none⟩ : Addr).add j = ⟨g, c + j, none⟩ := by unfold Addr.add; split <;> simp_all
      rw [hadd, h j hj, ← u8a_at f hj]
      simpa using hv)
  have hi := size62 f
  have hu := Try.underlying62
  cases hq : Try.prog.info? 62 with
  | none => simp [hq] at hi
  | some i =>
    have hs : i.size = (u8a 16 f).size := by simpa [hq] using hi
    have hagg : (isAgg 62).run Try.prog w = .ok true w := by
      unfold isAgg
      rw [Sem.run_bind, run_underlying hu w]
      rfl
    simp only [Array.length_toList, Array.toArray_toList] at hl
    simp [loadVar, Sem.run_bind, hagg, sizeOf, typeInfo, hq, hs, hl]
theorem data_at (s : ByteArray) (i : Nat) (hi : i < s.size) : (((s.data.toList.getD i 0).toNat : Nat) : Int) = bt s i := by
  rw [← bt_nat s i hi, List.getD_eq_getElem?_getD, List.getElem?_eq_getElem (by simpa using hi)]
  rfl
/-- what 16 bytes tell as a text -/
def txt (f : Nat → Int) : ByteArray := strOfNums ((List.range 16).map f)
theorem conv_txt (f : Nat → Int) (g : Nat) (t : TypeId) (w : World) (h : Blk w g t (u8a 16 f)) : (convert 29 9 (.slice (some ⟨g, 0, none⟩) 16 16)).run Try.prog w = .ok (.string (txt f)) w := by
  refine run_convert_bytes_arg w 29 5 Try.underlying29 Try.underlying5 g 0 16 16 ((List.range 16).map f) (by simp) (fun i hi => ?_) 9 Try.underlying9
  rw [Nat.zero_add, h.cell, u8a_at f hi]
  simp [List.getElem?_range hi]
theorem slice62a (g : Nat) (w : World) : (Instr.sliceAt 62 (.pointer (some ⟨g, 0, none⟩)) none none none).run Try.prog w = .ok (.slice (some ⟨g, 0, none⟩) 16 16) w := by
  rw [run_sliceAt_array_all w 62 ⟨g, 0, none⟩ ua62, sz62, Result.andThen_ok, al62, slicedAt]
  rfl

set_option maxRecDepth 100000 in
set_option maxHeartbeats 4000000 in
theorem done49 (block : ByteArray) (h16 : block.size = 16) (w : World) (out : Nat → Int)
    (hstep : ∀ W : World, Calls Try.prog 49 #[.agg (u8a 16 fun i => bt block i)] W fun e w' => e = .returned (.agg (u8a 16 out)) ∧ Below W.heap.size W w') :
    Calls Try.prog 48 #[.string block, .func (.func 49) #[] #[]] w fun e w' => e = .returned (.tuple #[.string (txt out), .int .i64 0]) ∧ Below w.heap.size w w' := by
  have HS := Lib.hid hstep
  clear hstep
  have hcv := Lib.run_convert_string_bytes (P := Try.prog) w 9 29 5 block Try.underlying9 Try.underlying29 Try.underlying5
  rw [h16] at hcv
  have har := array62 (some ⟨w.heap.size, 0, none⟩) (grownCap w 16 0 5)
  have hld := Lib.hid (load62 (fun i => bt block i) w.heap.size 0 (Lib.bytesWorld w 5 block) (fun i hi => by rw [Nat.zero_add, Lib.bytesWorld_cell w 5 block i (by omega), data_at block i (by omega)]))
  have b1 := Lib.hid (below_bytes w block)
  have hz := Lib.bytesWorld_size w 5 block
  have hne : ((block.size : Int) != 16) = false := by rw [h16]; rfl
  go_enter Try.func48, Try.ntmps48
  go_wp2_with (first | (refine wpList_load_at rfl 62 _ rfl ⟨w.heap.size, 0, none⟩ rfl _ hld.out ?_))
  refine (HS.out _).mono ?_
  rintro e w2 ⟨rfl, hb2⟩
  have hsl := slice62a w2.heap.size
  have bw2 : Below w.heap.size w w2 := b1.out.trans (hb2.mono (by rw [hz]; omega))
  have hzw : w.heap.size ≤ w2.heap.size := bw2.size
  clear hcv har hb2 hz
  go_wp2_with (first | (refine wpList_store_row rfl 62 _ _ rfl w2.heap.size _ rfl rfl 62 _ (Blk.new w2 62 _) (size62 _) (by rw [u8a_size]; rfl) (u8a_one _ _) ?_; have A1 := (Blk.new w2 62 #[Value.int .u8 0, .int .u8 0, .int .u8 0, .int .u8 0, .int .u8 0, .int .u8 0, .int .u8 0, .int .u8 0, .int .u8 0, .int .u8 0, .int .u8 0, .int .u8 0, .int .u8 0, .int .u8 0, .int .u8 0, .int .u8 0]).row (u8a 16 out); have B1 := below_row (bw2.alloc hzw (.cells #[Value.int .u8 0, .int .u8 0, .int .u8 0, .int .u8 0, .int .u8 0, .int .u8 0, .int .u8 0, .int .u8 0, .int .u8 0, .int .u8 0, .int .u8 0, .int .u8 0, .int .u8 0, .int .u8 0, .int .u8 0, .int .u8 0] 62)) hzw (u8a 16 out); generalize World.setRow _ _ _ = w3 at *; have hc3 := conv_txt out w2.heap.size 62 w3 A1))
  go_ret2
  exact ⟨rfl, B1⟩
theorem done49_no (block : ByteArray) (h16 : block.size ≠ 16) (w : World) :
    Calls Try.prog 48 #[.string block, .func (.func 49) #[] #[]] w fun e w' => e = .returned (.tuple #[.string ⟨#[]⟩, .int .i64 4]) ∧ Below w.heap.size w w' := by
  have hne : ((block.size : Int) != 16) = true := by rw [bne_iff_ne]; omega
  go_enter Try.func48, Try.ntmps48
  go_wp2
  go_ret2
  exact ⟨rfl, Below.refl _ _⟩
set_option maxRecDepth 100000 in
set_option maxHeartbeats 4000000 in
theorem done50 (block : ByteArray) (h16 : block.size = 16) (w : World) (out : Nat → Int)
    (hstep : ∀ W : World, Calls Try.prog 50 #[.agg (u8a 16 fun i => bt block i)] W fun e w' => e = .returned (.agg (u8a 16 out)) ∧ Below W.heap.size W w') :
    Calls Try.prog 48 #[.string block, .func (.func 50) #[] #[]] w fun e w' => e = .returned (.tuple #[.string (txt out), .int .i64 0]) ∧ Below w.heap.size w w' := by
  have HS := Lib.hid hstep
  clear hstep
  have hcv := Lib.run_convert_string_bytes (P := Try.prog) w 9 29 5 block Try.underlying9 Try.underlying29 Try.underlying5
  rw [h16] at hcv
  have har := array62 (some ⟨w.heap.size, 0, none⟩) (grownCap w 16 0 5)
  have hld := Lib.hid (load62 (fun i => bt block i) w.heap.size 0 (Lib.bytesWorld w 5 block) (fun i hi => by rw [Nat.zero_add, Lib.bytesWorld_cell w 5 block i (by omega), data_at block i (by omega)]))
  have b1 := Lib.hid (below_bytes w block)
  have hz := Lib.bytesWorld_size w 5 block
  have hne : ((block.size : Int) != 16) = false := by rw [h16]; rfl
  go_enter Try.func48, Try.ntmps48
  go_wp2_with (first | (refine wpList_load_at rfl 62 _ rfl ⟨w.heap.size, 0, none⟩ rfl _ hld.out ?_))
  refine (HS.out _).mono ?_
  rintro e w2 ⟨rfl, hb2⟩
  have hsl := slice62a w2.heap.size
  have bw2 : Below w.heap.size w w2 := b1.out.trans (hb2.mono (by rw [hz]; omega))
  have hzw : w.heap.size ≤ w2.heap.size := bw2.size
  clear hcv har hb2 hz
  go_wp2_with (first | (refine wpList_store_row rfl 62 _ _ rfl w2.heap.size _ rfl rfl 62 _ (Blk.new w2 62 _) (size62 _) (by rw [u8a_size]; rfl) (u8a_one _ _) ?_; have A1 := (Blk.new w2 62 #[Value.int .u8 0, .int .u8 0, .int .u8 0, .int .u8 0, .int .u8 0, .int .u8 0, .int .u8 0, .int .u8 0, .int .u8 0, .int .u8 0, .int .u8 0, .int .u8 0, .int .u8 0, .int .u8 0, .int .u8 0, .int .u8 0]).row (u8a 16 out); have B1 := below_row (bw2.alloc hzw (.cells #[Value.int .u8 0, .int .u8 0, .int .u8 0, .int .u8 0, .int .u8 0, .int .u8 0, .int .u8 0, .int .u8 0, .int .u8 0, .int .u8 0, .int .u8 0, .int .u8 0, .int .u8 0, .int .u8 0, .int .u8 0, .int .u8 0] 62)) hzw (u8a 16 out); generalize World.setRow _ _ _ = w3 at *; have hc3 := conv_txt out w2.heap.size 62 w3 A1))
  go_ret2
  exact ⟨rfl, B1⟩
theorem done50_no (block : ByteArray) (h16 : block.size ≠ 16) (w : World) :
    Calls Try.prog 48 #[.string block, .func (.func 50) #[] #[]] w fun e w' => e = .returned (.tuple #[.string ⟨#[]⟩, .int .i64 4]) ∧ Below w.heap.size w w' := by
  have hne : ((block.size : Int) != 16) = true := by rw [bne_iff_ne]; omega
  go_enter Try.func48, Try.ntmps48
  go_wp2
  go_ret2
  exact ⟨rfl, Below.refl _ _⟩
set_option maxRecDepth 100000 in
set_option maxHeartbeats 4000000 in
theorem done51 (block : ByteArray) (h16 : block.size = 16) (w : World) (out : Nat → Int)
    (hstep : ∀ W : World, Calls Try.prog 51 #[.agg (u8a 16 fun i => bt block i)] W fun e w' => e = .returned (.agg (u8a 16 out)) ∧ Below W.heap.size W w') :
    Calls Try.prog 48 #[.string block, .func (.func 51) #[] #[]] w fun e w' => e = .returned (.tuple #[.string (txt out), .int .i64 0]) ∧ Below w.heap.size w w' := by
  have HS := Lib.hid hstep
  clear hstep
  have hcv := Lib.run_convert_string_bytes (P := Try.prog) w 9 29 5 block Try.underlying9 Try.underlying29 Try.underlying5
  rw [h16] at hcv
  have har := array62 (some ⟨w.heap.size, 0, none⟩) (grownCap w 16 0 5)
  have hld := Lib.hid (load62 (fun i => bt block i) w.heap.size 0 (Lib.bytesWorld w 5 block) (fun i hi => by rw [Nat.zero_add, Lib.bytesWorld_cell w 5 block i (by omega), data_at block i (by omega)]))
  have b1 := Lib.hid (below_bytes w block)
  have hz := Lib.bytesWorld_size w 5 block
  have hne : ((block.size : Int) != 16) = false := by rw [h16]; rfl
  go_enter Try.func48, Try.ntmps48
  go_wp2_with (first | (refine wpList_load_at rfl 62 _ rfl ⟨w.heap.size, 0, none⟩ rfl _ hld.out ?_))
  refine (HS.out _).mono ?_
  rintro e w2 ⟨rfl, hb2⟩
  have hsl := slice62a w2.heap.size
  have bw2 : Below w.heap.size w w2 := b1.out.trans (hb2.mono (by rw [hz]; omega))
  have hzw : w.heap.size ≤ w2.heap.size := bw2.size
  clear hcv har hb2 hz
  go_wp2_with (first | (refine wpList_store_row rfl 62 _ _ rfl w2.heap.size _ rfl rfl 62 _ (Blk.new w2 62 _) (size62 _) (by rw [u8a_size]; rfl) (u8a_one _ _) ?_; have A1 := (Blk.new w2 62 #[Value.int .u8 0, .int .u8 0, .int .u8 0, .int .u8 0, .int .u8 0, .int .u8 0, .int .u8 0, .int .u8 0, .int .u8 0, .int .u8 0, .int .u8 0, .int .u8 0, .int .u8 0, .int .u8 0, .int .u8 0, .int .u8 0]).row (u8a 16 out); have B1 := below_row (bw2.alloc hzw (.cells #[Value.int .u8 0, .int .u8 0, .int .u8 0, .int .u8 0, .int .u8 0, .int .u8 0, .int .u8 0, .int .u8 0, .int .u8 0, .int .u8 0, .int .u8 0, .int .u8 0, .int .u8 0, .int .u8 0, .int .u8 0, .int .u8 0] 62)) hzw (u8a 16 out); generalize World.setRow _ _ _ = w3 at *; have hc3 := conv_txt out w2.heap.size 62 w3 A1))
  go_ret2
  exact ⟨rfl, B1⟩
theorem done51_no (block : ByteArray) (h16 : block.size ≠ 16) (w : World) :
    Calls Try.prog 48 #[.string block, .func (.func 51) #[] #[]] w fun e w' => e = .returned (.tuple #[.string ⟨#[]⟩, .int .i64 4]) ∧ Below w.heap.size w w' := by
  have hne : ((block.size : Int) != 16) = true := by rw [bne_iff_ne]; omega
  go_enter Try.func48, Try.ntmps48
  go_wp2
  go_ret2
  exact ⟨rfl, Below.refl _ _⟩

theorem bt_by (s : ByteArray) (i : Int) : By (bt s i) := ⟨(bt_range s i).1, (bt_range s i).2⟩
def boxedS (s : ByteArray) : ByteArray := txt fun i => boxI (bt s i)
def turnedS (s : ByteArray) : ByteArray := txt fun i => bt s (tplace i)
def mixedS (s : ByteArray) : ByteArray := txt (mixA fun i => bt s i)

theorem Boxed_yes (s : ByteArray) (h16 : s.size = 16) (w : World) : Calls Try.prog 24 #[.string s] w fun e w' => e = .returned (.tuple #[.string (boxedS s), .int .i64 0]) ∧ Below w.heap.size w w' := by
  go_enter Try.func24, Try.ntmps24
  go_wp2_with (go_at_call 48; refine (done49 s h16 _ _ (fun W => boxed_any _ (fun i _ => bt_by _ _) W)).mono ?_; rintro e w' ⟨rfl, hb⟩)
  go_ret2
  exact ⟨rfl, hb⟩
theorem Boxed_no (s : ByteArray) (h16 : s.size ≠ 16) (w : World) : Calls Try.prog 24 #[.string s] w fun e w' => e = .returned (.tuple #[.string ⟨#[]⟩, .int .i64 4]) ∧ Below w.heap.size w w' := by
  go_enter Try.func24, Try.ntmps24
  go_wp2_with (go_at_call 48; refine (done49_no s h16 _).mono ?_; rintro e w' ⟨rfl, hb⟩)
  go_ret2
  exact ⟨rfl, hb⟩

theorem Turned_yes (s : ByteArray) (h16 : s.size = 16) (w : World) : Calls Try.prog 25 #[.string s] w fun e w' => e = .returned (.tuple #[.string (turnedS s), .int .i64 0]) ∧ Below w.heap.size w w' := by
  go_enter Try.func25, Try.ntmps25
  go_wp2_with (go_at_call 48; refine (done50 s h16 _ _ (fun W => turned_any _ W)).mono ?_; rintro e w' ⟨rfl, hb⟩)
  go_ret2
  exact ⟨rfl, hb⟩
theorem Turned_no (s : ByteArray) (h16 : s.size ≠ 16) (w : World) : Calls Try.prog 25 #[.string s] w fun e w' => e = .returned (.tuple #[.string ⟨#[]⟩, .int .i64 4]) ∧ Below w.heap.size w w' := by
  go_enter Try.func25, Try.ntmps25
  go_wp2_with (go_at_call 48; refine (done50_no s h16 _).mono ?_; rintro e w' ⟨rfl, hb⟩)
  go_ret2
  exact ⟨rfl, hb⟩

theorem Mixed_yes (s : ByteArray) (h16 : s.size = 16) (w : World) : Calls Try.prog 26 #[.string s] w fun e w' => e = .returned (.tuple #[.string (mixedS s), .int .i64 0]) ∧ Below w.heap.size w w' := by
  go_enter Try.func26, Try.ntmps26
  go_wp2_with (go_at_call 48; refine (done51 s h16 _ _ (fun W => mixed_any _ (fun i _ => bt_by _ _) W)).mono ?_; rintro e w' ⟨rfl, hb⟩)
  go_ret2
  exact ⟨rfl, hb⟩
theorem Mixed_no (s : ByteArray) (h16 : s.size ≠ 16) (w : World) : Calls Try.prog 26 #[.string s] w fun e w' => e = .returned (.tuple #[.string ⟨#[]⟩, .int .i64 4]) ∧ Below w.heap.size w w' := by
  go_enter Try.func26, Try.ntmps26
  go_wp2_with (go_at_call 48; refine (done51_no s h16 _).mono ?_; rintro e w' ⟨rfl, hb⟩)
  go_ret2
  exact ⟨rfl, hb⟩
end Go.Proofs.Ytnaidfcehmdmcaa.AS
