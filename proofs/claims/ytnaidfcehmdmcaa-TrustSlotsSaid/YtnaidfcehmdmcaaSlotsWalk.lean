/- TrustSlots: the walk, a way at a time. -/
import Derived.Test.YtnaidfcehmdmcaaQSlotsx2
import Derived.Test.YtnaidfcehmdmcaaTrustStub2
namespace Go.Proofs.Ytnaidfcehmdmcaa.TW
open Go.RowKit Go.Proofs.YtnaidfcehmdmcaaW.PrintWords Go.Proofs.YtnaidfcehmdmcaaW.PrintLast Go.Proofs.YtnaidfcehmdmcaaW.PrintMore
open Go.Proofs.Ytnaidfcehmdmcaa.Mem Go.Proofs.Ytnaidfcehmdmcaa.TS
attribute [local go_sem] max2_int min2_int
attribute [local go_sem high] QSlots.eqA48
/-- what a callee leaves, joined to what was left before -/
theorem Bel.step {w w1 w2 : World} (h : Below w.heap.size w w1) (h' : Below w1.heap.size w1 w2) : Below w.heap.size w w2 := h.trans (h'.mono h.size)
def cutS (s : ByteArray) : ByteArray := s.extract 0 (mn (s.size : Int) 100).toNat
theorem cut_any (s : ByteArray) (w : World) : Calls Try.prog 38 #[.string s] w fun e w' => e = .returned (.string (cutS s)) ∧ Below w.heap.size w w' := by
  refine PTrustSlots.saltuslaw10_cut.calls s (cutS s) w ?_
  unfold PTrustSlots.saltuslaw10_cut.f
  have h0 : 0 ≤ mn (s.size : Int) 100 := by unfold mn; split <;> omega
  have h1 : mn (s.size : Int) 100 ≤ s.size := by unfold mn; split <;> omega
  rw [if_pos h0, if_pos h1]
  rfl
theorem alive_any (w : World) : Calls Try.prog 42 #[] w fun e w' => e = .returned (.bool true) ∧ Below w.heap.size w w' := by
  refine QSlots.saltuslaw10_alive.calls true w ?_
  decide +kernel
theorem cell0 {w : World} {g : Nat} {c b : Int} {k : ByteArray} (h : Blk w g 48 (tr c b k)) : w.cell? ⟨g, 0, none⟩ = some (.int .u64 c) := h.cell 0
theorem cell1 {w : World} {g : Nat} {c b : Int} {k : ByteArray} (h : Blk w g 48 (tr c b k)) : w.cell? ⟨g, 1, none⟩ = some (.int .u64 b) := h.cell 1
theorem cell2 {w : World} {g : Nat} {c b : Int} {k : ByteArray} (h : Blk w g 48 (tr c b k)) : w.cell? ⟨g, 2, none⟩ = some (.string k) := h.cell 2
set_option maxRecDepth 100000
set_option maxHeartbeats 8000000

theorem wayA (c b : Int) (k k' : ByteArray) (n : Int) (w : World) 
    (hcut : ∀ W : World, Calls Try.prog 38 #[.string k] W fun e w' => e = .returned (.string k') ∧ Below W.heap.size W w')
    (hnew : ∀ W : World, Calls Try.prog 39 #[.string k'] W fun x w' => x = .returned (.tuple #[.agg (tr 0 0 ⟨#[]⟩), .int .i64 4]) ∧ Below W.heap.size W w')
    (hboot : ∀ W : World, Calls Try.prog 40 #[.agg (tr c b k')] W fun x w' => x = .returned (.tuple #[.agg (tr 0 0 ⟨#[]⟩), .int .i64 1]) ∧ Below W.heap.size W w')
    (hcom : ∀ W : World, Calls Try.prog 41 #[.agg (tr c b k'), .int .u64 n] W fun x w' => x = .returned (.tuple #[.agg (tr 0 0 ⟨#[]⟩), .int .i64 1]) ∧ Below W.heap.size W w')
    (hkey : ∀ W : World, Calls Try.prog 32 #[.string k'] W fun x w' => x = .returned (.bool false) ∧ Drawn0 W w')
    (hright : ∀ W : World, Calls Try.prog 43 #[.agg (tr c b k')] W fun x w' => x = .returned (.bool false) ∧ Below W.heap.size W w') :
    Calls Try.prog 12 #[.agg (tr c b k), .int .u64 n] w fun e w' => e = .returned (.bool true) ∧ Below w.heap.size w w' := by
  have HC := Lib.hid hcut
  have HN := Lib.hid hnew
  have HB := Lib.hid hboot
  have HM := Lib.hid hcom
  have HK := Lib.hid hkey
  have HR := Lib.hid hright
  clear hcut hnew hboot hcom hkey hright
  have b0 := Blk.new w 48 (tr c b k)
  have x2 := cell2 b0
  have fx2 := b0.frozen 2
  have B0 := Lib.hid b0
  have L0 := Lib.hid ((Below.refl w.heap.size w).alloc (Nat.le_refl _) (.cells (tr c b k) 48))
  clear b0
  go_enter Try.func12, Try.ntmps12
  go_wp2_with fail
  refine (HC.out _).mono ?_
  rintro x w1 ⟨rfl, hb⟩
  have B1 := Lib.hid (B0.out.below hb B0.out.lt)
  have L1 := Lib.hid (Bel.step L0.out hb)
  clear hb x2 fx2
  have x2 := cell2 B1.out
  have fx2 := B1.out.frozen 2
  go_wp2_with fail
  have B2 : Hid (Blk (w1.setCell ⟨w.heap.size, 2, none⟩ (.string k')) w.heap.size 48 (tr c b k')) := Lib.hid (B1.out.set_ 2 (.string k'))
  have L2 := Lib.hid (L1.out.setCell (p := ⟨w.heap.size, 2, none⟩) (Nat.le_refl _) (.string k'))
  clear B1 L1 B0 L0 x2 fx2
  generalize w1.setCell ⟨w.heap.size, 2, none⟩ (.string k') = v1 at *
  refine (HN.out _).mono ?_
  rintro x v2 ⟨rfl, hb⟩
  have B3 := Lib.hid (B2.out.below hb B2.out.lt)
  have L3 := Lib.hid (Bel.step L2.out hb)
  clear hb B2 L2
  obtain ⟨p1, hp1⟩ : ∃ p, v2.heap.size = p := ⟨_, rfl⟩
  have Np1 : Hid (Blk (v2.alloc (.cells z48 48)) p1 48 z48) := Lib.hid (by rw [← hp1]; exact Blk.new v2 48 z48)
  have P1 : Hid (Blk ((v2.alloc (.cells z48 48)).setRow p1 (tr 0 0 ⟨#[]⟩)) p1 48 (tr 0 0 ⟨#[]⟩)) := Lib.hid (by rw [← hp1]; exact (Blk.new v2 48 z48).row _)
  have B4 : Hid (Blk ((v2.alloc (.cells z48 48)).setRow p1 (tr 0 0 ⟨#[]⟩)) w.heap.size 48 (tr c b k')) := Lib.hid ((B3.out.alloc _).row_far (by rw [← hp1]; exact Nat.ne_of_lt B3.out.lt) _)
  have L4 := Lib.hid (below_row (L3.out.alloc L3.out.size (.cells z48 48)) (by rw [← hp1]; exact L3.out.size : w.heap.size ≤ p1) (tr 0 0 ⟨#[]⟩))
  go_wp2_with (first | (refine wpList_store_row rfl 48 _ _ rfl p1 _ rfl rfl 48 _ Np1.out (size48 _ _ _) rfl (one48 _ _ _) ?_; generalize World.setRow _ _ _ = v3 at *) | (refine wpList_load_row rfl 48 _ rfl w.heap.size rfl 48 _ (0, 0) _ B4.out Try.underlying48 rfl (size48 _ _ _) ?_))
  refine (HB.out _).mono ?_
  rintro x v4 ⟨rfl, hb⟩
  have B5 := Lib.hid (B4.out.below hb B4.out.lt)
  have P2 := Lib.hid (P1.out.below hb P1.out.lt)
  have L5 := Lib.hid (Bel.step L4.out hb)
  clear hb B4 L4 B3 L3 P1 hp1
  obtain ⟨p2, hp2⟩ : ∃ p, v4.heap.size = p := ⟨_, rfl⟩
  have Np2 : Hid (Blk (v4.alloc (.cells z48 48)) p2 48 z48) := Lib.hid (by rw [← hp2]; exact Blk.new v4 48 z48)
  have Q1 : Hid (Blk ((v4.alloc (.cells z48 48)).setRow p2 (tr 0 0 ⟨#[]⟩)) p2 48 (tr 0 0 ⟨#[]⟩)) := Lib.hid (by rw [← hp2]; exact (Blk.new v4 48 z48).row _)
  have B6 : Hid (Blk ((v4.alloc (.cells z48 48)).setRow p2 (tr 0 0 ⟨#[]⟩)) w.heap.size 48 (tr c b k')) := Lib.hid ((B5.out.alloc _).row_far (by rw [← hp2]; exact Nat.ne_of_lt B5.out.lt) _)
  have P3 : Hid (Blk ((v4.alloc (.cells z48 48)).setRow p2 (tr 0 0 ⟨#[]⟩)) p1 48 (tr 0 0 ⟨#[]⟩)) := Lib.hid ((P2.out.alloc _).row_far (by rw [← hp2]; exact Nat.ne_of_lt P2.out.lt) _)
  have L6 := Lib.hid (below_row (L5.out.alloc L5.out.size (.cells z48 48)) (by rw [← hp2]; exact L5.out.size : w.heap.size ≤ p2) (tr 0 0 ⟨#[]⟩))
  go_wp2_with (first | (refine wpList_store_row rfl 48 _ _ rfl p2 _ rfl rfl 48 _ Np2.out (size48 _ _ _) rfl (one48 _ _ _) ?_; generalize World.setRow _ _ _ = v5 at *) | (refine wpList_load_row rfl 48 _ rfl w.heap.size rfl 48 _ (0, 0) _ B6.out Try.underlying48 rfl (size48 _ _ _) ?_))
  refine (HM.out _).mono ?_
  rintro x v6 ⟨rfl, hb⟩
  have B7 := Lib.hid (B6.out.below hb B6.out.lt)
  have P4 := Lib.hid (P3.out.below hb P3.out.lt)
  have Q2 := Lib.hid (Q1.out.below hb Q1.out.lt)
  have L7 := Lib.hid (Bel.step L6.out hb)
  clear hb B6 L6 B5 L5 P2 P3 Q1 hp2
  obtain ⟨p3, hp3⟩ : ∃ p, v6.heap.size = p := ⟨_, rfl⟩
  have Np3 : Hid (Blk (v6.alloc (.cells z48 48)) p3 48 z48) := Lib.hid (by rw [← hp3]; exact Blk.new v6 48 z48)
  have R1 : Hid (Blk ((v6.alloc (.cells z48 48)).setRow p3 (tr 0 0 ⟨#[]⟩)) p3 48 (tr 0 0 ⟨#[]⟩)) := Lib.hid (by rw [← hp3]; exact (Blk.new v6 48 z48).row _)
  have B8 : Hid (Blk ((v6.alloc (.cells z48 48)).setRow p3 (tr 0 0 ⟨#[]⟩)) w.heap.size 48 (tr c b k')) := Lib.hid ((B7.out.alloc _).row_far (by rw [← hp3]; exact Nat.ne_of_lt B7.out.lt) _)
  have P5 : Hid (Blk ((v6.alloc (.cells z48 48)).setRow p3 (tr 0 0 ⟨#[]⟩)) p1 48 (tr 0 0 ⟨#[]⟩)) := Lib.hid ((P4.out.alloc _).row_far (by rw [← hp3]; exact Nat.ne_of_lt P4.out.lt) _)
  have Q3 : Hid (Blk ((v6.alloc (.cells z48 48)).setRow p3 (tr 0 0 ⟨#[]⟩)) p2 48 (tr 0 0 ⟨#[]⟩)) := Lib.hid ((Q2.out.alloc _).row_far (by rw [← hp3]; exact Nat.ne_of_lt Q2.out.lt) _)
  have L8 := Lib.hid (below_row (L7.out.alloc L7.out.size (.cells z48 48)) (by rw [← hp3]; exact L7.out.size : w.heap.size ≤ p3) (tr 0 0 ⟨#[]⟩))
  have B := B8
  have P := P5
  have Q := Q3
  have R := R1
  have L := L8
  clear B8 P5 Q3 R1 L8 B7 P4 Q2 L7
  go_wp2_with (first | (refine wpList_store_row rfl 48 _ _ rfl p3 _ rfl rfl 48 _ Np3.out (size48 _ _ _) rfl (one48 _ _ _) ?_; generalize World.setRow _ _ _ = v7 at *; have a0 := cell0 B.out; have a1 := cell1 B.out; have a2 := cell2 B.out; have c0 := cell0 P.out; have c1 := cell1 P.out; have c2 := cell2 P.out; have d0 := cell0 Q.out; have d1 := cell1 Q.out; have d2 := cell2 Q.out; have e0 := cell0 R.out; have e1 := cell1 R.out; have e2 := cell2 R.out) | (go_at_call 32; refine (HK.out _).mono ?_; rintro x v8 ⟨rfl, ⟨nd, rfl⟩⟩; replace L := Lib.hid (pw_below_drewN L.out nd)) | (go_at_call 42; refine (alive_any _).mono ?_; rintro x v9 ⟨rfl, hb⟩; clear a0 a1 a2 c0 c1 c2 d0 d1 d2 e0 e1 e2; replace B := Lib.hid (show Blk v9 _ 48 _ from (hb.block _ B.out.lt).trans B.out); replace P := Lib.hid (show Blk v9 _ 48 _ from (hb.block _ P.out.lt).trans P.out); replace Q := Lib.hid (show Blk v9 _ 48 _ from (hb.block _ Q.out.lt).trans Q.out); replace R := Lib.hid (show Blk v9 _ 48 _ from (hb.block _ R.out.lt).trans R.out); replace L := Lib.hid (Bel.step L.out hb); clear hb; have a0 := cell0 B.out; have a1 := cell1 B.out; have a2 := cell2 B.out; have c0 := cell0 P.out; have c1 := cell1 P.out; have c2 := cell2 P.out; have d0 := cell0 Q.out; have d1 := cell1 Q.out; have d2 := cell2 Q.out; have e0 := cell0 R.out; have e1 := cell1 R.out; have e2 := cell2 R.out) | (go_at_call 43; refine (HR.out _).mono ?_; rintro x v9 ⟨rfl, hb⟩; clear a0 a1 a2 c0 c1 c2 d0 d1 d2 e0 e1 e2; replace B := Lib.hid (show Blk v9 _ 48 _ from (hb.block _ B.out.lt).trans B.out); replace P := Lib.hid (show Blk v9 _ 48 _ from (hb.block _ P.out.lt).trans P.out); replace Q := Lib.hid (show Blk v9 _ 48 _ from (hb.block _ Q.out.lt).trans Q.out); replace R := Lib.hid (show Blk v9 _ 48 _ from (hb.block _ R.out.lt).trans R.out); replace L := Lib.hid (Bel.step L.out hb); clear hb; have a0 := cell0 B.out; have a1 := cell1 B.out; have a2 := cell2 B.out; have c0 := cell0 P.out; have c1 := cell1 P.out; have c2 := cell2 P.out; have d0 := cell0 Q.out; have d1 := cell1 Q.out; have d2 := cell2 Q.out; have e0 := cell0 R.out; have e1 := cell1 R.out; have e2 := cell2 R.out))
  go_ret
  exact ⟨by first | rfl | (simp; done) | (simp [*]; done), L.out⟩

theorem wayB (c b : Int) (k k' : ByteArray) (n : Int) (w : World) 
    (hcut : ∀ W : World, Calls Try.prog 38 #[.string k] W fun e w' => e = .returned (.string k') ∧ Below W.heap.size W w')
    (hnew : ∀ W : World, Calls Try.prog 39 #[.string k'] W fun x w' => x = .returned (.tuple #[.agg (tr 0 0 k'), .int .i64 0]) ∧ Below W.heap.size W w')
    (hboot : ∀ W : World, Calls Try.prog 40 #[.agg (tr c b k')] W fun x w' => x = .returned (.tuple #[.agg (tr 0 0 ⟨#[]⟩), .int .i64 1]) ∧ Below W.heap.size W w')
    (hcom : ∀ W : World, Calls Try.prog 41 #[.agg (tr c b k'), .int .u64 n] W fun x w' => x = .returned (.tuple #[.agg (tr 0 0 ⟨#[]⟩), .int .i64 1]) ∧ Below W.heap.size W w')
    (hkey : ∀ W : World, Calls Try.prog 32 #[.string k'] W fun x w' => x = .returned (.bool true) ∧ Drawn0 W w')
    (hright : ∀ W : World, Calls Try.prog 43 #[.agg (tr c b k')] W fun x w' => x = .returned (.bool false) ∧ Below W.heap.size W w') :
    Calls Try.prog 12 #[.agg (tr c b k), .int .u64 n] w fun e w' => e = .returned (.bool true) ∧ Below w.heap.size w w' := by
  have HC := Lib.hid hcut
  have HN := Lib.hid hnew
  have HB := Lib.hid hboot
  have HM := Lib.hid hcom
  have HK := Lib.hid hkey
  have HR := Lib.hid hright
  clear hcut hnew hboot hcom hkey hright
  have b0 := Blk.new w 48 (tr c b k)
  have x2 := cell2 b0
  have fx2 := b0.frozen 2
  have B0 := Lib.hid b0
  have L0 := Lib.hid ((Below.refl w.heap.size w).alloc (Nat.le_refl _) (.cells (tr c b k) 48))
  clear b0
  go_enter Try.func12, Try.ntmps12
  go_wp2_with fail
  refine (HC.out _).mono ?_
  rintro x w1 ⟨rfl, hb⟩
  have B1 := Lib.hid (B0.out.below hb B0.out.lt)
  have L1 := Lib.hid (Bel.step L0.out hb)
  clear hb x2 fx2
  have x2 := cell2 B1.out
  have fx2 := B1.out.frozen 2
  go_wp2_with fail
  have B2 : Hid (Blk (w1.setCell ⟨w.heap.size, 2, none⟩ (.string k')) w.heap.size 48 (tr c b k')) := Lib.hid (B1.out.set_ 2 (.string k'))
  have L2 := Lib.hid (L1.out.setCell (p := ⟨w.heap.size, 2, none⟩) (Nat.le_refl _) (.string k'))
  clear B1 L1 B0 L0 x2 fx2
  generalize w1.setCell ⟨w.heap.size, 2, none⟩ (.string k') = v1 at *
  refine (HN.out _).mono ?_
  rintro x v2 ⟨rfl, hb⟩
  have B3 := Lib.hid (B2.out.below hb B2.out.lt)
  have L3 := Lib.hid (Bel.step L2.out hb)
  clear hb B2 L2
  obtain ⟨p1, hp1⟩ : ∃ p, v2.heap.size = p := ⟨_, rfl⟩
  have Np1 : Hid (Blk (v2.alloc (.cells z48 48)) p1 48 z48) := Lib.hid (by rw [← hp1]; exact Blk.new v2 48 z48)
  have P1 : Hid (Blk ((v2.alloc (.cells z48 48)).setRow p1 (tr 0 0 k')) p1 48 (tr 0 0 k')) := Lib.hid (by rw [← hp1]; exact (Blk.new v2 48 z48).row _)
  have B4 : Hid (Blk ((v2.alloc (.cells z48 48)).setRow p1 (tr 0 0 k')) w.heap.size 48 (tr c b k')) := Lib.hid ((B3.out.alloc _).row_far (by rw [← hp1]; exact Nat.ne_of_lt B3.out.lt) _)
  have L4 := Lib.hid (below_row (L3.out.alloc L3.out.size (.cells z48 48)) (by rw [← hp1]; exact L3.out.size : w.heap.size ≤ p1) (tr 0 0 k'))
  go_wp2_with (first | (refine wpList_store_row rfl 48 _ _ rfl p1 _ rfl rfl 48 _ Np1.out (size48 _ _ _) rfl (one48 _ _ _) ?_; generalize World.setRow _ _ _ = v3 at *) | (refine wpList_load_row rfl 48 _ rfl w.heap.size rfl 48 _ (0, 0) _ B4.out Try.underlying48 rfl (size48 _ _ _) ?_))
  refine (HB.out _).mono ?_
  rintro x v4 ⟨rfl, hb⟩
  have B5 := Lib.hid (B4.out.below hb B4.out.lt)
  have P2 := Lib.hid (P1.out.below hb P1.out.lt)
  have L5 := Lib.hid (Bel.step L4.out hb)
  clear hb B4 L4 B3 L3 P1 hp1
  obtain ⟨p2, hp2⟩ : ∃ p, v4.heap.size = p := ⟨_, rfl⟩
  have Np2 : Hid (Blk (v4.alloc (.cells z48 48)) p2 48 z48) := Lib.hid (by rw [← hp2]; exact Blk.new v4 48 z48)
  have Q1 : Hid (Blk ((v4.alloc (.cells z48 48)).setRow p2 (tr 0 0 ⟨#[]⟩)) p2 48 (tr 0 0 ⟨#[]⟩)) := Lib.hid (by rw [← hp2]; exact (Blk.new v4 48 z48).row _)
  have B6 : Hid (Blk ((v4.alloc (.cells z48 48)).setRow p2 (tr 0 0 ⟨#[]⟩)) w.heap.size 48 (tr c b k')) := Lib.hid ((B5.out.alloc _).row_far (by rw [← hp2]; exact Nat.ne_of_lt B5.out.lt) _)
  have P3 : Hid (Blk ((v4.alloc (.cells z48 48)).setRow p2 (tr 0 0 ⟨#[]⟩)) p1 48 (tr 0 0 k')) := Lib.hid ((P2.out.alloc _).row_far (by rw [← hp2]; exact Nat.ne_of_lt P2.out.lt) _)
  have L6 := Lib.hid (below_row (L5.out.alloc L5.out.size (.cells z48 48)) (by rw [← hp2]; exact L5.out.size : w.heap.size ≤ p2) (tr 0 0 ⟨#[]⟩))
  go_wp2_with (first | (refine wpList_store_row rfl 48 _ _ rfl p2 _ rfl rfl 48 _ Np2.out (size48 _ _ _) rfl (one48 _ _ _) ?_; generalize World.setRow _ _ _ = v5 at *) | (refine wpList_load_row rfl 48 _ rfl w.heap.size rfl 48 _ (0, 0) _ B6.out Try.underlying48 rfl (size48 _ _ _) ?_))
  refine (HM.out _).mono ?_
  rintro x v6 ⟨rfl, hb⟩
  have B7 := Lib.hid (B6.out.below hb B6.out.lt)
  have P4 := Lib.hid (P3.out.below hb P3.out.lt)
  have Q2 := Lib.hid (Q1.out.below hb Q1.out.lt)
  have L7 := Lib.hid (Bel.step L6.out hb)
  clear hb B6 L6 B5 L5 P2 P3 Q1 hp2
  obtain ⟨p3, hp3⟩ : ∃ p, v6.heap.size = p := ⟨_, rfl⟩
  have Np3 : Hid (Blk (v6.alloc (.cells z48 48)) p3 48 z48) := Lib.hid (by rw [← hp3]; exact Blk.new v6 48 z48)
  have R1 : Hid (Blk ((v6.alloc (.cells z48 48)).setRow p3 (tr 0 0 ⟨#[]⟩)) p3 48 (tr 0 0 ⟨#[]⟩)) := Lib.hid (by rw [← hp3]; exact (Blk.new v6 48 z48).row _)
  have B8 : Hid (Blk ((v6.alloc (.cells z48 48)).setRow p3 (tr 0 0 ⟨#[]⟩)) w.heap.size 48 (tr c b k')) := Lib.hid ((B7.out.alloc _).row_far (by rw [← hp3]; exact Nat.ne_of_lt B7.out.lt) _)
  have P5 : Hid (Blk ((v6.alloc (.cells z48 48)).setRow p3 (tr 0 0 ⟨#[]⟩)) p1 48 (tr 0 0 k')) := Lib.hid ((P4.out.alloc _).row_far (by rw [← hp3]; exact Nat.ne_of_lt P4.out.lt) _)
  have Q3 : Hid (Blk ((v6.alloc (.cells z48 48)).setRow p3 (tr 0 0 ⟨#[]⟩)) p2 48 (tr 0 0 ⟨#[]⟩)) := Lib.hid ((Q2.out.alloc _).row_far (by rw [← hp3]; exact Nat.ne_of_lt Q2.out.lt) _)
  have L8 := Lib.hid (below_row (L7.out.alloc L7.out.size (.cells z48 48)) (by rw [← hp3]; exact L7.out.size : w.heap.size ≤ p3) (tr 0 0 ⟨#[]⟩))
  have B := B8
  have P := P5
  have Q := Q3
  have R := R1
  have L := L8
  clear B8 P5 Q3 R1 L8 B7 P4 Q2 L7
  go_wp2_with (first | (refine wpList_store_row rfl 48 _ _ rfl p3 _ rfl rfl 48 _ Np3.out (size48 _ _ _) rfl (one48 _ _ _) ?_; generalize World.setRow _ _ _ = v7 at *; have a0 := cell0 B.out; have a1 := cell1 B.out; have a2 := cell2 B.out; have c0 := cell0 P.out; have c1 := cell1 P.out; have c2 := cell2 P.out; have d0 := cell0 Q.out; have d1 := cell1 Q.out; have d2 := cell2 Q.out; have e0 := cell0 R.out; have e1 := cell1 R.out; have e2 := cell2 R.out) | (go_at_call 32; refine (HK.out _).mono ?_; rintro x v8 ⟨rfl, ⟨nd, rfl⟩⟩; replace L := Lib.hid (pw_below_drewN L.out nd)) | (go_at_call 42; refine (alive_any _).mono ?_; rintro x v9 ⟨rfl, hb⟩; clear a0 a1 a2 c0 c1 c2 d0 d1 d2 e0 e1 e2; replace B := Lib.hid (show Blk v9 _ 48 _ from (hb.block _ B.out.lt).trans B.out); replace P := Lib.hid (show Blk v9 _ 48 _ from (hb.block _ P.out.lt).trans P.out); replace Q := Lib.hid (show Blk v9 _ 48 _ from (hb.block _ Q.out.lt).trans Q.out); replace R := Lib.hid (show Blk v9 _ 48 _ from (hb.block _ R.out.lt).trans R.out); replace L := Lib.hid (Bel.step L.out hb); clear hb; have a0 := cell0 B.out; have a1 := cell1 B.out; have a2 := cell2 B.out; have c0 := cell0 P.out; have c1 := cell1 P.out; have c2 := cell2 P.out; have d0 := cell0 Q.out; have d1 := cell1 Q.out; have d2 := cell2 Q.out; have e0 := cell0 R.out; have e1 := cell1 R.out; have e2 := cell2 R.out) | (go_at_call 43; refine (HR.out _).mono ?_; rintro x v9 ⟨rfl, hb⟩; clear a0 a1 a2 c0 c1 c2 d0 d1 d2 e0 e1 e2; replace B := Lib.hid (show Blk v9 _ 48 _ from (hb.block _ B.out.lt).trans B.out); replace P := Lib.hid (show Blk v9 _ 48 _ from (hb.block _ P.out.lt).trans P.out); replace Q := Lib.hid (show Blk v9 _ 48 _ from (hb.block _ Q.out.lt).trans Q.out); replace R := Lib.hid (show Blk v9 _ 48 _ from (hb.block _ R.out.lt).trans R.out); replace L := Lib.hid (Bel.step L.out hb); clear hb; have a0 := cell0 B.out; have a1 := cell1 B.out; have a2 := cell2 B.out; have c0 := cell0 P.out; have c1 := cell1 P.out; have c2 := cell2 P.out; have d0 := cell0 Q.out; have d1 := cell1 Q.out; have d2 := cell2 Q.out; have e0 := cell0 R.out; have e1 := cell1 R.out; have e2 := cell2 R.out))
  go_ret
  exact ⟨by first | rfl | (simp; done) | (simp [*]; done), L.out⟩

theorem wayC1 (c b : Int) (k k' : ByteArray) (n : Int) (w : World) (h2 : (b == 4294967295) = true) (h4 : decide (b < 4294967295) = false) (h3 : decide (n ≤ c) = true)
    (hcut : ∀ W : World, Calls Try.prog 38 #[.string k] W fun e w' => e = .returned (.string k') ∧ Below W.heap.size W w')
    (hnew : ∀ W : World, Calls Try.prog 39 #[.string k'] W fun x w' => x = .returned (.tuple #[.agg (tr 0 0 k'), .int .i64 0]) ∧ Below W.heap.size W w')
    (hboot : ∀ W : World, Calls Try.prog 40 #[.agg (tr c b k')] W fun x w' => x = .returned (.tuple #[.agg (tr 0 0 ⟨#[]⟩), .int .i64 2]) ∧ Below W.heap.size W w')
    (hcom : ∀ W : World, Calls Try.prog 41 #[.agg (tr c b k'), .int .u64 n] W fun x w' => x = .returned (.tuple #[.agg (tr 0 0 ⟨#[]⟩), .int .i64 2]) ∧ Below W.heap.size W w')
    (hkey : ∀ W : World, Calls Try.prog 32 #[.string k'] W fun x w' => x = .returned (.bool true) ∧ Drawn0 W w')
    (hright : ∀ W : World, Calls Try.prog 43 #[.agg (tr c b k')] W fun x w' => x = .returned (.bool true) ∧ Below W.heap.size W w') :
    Calls Try.prog 12 #[.agg (tr c b k), .int .u64 n] w fun e w' => e = .returned (.bool true) ∧ Below w.heap.size w w' := by
  have HC := Lib.hid hcut
  have HN := Lib.hid hnew
  have HB := Lib.hid hboot
  have HM := Lib.hid hcom
  have HK := Lib.hid hkey
  have HR := Lib.hid hright
  clear hcut hnew hboot hcom hkey hright
  have b0 := Blk.new w 48 (tr c b k)
  have x2 := cell2 b0
  have fx2 := b0.frozen 2
  have B0 := Lib.hid b0
  have L0 := Lib.hid ((Below.refl w.heap.size w).alloc (Nat.le_refl _) (.cells (tr c b k) 48))
  clear b0
  go_enter Try.func12, Try.ntmps12
  go_wp2_with fail
  refine (HC.out _).mono ?_
  rintro x w1 ⟨rfl, hb⟩
  have B1 := Lib.hid (B0.out.below hb B0.out.lt)
  have L1 := Lib.hid (Bel.step L0.out hb)
  clear hb x2 fx2
  have x2 := cell2 B1.out
  have fx2 := B1.out.frozen 2
  go_wp2_with fail
  have B2 : Hid (Blk (w1.setCell ⟨w.heap.size, 2, none⟩ (.string k')) w.heap.size 48 (tr c b k')) := Lib.hid (B1.out.set_ 2 (.string k'))
  have L2 := Lib.hid (L1.out.setCell (p := ⟨w.heap.size, 2, none⟩) (Nat.le_refl _) (.string k'))
  clear B1 L1 B0 L0 x2 fx2
  generalize w1.setCell ⟨w.heap.size, 2, none⟩ (.string k') = v1 at *
  refine (HN.out _).mono ?_
  rintro x v2 ⟨rfl, hb⟩
  have B3 := Lib.hid (B2.out.below hb B2.out.lt)
  have L3 := Lib.hid (Bel.step L2.out hb)
  clear hb B2 L2
  obtain ⟨p1, hp1⟩ : ∃ p, v2.heap.size = p := ⟨_, rfl⟩
  have Np1 : Hid (Blk (v2.alloc (.cells z48 48)) p1 48 z48) := Lib.hid (by rw [← hp1]; exact Blk.new v2 48 z48)
  have P1 : Hid (Blk ((v2.alloc (.cells z48 48)).setRow p1 (tr 0 0 k')) p1 48 (tr 0 0 k')) := Lib.hid (by rw [← hp1]; exact (Blk.new v2 48 z48).row _)
  have B4 : Hid (Blk ((v2.alloc (.cells z48 48)).setRow p1 (tr 0 0 k')) w.heap.size 48 (tr c b k')) := Lib.hid ((B3.out.alloc _).row_far (by rw [← hp1]; exact Nat.ne_of_lt B3.out.lt) _)
  have L4 := Lib.hid (below_row (L3.out.alloc L3.out.size (.cells z48 48)) (by rw [← hp1]; exact L3.out.size : w.heap.size ≤ p1) (tr 0 0 k'))
  go_wp2_with (first | (refine wpList_store_row rfl 48 _ _ rfl p1 _ rfl rfl 48 _ Np1.out (size48 _ _ _) rfl (one48 _ _ _) ?_; generalize World.setRow _ _ _ = v3 at *) | (refine wpList_load_row rfl 48 _ rfl w.heap.size rfl 48 _ (0, 0) _ B4.out Try.underlying48 rfl (size48 _ _ _) ?_))
  refine (HB.out _).mono ?_
  rintro x v4 ⟨rfl, hb⟩
  have B5 := Lib.hid (B4.out.below hb B4.out.lt)
  have P2 := Lib.hid (P1.out.below hb P1.out.lt)
  have L5 := Lib.hid (Bel.step L4.out hb)
  clear hb B4 L4 B3 L3 P1 hp1
  obtain ⟨p2, hp2⟩ : ∃ p, v4.heap.size = p := ⟨_, rfl⟩
  have Np2 : Hid (Blk (v4.alloc (.cells z48 48)) p2 48 z48) := Lib.hid (by rw [← hp2]; exact Blk.new v4 48 z48)
  have Q1 : Hid (Blk ((v4.alloc (.cells z48 48)).setRow p2 (tr 0 0 ⟨#[]⟩)) p2 48 (tr 0 0 ⟨#[]⟩)) := Lib.hid (by rw [← hp2]; exact (Blk.new v4 48 z48).row _)
  have B6 : Hid (Blk ((v4.alloc (.cells z48 48)).setRow p2 (tr 0 0 ⟨#[]⟩)) w.heap.size 48 (tr c b k')) := Lib.hid ((B5.out.alloc _).row_far (by rw [← hp2]; exact Nat.ne_of_lt B5.out.lt) _)
  have P3 : Hid (Blk ((v4.alloc (.cells z48 48)).setRow p2 (tr 0 0 ⟨#[]⟩)) p1 48 (tr 0 0 k')) := Lib.hid ((P2.out.alloc _).row_far (by rw [← hp2]; exact Nat.ne_of_lt P2.out.lt) _)
  have L6 := Lib.hid (below_row (L5.out.alloc L5.out.size (.cells z48 48)) (by rw [← hp2]; exact L5.out.size : w.heap.size ≤ p2) (tr 0 0 ⟨#[]⟩))
  go_wp2_with (first | (refine wpList_store_row rfl 48 _ _ rfl p2 _ rfl rfl 48 _ Np2.out (size48 _ _ _) rfl (one48 _ _ _) ?_; generalize World.setRow _ _ _ = v5 at *) | (refine wpList_load_row rfl 48 _ rfl w.heap.size rfl 48 _ (0, 0) _ B6.out Try.underlying48 rfl (size48 _ _ _) ?_))
  refine (HM.out _).mono ?_
  rintro x v6 ⟨rfl, hb⟩
  have B7 := Lib.hid (B6.out.below hb B6.out.lt)
  have P4 := Lib.hid (P3.out.below hb P3.out.lt)
  have Q2 := Lib.hid (Q1.out.below hb Q1.out.lt)
  have L7 := Lib.hid (Bel.step L6.out hb)
  clear hb B6 L6 B5 L5 P2 P3 Q1 hp2
  obtain ⟨p3, hp3⟩ : ∃ p, v6.heap.size = p := ⟨_, rfl⟩
  have Np3 : Hid (Blk (v6.alloc (.cells z48 48)) p3 48 z48) := Lib.hid (by rw [← hp3]; exact Blk.new v6 48 z48)
  have R1 : Hid (Blk ((v6.alloc (.cells z48 48)).setRow p3 (tr 0 0 ⟨#[]⟩)) p3 48 (tr 0 0 ⟨#[]⟩)) := Lib.hid (by rw [← hp3]; exact (Blk.new v6 48 z48).row _)
  have B8 : Hid (Blk ((v6.alloc (.cells z48 48)).setRow p3 (tr 0 0 ⟨#[]⟩)) w.heap.size 48 (tr c b k')) := Lib.hid ((B7.out.alloc _).row_far (by rw [← hp3]; exact Nat.ne_of_lt B7.out.lt) _)
  have P5 : Hid (Blk ((v6.alloc (.cells z48 48)).setRow p3 (tr 0 0 ⟨#[]⟩)) p1 48 (tr 0 0 k')) := Lib.hid ((P4.out.alloc _).row_far (by rw [← hp3]; exact Nat.ne_of_lt P4.out.lt) _)
  have Q3 : Hid (Blk ((v6.alloc (.cells z48 48)).setRow p3 (tr 0 0 ⟨#[]⟩)) p2 48 (tr 0 0 ⟨#[]⟩)) := Lib.hid ((Q2.out.alloc _).row_far (by rw [← hp3]; exact Nat.ne_of_lt Q2.out.lt) _)
  have L8 := Lib.hid (below_row (L7.out.alloc L7.out.size (.cells z48 48)) (by rw [← hp3]; exact L7.out.size : w.heap.size ≤ p3) (tr 0 0 ⟨#[]⟩))
  have B := B8
  have P := P5
  have Q := Q3
  have R := R1
  have L := L8
  clear B8 P5 Q3 R1 L8 B7 P4 Q2 L7
  go_wp2_with (first | (refine wpList_store_row rfl 48 _ _ rfl p3 _ rfl rfl 48 _ Np3.out (size48 _ _ _) rfl (one48 _ _ _) ?_; generalize World.setRow _ _ _ = v7 at *; have a0 := cell0 B.out; have a1 := cell1 B.out; have a2 := cell2 B.out; have c0 := cell0 P.out; have c1 := cell1 P.out; have c2 := cell2 P.out; have d0 := cell0 Q.out; have d1 := cell1 Q.out; have d2 := cell2 Q.out; have e0 := cell0 R.out; have e1 := cell1 R.out; have e2 := cell2 R.out) | (go_at_call 32; refine (HK.out _).mono ?_; rintro x v8 ⟨rfl, ⟨nd, rfl⟩⟩; replace L := Lib.hid (pw_below_drewN L.out nd)) | (go_at_call 42; refine (alive_any _).mono ?_; rintro x v9 ⟨rfl, hb⟩; clear a0 a1 a2 c0 c1 c2 d0 d1 d2 e0 e1 e2; replace B := Lib.hid (show Blk v9 _ 48 _ from (hb.block _ B.out.lt).trans B.out); replace P := Lib.hid (show Blk v9 _ 48 _ from (hb.block _ P.out.lt).trans P.out); replace Q := Lib.hid (show Blk v9 _ 48 _ from (hb.block _ Q.out.lt).trans Q.out); replace R := Lib.hid (show Blk v9 _ 48 _ from (hb.block _ R.out.lt).trans R.out); replace L := Lib.hid (Bel.step L.out hb); clear hb; have a0 := cell0 B.out; have a1 := cell1 B.out; have a2 := cell2 B.out; have c0 := cell0 P.out; have c1 := cell1 P.out; have c2 := cell2 P.out; have d0 := cell0 Q.out; have d1 := cell1 Q.out; have d2 := cell2 Q.out; have e0 := cell0 R.out; have e1 := cell1 R.out; have e2 := cell2 R.out) | (go_at_call 43; refine (HR.out _).mono ?_; rintro x v9 ⟨rfl, hb⟩; clear a0 a1 a2 c0 c1 c2 d0 d1 d2 e0 e1 e2; replace B := Lib.hid (show Blk v9 _ 48 _ from (hb.block _ B.out.lt).trans B.out); replace P := Lib.hid (show Blk v9 _ 48 _ from (hb.block _ P.out.lt).trans P.out); replace Q := Lib.hid (show Blk v9 _ 48 _ from (hb.block _ Q.out.lt).trans Q.out); replace R := Lib.hid (show Blk v9 _ 48 _ from (hb.block _ R.out.lt).trans R.out); replace L := Lib.hid (Bel.step L.out hb); clear hb; have a0 := cell0 B.out; have a1 := cell1 B.out; have a2 := cell2 B.out; have c0 := cell0 P.out; have c1 := cell1 P.out; have c2 := cell2 P.out; have d0 := cell0 Q.out; have d1 := cell1 Q.out; have d2 := cell2 Q.out; have e0 := cell0 R.out; have e1 := cell1 R.out; have e2 := cell2 R.out))
  go_ret
  exact ⟨by first | rfl | (simp; done) | (simp [*]; done), L.out⟩

theorem wayC2 (c b : Int) (k k' : ByteArray) (n : Int) (w : World) (h2 : (b == 4294967295) = true) (h4 : decide (b < 4294967295) = false) (h3 : decide (n ≤ c) = false)
    (hcut : ∀ W : World, Calls Try.prog 38 #[.string k] W fun e w' => e = .returned (.string k') ∧ Below W.heap.size W w')
    (hnew : ∀ W : World, Calls Try.prog 39 #[.string k'] W fun x w' => x = .returned (.tuple #[.agg (tr 0 0 k'), .int .i64 0]) ∧ Below W.heap.size W w')
    (hboot : ∀ W : World, Calls Try.prog 40 #[.agg (tr c b k')] W fun x w' => x = .returned (.tuple #[.agg (tr 0 0 ⟨#[]⟩), .int .i64 2]) ∧ Below W.heap.size W w')
    (hcom : ∀ W : World, Calls Try.prog 41 #[.agg (tr c b k'), .int .u64 n] W fun x w' => x = .returned (.tuple #[.agg (tr n b k'), .int .i64 0]) ∧ Below W.heap.size W w')
    (hkey : ∀ W : World, Calls Try.prog 32 #[.string k'] W fun x w' => x = .returned (.bool true) ∧ Drawn0 W w')
    (hright : ∀ W : World, Calls Try.prog 43 #[.agg (tr c b k')] W fun x w' => x = .returned (.bool true) ∧ Below W.heap.size W w') :
    Calls Try.prog 12 #[.agg (tr c b k), .int .u64 n] w fun e w' => e = .returned (.bool true) ∧ Below w.heap.size w w' := by
  have HC := Lib.hid hcut
  have HN := Lib.hid hnew
  have HB := Lib.hid hboot
  have HM := Lib.hid hcom
  have HK := Lib.hid hkey
  have HR := Lib.hid hright
  clear hcut hnew hboot hcom hkey hright
  have b0 := Blk.new w 48 (tr c b k)
  have x2 := cell2 b0
  have fx2 := b0.frozen 2
  have B0 := Lib.hid b0
  have L0 := Lib.hid ((Below.refl w.heap.size w).alloc (Nat.le_refl _) (.cells (tr c b k) 48))
  clear b0
  go_enter Try.func12, Try.ntmps12
  go_wp2_with fail
  refine (HC.out _).mono ?_
  rintro x w1 ⟨rfl, hb⟩
  have B1 := Lib.hid (B0.out.below hb B0.out.lt)
  have L1 := Lib.hid (Bel.step L0.out hb)
  clear hb x2 fx2
  have x2 := cell2 B1.out
  have fx2 := B1.out.frozen 2
  go_wp2_with fail
  have B2 : Hid (Blk (w1.setCell ⟨w.heap.size, 2, none⟩ (.string k')) w.heap.size 48 (tr c b k')) := Lib.hid (B1.out.set_ 2 (.string k'))
  have L2 := Lib.hid (L1.out.setCell (p := ⟨w.heap.size, 2, none⟩) (Nat.le_refl _) (.string k'))
  clear B1 L1 B0 L0 x2 fx2
  generalize w1.setCell ⟨w.heap.size, 2, none⟩ (.string k') = v1 at *
  refine (HN.out _).mono ?_
  rintro x v2 ⟨rfl, hb⟩
  have B3 := Lib.hid (B2.out.below hb B2.out.lt)
  have L3 := Lib.hid (Bel.step L2.out hb)
  clear hb B2 L2
  obtain ⟨p1, hp1⟩ : ∃ p, v2.heap.size = p := ⟨_, rfl⟩
  have Np1 : Hid (Blk (v2.alloc (.cells z48 48)) p1 48 z48) := Lib.hid (by rw [← hp1]; exact Blk.new v2 48 z48)
  have P1 : Hid (Blk ((v2.alloc (.cells z48 48)).setRow p1 (tr 0 0 k')) p1 48 (tr 0 0 k')) := Lib.hid (by rw [← hp1]; exact (Blk.new v2 48 z48).row _)
  have B4 : Hid (Blk ((v2.alloc (.cells z48 48)).setRow p1 (tr 0 0 k')) w.heap.size 48 (tr c b k')) := Lib.hid ((B3.out.alloc _).row_far (by rw [← hp1]; exact Nat.ne_of_lt B3.out.lt) _)
  have L4 := Lib.hid (below_row (L3.out.alloc L3.out.size (.cells z48 48)) (by rw [← hp1]; exact L3.out.size : w.heap.size ≤ p1) (tr 0 0 k'))
  go_wp2_with (first | (refine wpList_store_row rfl 48 _ _ rfl p1 _ rfl rfl 48 _ Np1.out (size48 _ _ _) rfl (one48 _ _ _) ?_; generalize World.setRow _ _ _ = v3 at *) | (refine wpList_load_row rfl 48 _ rfl w.heap.size rfl 48 _ (0, 0) _ B4.out Try.underlying48 rfl (size48 _ _ _) ?_))
  refine (HB.out _).mono ?_
  rintro x v4 ⟨rfl, hb⟩
  have B5 := Lib.hid (B4.out.below hb B4.out.lt)
  have P2 := Lib.hid (P1.out.below hb P1.out.lt)
  have L5 := Lib.hid (Bel.step L4.out hb)
  clear hb B4 L4 B3 L3 P1 hp1
  obtain ⟨p2, hp2⟩ : ∃ p, v4.heap.size = p := ⟨_, rfl⟩
  have Np2 : Hid (Blk (v4.alloc (.cells z48 48)) p2 48 z48) := Lib.hid (by rw [← hp2]; exact Blk.new v4 48 z48)
  have Q1 : Hid (Blk ((v4.alloc (.cells z48 48)).setRow p2 (tr 0 0 ⟨#[]⟩)) p2 48 (tr 0 0 ⟨#[]⟩)) := Lib.hid (by rw [← hp2]; exact (Blk.new v4 48 z48).row _)
  have B6 : Hid (Blk ((v4.alloc (.cells z48 48)).setRow p2 (tr 0 0 ⟨#[]⟩)) w.heap.size 48 (tr c b k')) := Lib.hid ((B5.out.alloc _).row_far (by rw [← hp2]; exact Nat.ne_of_lt B5.out.lt) _)
  have P3 : Hid (Blk ((v4.alloc (.cells z48 48)).setRow p2 (tr 0 0 ⟨#[]⟩)) p1 48 (tr 0 0 k')) := Lib.hid ((P2.out.alloc _).row_far (by rw [← hp2]; exact Nat.ne_of_lt P2.out.lt) _)
  have L6 := Lib.hid (below_row (L5.out.alloc L5.out.size (.cells z48 48)) (by rw [← hp2]; exact L5.out.size : w.heap.size ≤ p2) (tr 0 0 ⟨#[]⟩))
  go_wp2_with (first | (refine wpList_store_row rfl 48 _ _ rfl p2 _ rfl rfl 48 _ Np2.out (size48 _ _ _) rfl (one48 _ _ _) ?_; generalize World.setRow _ _ _ = v5 at *) | (refine wpList_load_row rfl 48 _ rfl w.heap.size rfl 48 _ (0, 0) _ B6.out Try.underlying48 rfl (size48 _ _ _) ?_))
  refine (HM.out _).mono ?_
  rintro x v6 ⟨rfl, hb⟩
  have B7 := Lib.hid (B6.out.below hb B6.out.lt)
  have P4 := Lib.hid (P3.out.below hb P3.out.lt)
  have Q2 := Lib.hid (Q1.out.below hb Q1.out.lt)
  have L7 := Lib.hid (Bel.step L6.out hb)
  clear hb B6 L6 B5 L5 P2 P3 Q1 hp2
  obtain ⟨p3, hp3⟩ : ∃ p, v6.heap.size = p := ⟨_, rfl⟩
  have Np3 : Hid (Blk (v6.alloc (.cells z48 48)) p3 48 z48) := Lib.hid (by rw [← hp3]; exact Blk.new v6 48 z48)
  have R1 : Hid (Blk ((v6.alloc (.cells z48 48)).setRow p3 (tr n b k')) p3 48 (tr n b k')) := Lib.hid (by rw [← hp3]; exact (Blk.new v6 48 z48).row _)
  have B8 : Hid (Blk ((v6.alloc (.cells z48 48)).setRow p3 (tr n b k')) w.heap.size 48 (tr c b k')) := Lib.hid ((B7.out.alloc _).row_far (by rw [← hp3]; exact Nat.ne_of_lt B7.out.lt) _)
  have P5 : Hid (Blk ((v6.alloc (.cells z48 48)).setRow p3 (tr n b k')) p1 48 (tr 0 0 k')) := Lib.hid ((P4.out.alloc _).row_far (by rw [← hp3]; exact Nat.ne_of_lt P4.out.lt) _)
  have Q3 : Hid (Blk ((v6.alloc (.cells z48 48)).setRow p3 (tr n b k')) p2 48 (tr 0 0 ⟨#[]⟩)) := Lib.hid ((Q2.out.alloc _).row_far (by rw [← hp3]; exact Nat.ne_of_lt Q2.out.lt) _)
  have L8 := Lib.hid (below_row (L7.out.alloc L7.out.size (.cells z48 48)) (by rw [← hp3]; exact L7.out.size : w.heap.size ≤ p3) (tr n b k'))
  have B := B8
  have P := P5
  have Q := Q3
  have R := R1
  have L := L8
  clear B8 P5 Q3 R1 L8 B7 P4 Q2 L7
  go_wp2_with (first | (refine wpList_store_row rfl 48 _ _ rfl p3 _ rfl rfl 48 _ Np3.out (size48 _ _ _) rfl (one48 _ _ _) ?_; generalize World.setRow _ _ _ = v7 at *; have a0 := cell0 B.out; have a1 := cell1 B.out; have a2 := cell2 B.out; have c0 := cell0 P.out; have c1 := cell1 P.out; have c2 := cell2 P.out; have d0 := cell0 Q.out; have d1 := cell1 Q.out; have d2 := cell2 Q.out; have e0 := cell0 R.out; have e1 := cell1 R.out; have e2 := cell2 R.out) | (go_at_call 32; refine (HK.out _).mono ?_; rintro x v8 ⟨rfl, ⟨nd, rfl⟩⟩; replace L := Lib.hid (pw_below_drewN L.out nd)) | (go_at_call 42; refine (alive_any _).mono ?_; rintro x v9 ⟨rfl, hb⟩; clear a0 a1 a2 c0 c1 c2 d0 d1 d2 e0 e1 e2; replace B := Lib.hid (show Blk v9 _ 48 _ from (hb.block _ B.out.lt).trans B.out); replace P := Lib.hid (show Blk v9 _ 48 _ from (hb.block _ P.out.lt).trans P.out); replace Q := Lib.hid (show Blk v9 _ 48 _ from (hb.block _ Q.out.lt).trans Q.out); replace R := Lib.hid (show Blk v9 _ 48 _ from (hb.block _ R.out.lt).trans R.out); replace L := Lib.hid (Bel.step L.out hb); clear hb; have a0 := cell0 B.out; have a1 := cell1 B.out; have a2 := cell2 B.out; have c0 := cell0 P.out; have c1 := cell1 P.out; have c2 := cell2 P.out; have d0 := cell0 Q.out; have d1 := cell1 Q.out; have d2 := cell2 Q.out; have e0 := cell0 R.out; have e1 := cell1 R.out; have e2 := cell2 R.out) | (go_at_call 43; refine (HR.out _).mono ?_; rintro x v9 ⟨rfl, hb⟩; clear a0 a1 a2 c0 c1 c2 d0 d1 d2 e0 e1 e2; replace B := Lib.hid (show Blk v9 _ 48 _ from (hb.block _ B.out.lt).trans B.out); replace P := Lib.hid (show Blk v9 _ 48 _ from (hb.block _ P.out.lt).trans P.out); replace Q := Lib.hid (show Blk v9 _ 48 _ from (hb.block _ Q.out.lt).trans Q.out); replace R := Lib.hid (show Blk v9 _ 48 _ from (hb.block _ R.out.lt).trans R.out); replace L := Lib.hid (Bel.step L.out hb); clear hb; have a0 := cell0 B.out; have a1 := cell1 B.out; have a2 := cell2 B.out; have c0 := cell0 P.out; have c1 := cell1 P.out; have c2 := cell2 P.out; have d0 := cell0 Q.out; have d1 := cell1 Q.out; have d2 := cell2 Q.out; have e0 := cell0 R.out; have e1 := cell1 R.out; have e2 := cell2 R.out))
  go_ret
  exact ⟨by first | rfl | (simp; done) | (simp [*]; done), L.out⟩

theorem wayD1 (c b : Int) (k k' : ByteArray) (n : Int) (w : World) (h0 : 0 ≤ b) (h1 : b < 4294967295) (h2 : (b == 4294967295) = false) (h3 : decide (n ≤ c) = true)
    (hcut : ∀ W : World, Calls Try.prog 38 #[.string k] W fun e w' => e = .returned (.string k') ∧ Below W.heap.size W w')
    (hnew : ∀ W : World, Calls Try.prog 39 #[.string k'] W fun x w' => x = .returned (.tuple #[.agg (tr 0 0 k'), .int .i64 0]) ∧ Below W.heap.size W w')
    (hboot : ∀ W : World, Calls Try.prog 40 #[.agg (tr c b k')] W fun x w' => x = .returned (.tuple #[.agg (tr c (b + 1) k'), .int .i64 0]) ∧ Below W.heap.size W w')
    (hcom : ∀ W : World, Calls Try.prog 41 #[.agg (tr c b k'), .int .u64 n] W fun x w' => x = .returned (.tuple #[.agg (tr 0 0 ⟨#[]⟩), .int .i64 2]) ∧ Below W.heap.size W w')
    (hkey : ∀ W : World, Calls Try.prog 32 #[.string k'] W fun x w' => x = .returned (.bool true) ∧ Drawn0 W w')
    (hright : ∀ W : World, Calls Try.prog 43 #[.agg (tr c b k')] W fun x w' => x = .returned (.bool true) ∧ Below W.heap.size W w') :
    Calls Try.prog 12 #[.agg (tr c b k), .int .u64 n] w fun e w' => e = .returned (.bool true) ∧ Below w.heap.size w w' := by
  have HC := Lib.hid hcut
  have HN := Lib.hid hnew
  have HB := Lib.hid hboot
  have HM := Lib.hid hcom
  have HK := Lib.hid hkey
  have HR := Lib.hid hright
  clear hcut hnew hboot hcom hkey hright
  have b0 := Blk.new w 48 (tr c b k)
  have x2 := cell2 b0
  have fx2 := b0.frozen 2
  have B0 := Lib.hid b0
  have L0 := Lib.hid ((Below.refl w.heap.size w).alloc (Nat.le_refl _) (.cells (tr c b k) 48))
  clear b0
  go_enter Try.func12, Try.ntmps12
  go_wp2_with fail
  refine (HC.out _).mono ?_
  rintro x w1 ⟨rfl, hb⟩
  have B1 := Lib.hid (B0.out.below hb B0.out.lt)
  have L1 := Lib.hid (Bel.step L0.out hb)
  clear hb x2 fx2
  have x2 := cell2 B1.out
  have fx2 := B1.out.frozen 2
  go_wp2_with fail
  have B2 : Hid (Blk (w1.setCell ⟨w.heap.size, 2, none⟩ (.string k')) w.heap.size 48 (tr c b k')) := Lib.hid (B1.out.set_ 2 (.string k'))
  have L2 := Lib.hid (L1.out.setCell (p := ⟨w.heap.size, 2, none⟩) (Nat.le_refl _) (.string k'))
  clear B1 L1 B0 L0 x2 fx2
  generalize w1.setCell ⟨w.heap.size, 2, none⟩ (.string k') = v1 at *
  refine (HN.out _).mono ?_
  rintro x v2 ⟨rfl, hb⟩
  have B3 := Lib.hid (B2.out.below hb B2.out.lt)
  have L3 := Lib.hid (Bel.step L2.out hb)
  clear hb B2 L2
  obtain ⟨p1, hp1⟩ : ∃ p, v2.heap.size = p := ⟨_, rfl⟩
  have Np1 : Hid (Blk (v2.alloc (.cells z48 48)) p1 48 z48) := Lib.hid (by rw [← hp1]; exact Blk.new v2 48 z48)
  have P1 : Hid (Blk ((v2.alloc (.cells z48 48)).setRow p1 (tr 0 0 k')) p1 48 (tr 0 0 k')) := Lib.hid (by rw [← hp1]; exact (Blk.new v2 48 z48).row _)
  have B4 : Hid (Blk ((v2.alloc (.cells z48 48)).setRow p1 (tr 0 0 k')) w.heap.size 48 (tr c b k')) := Lib.hid ((B3.out.alloc _).row_far (by rw [← hp1]; exact Nat.ne_of_lt B3.out.lt) _)
  have L4 := Lib.hid (below_row (L3.out.alloc L3.out.size (.cells z48 48)) (by rw [← hp1]; exact L3.out.size : w.heap.size ≤ p1) (tr 0 0 k'))
  go_wp2_with (first | (refine wpList_store_row rfl 48 _ _ rfl p1 _ rfl rfl 48 _ Np1.out (size48 _ _ _) rfl (one48 _ _ _) ?_; generalize World.setRow _ _ _ = v3 at *) | (refine wpList_load_row rfl 48 _ rfl w.heap.size rfl 48 _ (0, 0) _ B4.out Try.underlying48 rfl (size48 _ _ _) ?_))
  refine (HB.out _).mono ?_
  rintro x v4 ⟨rfl, hb⟩
  have B5 := Lib.hid (B4.out.below hb B4.out.lt)
  have P2 := Lib.hid (P1.out.below hb P1.out.lt)
  have L5 := Lib.hid (Bel.step L4.out hb)
  clear hb B4 L4 B3 L3 P1 hp1
  obtain ⟨p2, hp2⟩ : ∃ p, v4.heap.size = p := ⟨_, rfl⟩
  have Np2 : Hid (Blk (v4.alloc (.cells z48 48)) p2 48 z48) := Lib.hid (by rw [← hp2]; exact Blk.new v4 48 z48)
  have Q1 : Hid (Blk ((v4.alloc (.cells z48 48)).setRow p2 (tr c (b + 1) k')) p2 48 (tr c (b + 1) k')) := Lib.hid (by rw [← hp2]; exact (Blk.new v4 48 z48).row _)
  have B6 : Hid (Blk ((v4.alloc (.cells z48 48)).setRow p2 (tr c (b + 1) k')) w.heap.size 48 (tr c b k')) := Lib.hid ((B5.out.alloc _).row_far (by rw [← hp2]; exact Nat.ne_of_lt B5.out.lt) _)
  have P3 : Hid (Blk ((v4.alloc (.cells z48 48)).setRow p2 (tr c (b + 1) k')) p1 48 (tr 0 0 k')) := Lib.hid ((P2.out.alloc _).row_far (by rw [← hp2]; exact Nat.ne_of_lt P2.out.lt) _)
  have L6 := Lib.hid (below_row (L5.out.alloc L5.out.size (.cells z48 48)) (by rw [← hp2]; exact L5.out.size : w.heap.size ≤ p2) (tr c (b + 1) k'))
  go_wp2_with (first | (refine wpList_store_row rfl 48 _ _ rfl p2 _ rfl rfl 48 _ Np2.out (size48 _ _ _) rfl (one48 _ _ _) ?_; generalize World.setRow _ _ _ = v5 at *) | (refine wpList_load_row rfl 48 _ rfl w.heap.size rfl 48 _ (0, 0) _ B6.out Try.underlying48 rfl (size48 _ _ _) ?_))
  refine (HM.out _).mono ?_
  rintro x v6 ⟨rfl, hb⟩
  have B7 := Lib.hid (B6.out.below hb B6.out.lt)
  have P4 := Lib.hid (P3.out.below hb P3.out.lt)
  have Q2 := Lib.hid (Q1.out.below hb Q1.out.lt)
  have L7 := Lib.hid (Bel.step L6.out hb)
  clear hb B6 L6 B5 L5 P2 P3 Q1 hp2
  obtain ⟨p3, hp3⟩ : ∃ p, v6.heap.size = p := ⟨_, rfl⟩
  have Np3 : Hid (Blk (v6.alloc (.cells z48 48)) p3 48 z48) := Lib.hid (by rw [← hp3]; exact Blk.new v6 48 z48)
  have R1 : Hid (Blk ((v6.alloc (.cells z48 48)).setRow p3 (tr 0 0 ⟨#[]⟩)) p3 48 (tr 0 0 ⟨#[]⟩)) := Lib.hid (by rw [← hp3]; exact (Blk.new v6 48 z48).row _)
  have B8 : Hid (Blk ((v6.alloc (.cells z48 48)).setRow p3 (tr 0 0 ⟨#[]⟩)) w.heap.size 48 (tr c b k')) := Lib.hid ((B7.out.alloc _).row_far (by rw [← hp3]; exact Nat.ne_of_lt B7.out.lt) _)
  have P5 : Hid (Blk ((v6.alloc (.cells z48 48)).setRow p3 (tr 0 0 ⟨#[]⟩)) p1 48 (tr 0 0 k')) := Lib.hid ((P4.out.alloc _).row_far (by rw [← hp3]; exact Nat.ne_of_lt P4.out.lt) _)
  have Q3 : Hid (Blk ((v6.alloc (.cells z48 48)).setRow p3 (tr 0 0 ⟨#[]⟩)) p2 48 (tr c (b + 1) k')) := Lib.hid ((Q2.out.alloc _).row_far (by rw [← hp3]; exact Nat.ne_of_lt Q2.out.lt) _)
  have L8 := Lib.hid (below_row (L7.out.alloc L7.out.size (.cells z48 48)) (by rw [← hp3]; exact L7.out.size : w.heap.size ≤ p3) (tr 0 0 ⟨#[]⟩))
  have B := B8
  have P := P5
  have Q := Q3
  have R := R1
  have L := L8
  clear B8 P5 Q3 R1 L8 B7 P4 Q2 L7
  go_wp2_with (first | (refine wpList_store_row rfl 48 _ _ rfl p3 _ rfl rfl 48 _ Np3.out (size48 _ _ _) rfl (one48 _ _ _) ?_; generalize World.setRow _ _ _ = v7 at *; have a0 := cell0 B.out; have a1 := cell1 B.out; have a2 := cell2 B.out; have c0 := cell0 P.out; have c1 := cell1 P.out; have c2 := cell2 P.out; have d0 := cell0 Q.out; have d1 := cell1 Q.out; have d2 := cell2 Q.out; have e0 := cell0 R.out; have e1 := cell1 R.out; have e2 := cell2 R.out) | (go_at_call 32; refine (HK.out _).mono ?_; rintro x v8 ⟨rfl, ⟨nd, rfl⟩⟩; replace L := Lib.hid (pw_below_drewN L.out nd)) | (go_at_call 42; refine (alive_any _).mono ?_; rintro x v9 ⟨rfl, hb⟩; clear a0 a1 a2 c0 c1 c2 d0 d1 d2 e0 e1 e2; replace B := Lib.hid (show Blk v9 _ 48 _ from (hb.block _ B.out.lt).trans B.out); replace P := Lib.hid (show Blk v9 _ 48 _ from (hb.block _ P.out.lt).trans P.out); replace Q := Lib.hid (show Blk v9 _ 48 _ from (hb.block _ Q.out.lt).trans Q.out); replace R := Lib.hid (show Blk v9 _ 48 _ from (hb.block _ R.out.lt).trans R.out); replace L := Lib.hid (Bel.step L.out hb); clear hb; have a0 := cell0 B.out; have a1 := cell1 B.out; have a2 := cell2 B.out; have c0 := cell0 P.out; have c1 := cell1 P.out; have c2 := cell2 P.out; have d0 := cell0 Q.out; have d1 := cell1 Q.out; have d2 := cell2 Q.out; have e0 := cell0 R.out; have e1 := cell1 R.out; have e2 := cell2 R.out) | (go_at_call 43; refine (HR.out _).mono ?_; rintro x v9 ⟨rfl, hb⟩; clear a0 a1 a2 c0 c1 c2 d0 d1 d2 e0 e1 e2; replace B := Lib.hid (show Blk v9 _ 48 _ from (hb.block _ B.out.lt).trans B.out); replace P := Lib.hid (show Blk v9 _ 48 _ from (hb.block _ P.out.lt).trans P.out); replace Q := Lib.hid (show Blk v9 _ 48 _ from (hb.block _ Q.out.lt).trans Q.out); replace R := Lib.hid (show Blk v9 _ 48 _ from (hb.block _ R.out.lt).trans R.out); replace L := Lib.hid (Bel.step L.out hb); clear hb; have a0 := cell0 B.out; have a1 := cell1 B.out; have a2 := cell2 B.out; have c0 := cell0 P.out; have c1 := cell1 P.out; have c2 := cell2 P.out; have d0 := cell0 Q.out; have d1 := cell1 Q.out; have d2 := cell2 Q.out; have e0 := cell0 R.out; have e1 := cell1 R.out; have e2 := cell2 R.out))
  go_ret
  exact ⟨by first | rfl | (simp; done) | (simp [*]; done), L.out⟩

theorem wayD2 (c b : Int) (k k' : ByteArray) (n : Int) (w : World) (h0 : 0 ≤ b) (h1 : b < 4294967295) (h2 : (b == 4294967295) = false) (h3 : decide (n ≤ c) = false)
    (hcut : ∀ W : World, Calls Try.prog 38 #[.string k] W fun e w' => e = .returned (.string k') ∧ Below W.heap.size W w')
    (hnew : ∀ W : World, Calls Try.prog 39 #[.string k'] W fun x w' => x = .returned (.tuple #[.agg (tr 0 0 k'), .int .i64 0]) ∧ Below W.heap.size W w')
    (hboot : ∀ W : World, Calls Try.prog 40 #[.agg (tr c b k')] W fun x w' => x = .returned (.tuple #[.agg (tr c (b + 1) k'), .int .i64 0]) ∧ Below W.heap.size W w')
    (hcom : ∀ W : World, Calls Try.prog 41 #[.agg (tr c b k'), .int .u64 n] W fun x w' => x = .returned (.tuple #[.agg (tr n b k'), .int .i64 0]) ∧ Below W.heap.size W w')
    (hkey : ∀ W : World, Calls Try.prog 32 #[.string k'] W fun x w' => x = .returned (.bool true) ∧ Drawn0 W w')
    (hright : ∀ W : World, Calls Try.prog 43 #[.agg (tr c b k')] W fun x w' => x = .returned (.bool true) ∧ Below W.heap.size W w') :
    Calls Try.prog 12 #[.agg (tr c b k), .int .u64 n] w fun e w' => e = .returned (.bool true) ∧ Below w.heap.size w w' := by
  have HC := Lib.hid hcut
  have HN := Lib.hid hnew
  have HB := Lib.hid hboot
  have HM := Lib.hid hcom
  have HK := Lib.hid hkey
  have HR := Lib.hid hright
  clear hcut hnew hboot hcom hkey hright
  have b0 := Blk.new w 48 (tr c b k)
  have x2 := cell2 b0
  have fx2 := b0.frozen 2
  have B0 := Lib.hid b0
  have L0 := Lib.hid ((Below.refl w.heap.size w).alloc (Nat.le_refl _) (.cells (tr c b k) 48))
  clear b0
  go_enter Try.func12, Try.ntmps12
  go_wp2_with fail
  refine (HC.out _).mono ?_
  rintro x w1 ⟨rfl, hb⟩
  have B1 := Lib.hid (B0.out.below hb B0.out.lt)
  have L1 := Lib.hid (Bel.step L0.out hb)
  clear hb x2 fx2
  have x2 := cell2 B1.out
  have fx2 := B1.out.frozen 2
  go_wp2_with fail
  have B2 : Hid (Blk (w1.setCell ⟨w.heap.size, 2, none⟩ (.string k')) w.heap.size 48 (tr c b k')) := Lib.hid (B1.out.set_ 2 (.string k'))
  have L2 := Lib.hid (L1.out.setCell (p := ⟨w.heap.size, 2, none⟩) (Nat.le_refl _) (.string k'))
  clear B1 L1 B0 L0 x2 fx2
  generalize w1.setCell ⟨w.heap.size, 2, none⟩ (.string k') = v1 at *
  refine (HN.out _).mono ?_
  rintro x v2 ⟨rfl, hb⟩
  have B3 := Lib.hid (B2.out.below hb B2.out.lt)
  have L3 := Lib.hid (Bel.step L2.out hb)
  clear hb B2 L2
  obtain ⟨p1, hp1⟩ : ∃ p, v2.heap.size = p := ⟨_, rfl⟩
  have Np1 : Hid (Blk (v2.alloc (.cells z48 48)) p1 48 z48) := Lib.hid (by rw [← hp1]; exact Blk.new v2 48 z48)
  have P1 : Hid (Blk ((v2.alloc (.cells z48 48)).setRow p1 (tr 0 0 k')) p1 48 (tr 0 0 k')) := Lib.hid (by rw [← hp1]; exact (Blk.new v2 48 z48).row _)
  have B4 : Hid (Blk ((v2.alloc (.cells z48 48)).setRow p1 (tr 0 0 k')) w.heap.size 48 (tr c b k')) := Lib.hid ((B3.out.alloc _).row_far (by rw [← hp1]; exact Nat.ne_of_lt B3.out.lt) _)
  have L4 := Lib.hid (below_row (L3.out.alloc L3.out.size (.cells z48 48)) (by rw [← hp1]; exact L3.out.size : w.heap.size ≤ p1) (tr 0 0 k'))
  go_wp2_with (first | (refine wpList_store_row rfl 48 _ _ rfl p1 _ rfl rfl 48 _ Np1.out (size48 _ _ _) rfl (one48 _ _ _) ?_; generalize World.setRow _ _ _ = v3 at *) | (refine wpList_load_row rfl 48 _ rfl w.heap.size rfl 48 _ (0, 0) _ B4.out Try.underlying48 rfl (size48 _ _ _) ?_))
  refine (HB.out _).mono ?_
  rintro x v4 ⟨rfl, hb⟩
  have B5 := Lib.hid (B4.out.below hb B4.out.lt)
  have P2 := Lib.hid (P1.out.below hb P1.out.lt)
  have L5 := Lib.hid (Bel.step L4.out hb)
  clear hb B4 L4 B3 L3 P1 hp1
  obtain ⟨p2, hp2⟩ : ∃ p, v4.heap.size = p := ⟨_, rfl⟩
  have Np2 : Hid (Blk (v4.alloc (.cells z48 48)) p2 48 z48) := Lib.hid (by rw [← hp2]; exact Blk.new v4 48 z48)
  have Q1 : Hid (Blk ((v4.alloc (.cells z48 48)).setRow p2 (tr c (b + 1) k')) p2 48 (tr c (b + 1) k')) := Lib.hid (by rw [← hp2]; exact (Blk.new v4 48 z48).row _)
  have B6 : Hid (Blk ((v4.alloc (.cells z48 48)).setRow p2 (tr c (b + 1) k')) w.heap.size 48 (tr c b k')) := Lib.hid ((B5.out.alloc _).row_far (by rw [← hp2]; exact Nat.ne_of_lt B5.out.lt) _)
  have P3 : Hid (Blk ((v4.alloc (.cells z48 48)).setRow p2 (tr c (b + 1) k')) p1 48 (tr 0 0 k')) := Lib.hid ((P2.out.alloc _).row_far (by rw [← hp2]; exact Nat.ne_of_lt P2.out.lt) _)
  have L6 := Lib.hid (below_row (L5.out.alloc L5.out.size (.cells z48 48)) (by rw [← hp2]; exact L5.out.size : w.heap.size ≤ p2) (tr c (b + 1) k'))
  go_wp2_with (first | (refine wpList_store_row rfl 48 _ _ rfl p2 _ rfl rfl 48 _ Np2.out (size48 _ _ _) rfl (one48 _ _ _) ?_; generalize World.setRow _ _ _ = v5 at *) | (refine wpList_load_row rfl 48 _ rfl w.heap.size rfl 48 _ (0, 0) _ B6.out Try.underlying48 rfl (size48 _ _ _) ?_))
  refine (HM.out _).mono ?_
  rintro x v6 ⟨rfl, hb⟩
  have B7 := Lib.hid (B6.out.below hb B6.out.lt)
  have P4 := Lib.hid (P3.out.below hb P3.out.lt)
  have Q2 := Lib.hid (Q1.out.below hb Q1.out.lt)
  have L7 := Lib.hid (Bel.step L6.out hb)
  clear hb B6 L6 B5 L5 P2 P3 Q1 hp2
  obtain ⟨p3, hp3⟩ : ∃ p, v6.heap.size = p := ⟨_, rfl⟩
  have Np3 : Hid (Blk (v6.alloc (.cells z48 48)) p3 48 z48) := Lib.hid (by rw [← hp3]; exact Blk.new v6 48 z48)
  have R1 : Hid (Blk ((v6.alloc (.cells z48 48)).setRow p3 (tr n b k')) p3 48 (tr n b k')) := Lib.hid (by rw [← hp3]; exact (Blk.new v6 48 z48).row _)
  have B8 : Hid (Blk ((v6.alloc (.cells z48 48)).setRow p3 (tr n b k')) w.heap.size 48 (tr c b k')) := Lib.hid ((B7.out.alloc _).row_far (by rw [← hp3]; exact Nat.ne_of_lt B7.out.lt) _)
  have P5 : Hid (Blk ((v6.alloc (.cells z48 48)).setRow p3 (tr n b k')) p1 48 (tr 0 0 k')) := Lib.hid ((P4.out.alloc _).row_far (by rw [← hp3]; exact Nat.ne_of_lt P4.out.lt) _)
  have Q3 : Hid (Blk ((v6.alloc (.cells z48 48)).setRow p3 (tr n b k')) p2 48 (tr c (b + 1) k')) := Lib.hid ((Q2.out.alloc _).row_far (by rw [← hp3]; exact Nat.ne_of_lt Q2.out.lt) _)
  have L8 := Lib.hid (below_row (L7.out.alloc L7.out.size (.cells z48 48)) (by rw [← hp3]; exact L7.out.size : w.heap.size ≤ p3) (tr n b k'))
  have B := B8
  have P := P5
  have Q := Q3
  have R := R1
  have L := L8
  clear B8 P5 Q3 R1 L8 B7 P4 Q2 L7
  go_wp2_with (first | (refine wpList_store_row rfl 48 _ _ rfl p3 _ rfl rfl 48 _ Np3.out (size48 _ _ _) rfl (one48 _ _ _) ?_; generalize World.setRow _ _ _ = v7 at *; have a0 := cell0 B.out; have a1 := cell1 B.out; have a2 := cell2 B.out; have c0 := cell0 P.out; have c1 := cell1 P.out; have c2 := cell2 P.out; have d0 := cell0 Q.out; have d1 := cell1 Q.out; have d2 := cell2 Q.out; have e0 := cell0 R.out; have e1 := cell1 R.out; have e2 := cell2 R.out) | (go_at_call 32; refine (HK.out _).mono ?_; rintro x v8 ⟨rfl, ⟨nd, rfl⟩⟩; replace L := Lib.hid (pw_below_drewN L.out nd)) | (go_at_call 42; refine (alive_any _).mono ?_; rintro x v9 ⟨rfl, hb⟩; clear a0 a1 a2 c0 c1 c2 d0 d1 d2 e0 e1 e2; replace B := Lib.hid (show Blk v9 _ 48 _ from (hb.block _ B.out.lt).trans B.out); replace P := Lib.hid (show Blk v9 _ 48 _ from (hb.block _ P.out.lt).trans P.out); replace Q := Lib.hid (show Blk v9 _ 48 _ from (hb.block _ Q.out.lt).trans Q.out); replace R := Lib.hid (show Blk v9 _ 48 _ from (hb.block _ R.out.lt).trans R.out); replace L := Lib.hid (Bel.step L.out hb); clear hb; have a0 := cell0 B.out; have a1 := cell1 B.out; have a2 := cell2 B.out; have c0 := cell0 P.out; have c1 := cell1 P.out; have c2 := cell2 P.out; have d0 := cell0 Q.out; have d1 := cell1 Q.out; have d2 := cell2 Q.out; have e0 := cell0 R.out; have e1 := cell1 R.out; have e2 := cell2 R.out) | (go_at_call 43; refine (HR.out _).mono ?_; rintro x v9 ⟨rfl, hb⟩; clear a0 a1 a2 c0 c1 c2 d0 d1 d2 e0 e1 e2; replace B := Lib.hid (show Blk v9 _ 48 _ from (hb.block _ B.out.lt).trans B.out); replace P := Lib.hid (show Blk v9 _ 48 _ from (hb.block _ P.out.lt).trans P.out); replace Q := Lib.hid (show Blk v9 _ 48 _ from (hb.block _ Q.out.lt).trans Q.out); replace R := Lib.hid (show Blk v9 _ 48 _ from (hb.block _ R.out.lt).trans R.out); replace L := Lib.hid (Bel.step L.out hb); clear hb; have a0 := cell0 B.out; have a1 := cell1 B.out; have a2 := cell2 B.out; have c0 := cell0 P.out; have c1 := cell1 P.out; have c2 := cell2 P.out; have d0 := cell0 Q.out; have d1 := cell1 Q.out; have d2 := cell2 Q.out; have e0 := cell0 R.out; have e1 := cell1 R.out; have e2 := cell2 R.out))
  go_ret
  exact ⟨by first | rfl | (simp; done) | (simp [*]; done), L.out⟩

/-- TrustSlots, walked whole: a text of any size, numbers of their kinds. -/
theorem slots_all (c b : Int) (k : ByteArray) (n : Int) (w : World) (h0 : 0 ≤ b) : Calls Try.prog 12 #[.agg (tr c b k), .int .u64 n] w fun e w' => e = .returned (.bool true) ∧ Below w.heap.size w w' := by
  have hcut := cut_any k
  generalize cutS k = k' at *
  have hkey : ∀ W : World, Calls Try.prog 32 #[.string k'] W fun x w' => x = .returned (.bool (k'.size == 16 || k'.size == 32)) ∧ Drawn0 W w' := fun W => by
    refine PTrustSlots.saltusref06_Key.calls k' _ W ?_
    unfold PTrustSlots.saltusref06_Key.f
    by_cases h16 : k'.size = 16
    · rw [if_pos (by omega), h16]; rfl
    · rw [if_neg (by omega)]
      have e1 : (k'.size == 16) = false := beq_eq_false_iff_ne.2 h16
      rw [e1, Bool.false_or]
      congr 1
      by_cases h32 : k'.size = 32
      · rw [h32]; rfl
      · rw [beq_eq_false_iff_ne.2 h32, beq_eq_false_iff_ne.2 (by omega)]
  have hright : ∀ W : World, Calls Try.prog 43 #[.agg (tr c b k')] W fun x w' => x = .returned (.bool (rightB b k')) ∧ Below W.heap.size W w' := fun W => by
    refine PTrustSlots.saltusref10_Right.calls c b k' _ W ?_
    unfold PTrustSlots.saltusref10_Right.f PTrustSlots.saltusref06_Key.f rightB
    by_cases h16 : k'.size = 16
    · rw [if_pos (by omega), h16]; rfl
    · rw [if_neg (by omega)]
      have e1 : (k'.size == 16) = false := beq_eq_false_iff_ne.2 h16
      rw [e1, Bool.false_or]
      simp only [Option.bind_some]
      by_cases h32 : k'.size = 32
      · rw [h32]; rfl
      · rw [beq_eq_false_iff_ne.2 h32, beq_eq_false_iff_ne.2 (by omega), if_neg (by decide)]; rfl
  have hnew : ∀ W : World, ∀ r, PTrustSlots.trust_New.f k' = some r → Calls Try.prog 39 #[.string k'] W fun x w' => x = .returned (.tuple #[.agg (tr r.1 r.2.1 r.2.2.1), .int .i64 r.2.2.2]) ∧ Below W.heap.size W w' := fun W r h => PTrustSlots.trust_New.calls k' r.1 r.2.1 r.2.2.1 r.2.2.2 W h
  have hboot : ∀ W : World, ∀ r, trust_Boot.f c b k' = some r → Calls Try.prog 40 #[.agg (tr c b k')] W fun x w' => x = .returned (.tuple #[.agg (tr r.1 r.2.1 r.2.2.1), .int .i64 r.2.2.2]) ∧ Below W.heap.size W w' := fun W r h => trust_Boot.calls c b k' r.1 r.2.1 r.2.2.1 r.2.2.2 W h
  have hcom : ∀ W : World, ∀ r, trust_Commit.f c b k' n = some r → Calls Try.prog 41 #[.agg (tr c b k'), .int .u64 n] W fun x w' => x = .returned (.tuple #[.agg (tr r.1 r.2.1 r.2.2.1), .int .i64 r.2.2.2]) ∧ Below W.heap.size W w' := fun W r h => trust_Commit.calls c b k' n r.1 r.2.1 r.2.2.1 r.2.2.2 W h
  have hr00 : PTrustSlots.trust_right.f 0 0 k' = some (k'.size == 16 || k'.size == 32) := by
    unfold PTrustSlots.trust_right.f
    by_cases h16 : k'.size = 16
    · rw [if_pos (by omega), h16]; rfl
    · rw [if_neg (by omega)]
      have e1 : (k'.size == 16) = false := beq_eq_false_iff_ne.2 h16
      by_cases h32 : k'.size = 32
      · rw [if_pos (by omega), h32]; rfl
      · rw [if_neg (by omega), e1, beq_eq_false_iff_ne.2 h32]; rfl
  have fn : PTrustSlots.trust_New.f k' = if (k'.size == 16 || k'.size == 32) = true then some (0, 0, k', 0) else some (0, 0, ⟨#[]⟩, 4) := by
    unfold PTrustSlots.trust_New.f
    rw [hr00]; rfl
  cases hk : (k'.size == 16 || k'.size == 32) with
  | false =>
    rw [hk] at fn hkey
    have hr : rightB b k' = false := by unfold rightB; rw [hk]; rfl
    rw [hr] at hright
    exact wayA c b k k' n w hcut (fun W => hnew W (0, 0, ⟨#[]⟩, 4) (by rw [fn]; rfl)) (fun W => hboot W (0, 0, ⟨#[]⟩, 1) (by unfold trust_Boot.f; rw [if_pos h0, hr]; rfl))
      (fun W => hcom W (0, 0, ⟨#[]⟩, 1) (by unfold trust_Commit.f; rw [hr]; rfl)) hkey hright
  | true =>
    rw [hk] at fn hkey
    have hn := fun W => hnew W (0, 0, k', 0) (by rw [fn]; rfl)
    by_cases hb : b ≤ 4294967295
    · have hr : rightB b k' = true := by unfold rightB; rw [hk, decide_eq_true hb]; rfl
      rw [hr] at hright
      by_cases h1 : b = 4294967295
      · have bt := fun W => hboot W (0, 0, ⟨#[]⟩, 2) (by unfold trust_Boot.f; rw [if_pos h0, hr, if_pos rfl, if_pos h1])
        by_cases h2 : n ≤ c
        · exact wayC1 c b k k' n w (beq_iff_eq.2 h1) (decide_eq_false (by omega)) (decide_eq_true h2) hcut hn bt (fun W => hcom W (0, 0, ⟨#[]⟩, 2) (by unfold trust_Commit.f; rw [hr, if_pos rfl, if_pos h2])) hkey hright
        · exact wayC2 c b k k' n w (beq_iff_eq.2 h1) (decide_eq_false (by omega)) (decide_eq_false h2) hcut hn bt (fun W => hcom W (n, b, k', 0) (by unfold trust_Commit.f; rw [hr, if_pos rfl, if_neg h2])) hkey hright
      · have bt := fun W => hboot W (c, b + 1, k', 0) (by unfold trust_Boot.f; rw [if_pos h0, hr, if_pos rfl, if_neg h1])
        by_cases h2 : n ≤ c
        · exact wayD1 c b k k' n w h0 (by omega) (beq_eq_false_iff_ne.2 h1) (decide_eq_true h2) hcut hn bt (fun W => hcom W (0, 0, ⟨#[]⟩, 2) (by unfold trust_Commit.f; rw [hr, if_pos rfl, if_pos h2])) hkey hright
        · exact wayD2 c b k k' n w h0 (by omega) (beq_eq_false_iff_ne.2 h1) (decide_eq_false h2) hcut hn bt (fun W => hcom W (n, b, k', 0) (by unfold trust_Commit.f; rw [hr, if_pos rfl, if_neg h2])) hkey hright
    · have hr : rightB b k' = false := by unfold rightB; rw [hk, decide_eq_false hb]; rfl
      rw [hr] at hright
      exact wayB c b k k' n w hcut hn (fun W => hboot W (0, 0, ⟨#[]⟩, 1) (by unfold trust_Boot.f; rw [if_pos h0, hr]; rfl))
        (fun W => hcom W (0, 0, ⟨#[]⟩, 1) (by unfold trust_Commit.f; rw [hr]; rfl)) hkey hright
theorem slots_row (c b : Int) (k : ByteArray) (n : Int) (w : World) (_hc : (Lit.int .u64 c).wf = true) (hb : (Lit.int .u64 b).wf = true) (_hk : k.size ≤ maxLen) (_hn : (Lit.int .u64 n).wf = true) :
    Calls Try.prog 12 #[.agg #[.int .u64 c, .int .u64 b, .string k], .int .u64 n] w fun e w' => e = .returned (.bool true) ∧ Below w.heap.size w w' := by
  have h : 0 ≤ b ∧ b ≤ 18446744073709551615 := by simpa [Lit.wf, IntKind.min, IntKind.max, IntKind.signed, IntKind.bits] using hb
  exact slots_all c b k n w h.1
end Go.Proofs.Ytnaidfcehmdmcaa.TW
