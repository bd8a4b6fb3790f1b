/- trust.Boot and trust.Commit: the walks, in the form that the printed texts call. -/
import Derived.Test.YtnaidfcehmdmcaaPTrustSlotsx1
import Derived.Test.YtnaidfcehmdmcaaMem
import Derived.Outline
import Derived.Laws.ResultCell
import Derived.Lib.Hide
namespace Go.Proofs.Ytnaidfcehmdmcaa.TS
open Go.RowKit Go.Proofs.YtnaidfcehmdmcaaW.PrintWords Go.Proofs.YtnaidfcehmdmcaaW.PrintLast Go.Proofs.YtnaidfcehmdmcaaW.PrintMore
open Go.Proofs.Ytnaidfcehmdmcaa.Mem

def tr (c b : Int) (k : ByteArray) : Array Value := #[.int .u64 c, .int .u64 b, .string k]
theorem size48 (c b : Int) (k : ByteArray) : (Try.prog.info? 48).map (·.size) = some (tr c b k).size := by kernel_rfl
theorem one48 (c b : Int) (k : ByteArray) : (tr c b k).all (·.oneCell') = true := by simp [tr, Value.oneCell']
theorem results_cell_row2 {P : Program} {fn : Func} {p u : Tmp} {ty : TypeId} (h : fn.results = #[.cell p ty, .tmp u]) (tmps : Array Value) (w : World) (g : Nat) (t : TypeId) (cs : Array Value) (fr : Nat × Nat) (d : TypeDesc)
    (hp : tmps.getD p undef = .pointer (some ⟨g, 0, none⟩)) (hg : w.heap[g]? = some (.cells cs t fr))
    (hu : P.underlying ty = some d) (hd : (match d with | .struct _ | .array _ _ => true | _ => false) = true) (hi : (P.info? ty).map (·.size) = some cs.size) :
    (results fn tmps).run P w = .ok (.tuple #[.agg cs, tmps.getD u undef]) w := by
  rw [results_cell_tmp h, hp]
  simp [asAddr, run_loadVar_row w g t ty cs fr d hg hu hd hi]
abbrev z48 : Array Value := #[Value.int .u64 0, Value.int .u64 0, Value.string ⟨#[]⟩]
theorem size_set (w : World) (p : Addr) (v : Value) : (w.setCell p v).heap.size = w.heap.size := by simp [World.setCell]
/-! what is written: one old block g, and new ones -/
section
variable {w w' w'' : World} {r : Option Nat}
theorem gb_refl (w : World) (r : Option Nat) : w.grownBy w r := ⟨rfl, rfl, rfl, Nat.le_refl _, fun _ _ _ => rfl⟩
theorem gb_alloc (h : w.grownBy w' r) (o : Obj) : w.grownBy (w'.alloc o) r :=
  ⟨h.os, h.tape, h.output, by simp; have := h.size; omega, fun k hk hr => (Below.heap_alloc w' o k (by have := h.size; omega)).trans (h.block k hk hr)⟩
theorem gb_set {g : Nat} (h : w.grownBy w' (some g)) (i : Nat) (v : Value) : w.grownBy (w'.setCell ⟨g, i, none⟩ v) (some g) :=
  ⟨h.os, h.tape, h.output, by rw [size_set]; exact h.size, fun k hk hr => (Below.heap_setCell w' ⟨g, i, none⟩ v k (fun e => hr (by rw [e]))).trans (h.block k hk hr)⟩
theorem gb_row (h : w.grownBy w' r) {g : Nat} (hg : w.heap.size ≤ g) (cs : Array Value) : w.grownBy (w'.setRow g cs) r :=
  ⟨h.os, h.tape, h.output, by simpa [World.setRow] using h.size, fun k hk hr => by
    rw [← h.block k hk hr]
    simp [World.setRow, Array.getElem?_modify, show g ≠ k by omega]⟩
theorem gb_trans (h : w.grownBy w' r) (h' : w'.grownBy w'' r) : w.grownBy w'' r :=
  ⟨h'.os.trans h.os, h'.tape.trans h.tape, h'.output.trans h.output, Nat.le_trans h.size h'.size, fun k hk hr => (h'.block k (Nat.lt_of_lt_of_le hk h.size) hr).trans (h.block k hk hr)⟩
theorem gb_below {B : Nat} (h : w.grownBy w' r) (hB : B ≤ w.heap.size) (hr : ∀ k, r = some k → B ≤ k) : Below B w w' := (Below.refl B w).grown h hB hr
end
set_option maxRecDepth 100000 in
set_option maxHeartbeats 4000000 in
theorem boot60 (g : Nat) (c b : Int) (k : ByteArray) (w : World) (hB : Blk w g 48 (tr c b k)) (hne : (b == 4294967295) = false) (hb0 : 0 ≤ b) (hb1 : b < 4294967295) :
    Calls Try.prog 60 #[.pointer (some ⟨g, 0, none⟩)] w fun e w' => e = .returned (.tuple #[.agg (tr c (b + 1) k), .int .i64 0]) ∧ w.grownBy w' (some g) := by
  have h1 := hB.cell 1
  rw [show (tr c b k)[1]? = some (.int .u64 b) from rfl] at h1
  have hf := hB.frozen 1
  have hlt := hB.lt
  have H1 : Blk ((w.setCell ⟨g, 1, none⟩ (.int .u64 (b + 1))).alloc (.cells z48 48)) g 48 (tr c (b + 1) k) := (hB.set_ 1 _).alloc _
  have H2 : Blk ((w.setCell ⟨g, 1, none⟩ (.int .u64 (b + 1))).alloc (.cells z48 48)) w.heap.size 48 z48 := by
    have := Blk.new (w.setCell ⟨g, 1, none⟩ (.int .u64 (b + 1))) 48 z48
    rw [size_set] at this
    exact this
  have hb2 : w.grownBy ((w.setCell ⟨g, 1, none⟩ (.int .u64 (b + 1))).alloc (.cells z48 48)) (some g) := gb_alloc (gb_set (gb_refl w _) 1 _) _
  have G1 := Lib.hid H1
  have G2 := Lib.hid H2
  have G3 := Lib.hid hb2
  clear hB H1 H2 hb2
  go_enter Try.func60, Try.ntmps60
  go_wp2_with (first | (refine wpList_load_row rfl 48 _ rfl g rfl 48 _ (0, 0) _ G1.out Try.underlying48 rfl (size48 _ _ _) ?_) | (refine wpList_store_row rfl 48 _ _ rfl w.heap.size _ rfl rfl 48 _ G2.out (size48 _ _ _) rfl (one48 _ _ _) ?_))
  exact bodyPost_ret (results_cell_row2 rfl _ _ w.heap.size 48 _ (0, 0) _ rfl (G2.out.row (tr c (b + 1) k)) Try.underlying48 rfl (size48 _ _ _)) rfl ⟨rfl, gb_row G3.out (Nat.le_refl _) _⟩
set_option maxRecDepth 100000 in
set_option maxHeartbeats 4000000 in
theorem boot60_no (g : Nat) (c b : Int) (k : ByteArray) (w : World) (hB : Blk w g 48 (tr c b k)) (hne : (b == 4294967295) = true) :
    Calls Try.prog 60 #[.pointer (some ⟨g, 0, none⟩)] w fun e w' => e = .returned (.tuple #[.agg z48, .int .i64 2]) ∧ w.grownBy w' (some g) := by
  have h1 := hB.cell 1
  rw [show (tr c b k)[1]? = some (.int .u64 b) from rfl] at h1
  have hlt := hB.lt
  have H2 : Blk (w.alloc (.cells z48 48)) w.heap.size 48 z48 := Blk.new w 48 z48
  have hb2 : w.grownBy (w.alloc (.cells z48 48)) (some g) := gb_alloc (gb_refl w _) _
  have G2 := Lib.hid H2
  have G3 := Lib.hid hb2
  clear hB H2 hb2
  go_enter Try.func60, Try.ntmps60
  go_wp2_with (first | (refine wpList_store_row rfl 48 _ _ rfl w.heap.size _ rfl rfl 48 _ G2.out (size48 0 0 ⟨#[]⟩) rfl (one48 0 0 ⟨#[]⟩) ?_))
  exact bodyPost_ret (results_cell_row2 rfl _ _ w.heap.size 48 _ (0, 0) _ rfl (G2.out.row z48) Try.underlying48 rfl (size48 0 0 ⟨#[]⟩)) rfl ⟨rfl, gb_row G3.out (Nat.le_refl _) _⟩
set_option maxRecDepth 100000 in
set_option maxHeartbeats 4000000 in
theorem commit61 (gn g : Nat) (n c b : Int) (k : ByteArray) (w : World) (hN : Blk w gn 46 #[.int .u64 n]) (hB : Blk w g 48 (tr c b k)) (hne : decide (n ≤ c) = false) :
    Calls Try.prog 61 #[.pointer (some ⟨gn, 0, none⟩), .pointer (some ⟨g, 0, none⟩)] w fun e w' => e = .returned (.tuple #[.agg (tr n b k), .int .i64 0]) ∧ w.grownBy w' (some g) := by
  have h0 := hN.cell 0
  rw [show (#[Value.int .u64 n])[0]? = some (.int .u64 n) from rfl] at h0
  have h1 := hB.cell 0
  rw [show (tr c b k)[0]? = some (.int .u64 c) from rfl] at h1
  have hf := hB.frozen 0
  have hlt := hB.lt
  have hltn := hN.lt
  have H1 : Blk ((w.setCell ⟨g, 0, none⟩ (.int .u64 n)).alloc (.cells z48 48)) g 48 (tr n b k) := (hB.set_ 0 _).alloc _
  have H2 : Blk ((w.setCell ⟨g, 0, none⟩ (.int .u64 n)).alloc (.cells z48 48)) w.heap.size 48 z48 := by
    have := Blk.new (w.setCell ⟨g, 0, none⟩ (.int .u64 n)) 48 z48
    rw [size_set] at this
    exact this
  have hb2 : w.grownBy ((w.setCell ⟨g, 0, none⟩ (.int .u64 n)).alloc (.cells z48 48)) (some g) := gb_alloc (gb_set (gb_refl w _) 0 _) _
  have G1 := Lib.hid H1
  have G2 := Lib.hid H2
  have G3 := Lib.hid hb2
  clear hB hN H1 H2 hb2
  go_enter Try.func61, Try.ntmps61
  go_wp2_with (first | (refine wpList_load_row rfl 48 _ rfl g rfl 48 _ (0, 0) _ G1.out Try.underlying48 rfl (size48 _ _ _) ?_) | (refine wpList_store_row rfl 48 _ _ rfl w.heap.size _ rfl rfl 48 _ G2.out (size48 _ _ _) rfl (one48 _ _ _) ?_))
  exact bodyPost_ret (results_cell_row2 rfl _ _ w.heap.size 48 _ (0, 0) _ rfl (G2.out.row (tr n b k)) Try.underlying48 rfl (size48 _ _ _)) rfl ⟨rfl, gb_row G3.out (Nat.le_refl _) _⟩
set_option maxRecDepth 100000 in
set_option maxHeartbeats 4000000 in
theorem commit61_no (gn g : Nat) (n c b : Int) (k : ByteArray) (w : World) (hN : Blk w gn 46 #[.int .u64 n]) (hB : Blk w g 48 (tr c b k)) (hne : decide (n ≤ c) = true) :
    Calls Try.prog 61 #[.pointer (some ⟨gn, 0, none⟩), .pointer (some ⟨g, 0, none⟩)] w fun e w' => e = .returned (.tuple #[.agg z48, .int .i64 2]) ∧ w.grownBy w' (some g) := by
  have h0 := hN.cell 0
  rw [show (#[Value.int .u64 n])[0]? = some (.int .u64 n) from rfl] at h0
  have h1 := hB.cell 0
  rw [show (tr c b k)[0]? = some (.int .u64 c) from rfl] at h1
  have hlt := hB.lt
  have hltn := hN.lt
  have H2 : Blk (w.alloc (.cells z48 48)) w.heap.size 48 z48 := Blk.new w 48 z48
  have hb2 : w.grownBy (w.alloc (.cells z48 48)) (some g) := gb_alloc (gb_refl w _) _
  have G2 := Lib.hid H2
  have G3 := Lib.hid hb2
  clear hB hN H2 hb2
  go_enter Try.func61, Try.ntmps61
  go_wp2_with (first | (refine wpList_store_row rfl 48 _ _ rfl w.heap.size _ rfl rfl 48 _ G2.out (size48 0 0 ⟨#[]⟩) rfl (one48 0 0 ⟨#[]⟩) ?_))
  exact bodyPost_ret (results_cell_row2 rfl _ _ w.heap.size 48 _ (0, 0) _ rfl (G2.out.row z48) Try.underlying48 rfl (size48 0 0 ⟨#[]⟩)) rfl ⟨rfl, gb_row G3.out (Nat.le_refl _) _⟩

set_option maxRecDepth 100000 in
set_option maxHeartbeats 4000000 in
theorem told60 (g : Nat) (c b : Int) (k : ByteArray) (c' b' : Int) (k' : ByteArray) (code : Int) (w : World) (hgl : g < w.heap.size)
    (hright : ∀ W : World, Calls Try.prog 58 #[.agg (tr c b k)] W fun e w' => e = .returned (.bool true) ∧ Below W.heap.size W w')
    (hcl : ∀ W : World, Below w.heap.size w W → Calls Try.prog 60 #[.pointer (some ⟨g, 0, none⟩)] W fun e w' => e = .returned (.tuple #[.agg (tr c' b' k'), .int .i64 code]) ∧ W.grownBy w' (some g)) :
    Calls Try.prog 59 #[.agg (tr c b k), .func (.func 60) #[] #[.pointer (some ⟨g, 0, none⟩)]] w fun e w' => e = .returned (.tuple #[.agg (tr c' b' k'), .int .i64 code]) ∧ w.grownBy w' (some g) := by
  have G1 := Lib.hid ((Blk.new w 48 (tr c b k)).alloc (.cells z48 48))
  have G2 := Lib.hid (Blk.new (w.alloc (.cells (tr c b k) 48)) 48 z48)
  have G3 := Lib.hid (((Below.refl w.heap.size w).alloc (Nat.le_refl _) (.cells (tr c b k) 48)).alloc (by simp) (.cells z48 48))
  have HR := Lib.hid hright
  have HC := Lib.hid hcl
  rw [World.size_alloc] at G2
  clear hright hcl
  have hz : w.heap.size + 1 < ((w.alloc (.cells (tr c b k) 48)).alloc (.cells z48 48)).heap.size := by simp
  have HZ := Lib.hid hz
  clear hz
  go_enter Try.func59, Try.ntmps59
  go_wp2_with (first | (refine wpList_load_row rfl 48 _ rfl w.heap.size rfl 48 _ (0, 0) _ G1.out Try.underlying48 rfl (size48 _ _ _) ?_))
  refine (HR.out _).mono ?_
  rintro e w1 ⟨rfl, hb1⟩
  have E1 := Lib.hid (G3.out.trans (hb1.mono (Nat.le_of_lt (Nat.lt_of_succ_lt HZ.out))))
  have E2 := Lib.hid (G2.out.below hb1 HZ.out)
  clear hb1
  go_wp2_with fail
  refine (HC.out _ E1.out).mono ?_
  rintro e w2 ⟨rfl, hb2⟩
  have F1 := Lib.hid (gb_trans (grown_of_below E1.out (some g)) hb2)
  have F2 : Hid (Blk w2 (w.heap.size + 1) 48 z48) := Lib.hid ((hb2.block _ E2.out.lt (by intro e; injection e with e; omega)).trans E2.out)
  clear hb2
  go_wp2_with (first | (refine wpList_store_row rfl 48 _ _ rfl (w.heap.size + 1) _ rfl rfl 48 _ F2.out (size48 _ _ _) rfl (one48 _ _ _) ?_))
  exact bodyPost_ret (results_cell_row2 rfl _ _ (w.heap.size + 1) 48 _ (0, 0) _ rfl (F2.out.row _) Try.underlying48 rfl (size48 _ _ _)) rfl ⟨rfl, gb_row F1.out (by omega) _⟩
set_option maxRecDepth 100000 in
set_option maxHeartbeats 4000000 in
theorem told60_no (g : Nat) (c b : Int) (k : ByteArray) (w : World) (_hgl : g < w.heap.size)
    (hright : ∀ W : World, Calls Try.prog 58 #[.agg (tr c b k)] W fun e w' => e = .returned (.bool false) ∧ Below W.heap.size W w') :
    Calls Try.prog 59 #[.agg (tr c b k), .func (.func 60) #[] #[.pointer (some ⟨g, 0, none⟩)]] w fun e w' => e = .returned (.tuple #[.agg z48, .int .i64 1]) ∧ w.grownBy w' (some g) := by
  have G1 := Lib.hid ((Blk.new w 48 (tr c b k)).alloc (.cells z48 48))
  have G2 := Lib.hid (Blk.new (w.alloc (.cells (tr c b k) 48)) 48 z48)
  have G3 := Lib.hid (((Below.refl w.heap.size w).alloc (Nat.le_refl _) (.cells (tr c b k) 48)).alloc (by simp) (.cells z48 48))
  have HR := Lib.hid hright
  rw [World.size_alloc] at G2
  clear hright
  have hz : w.heap.size + 1 < ((w.alloc (.cells (tr c b k) 48)).alloc (.cells z48 48)).heap.size := by simp
  have HZ := Lib.hid hz
  clear hz
  go_enter Try.func59, Try.ntmps59
  go_wp2_with (first | (refine wpList_load_row rfl 48 _ rfl w.heap.size rfl 48 _ (0, 0) _ G1.out Try.underlying48 rfl (size48 _ _ _) ?_))
  refine (HR.out _).mono ?_
  rintro e w1 ⟨rfl, hb1⟩
  have E1 := Lib.hid (G3.out.trans (hb1.mono (Nat.le_of_lt (Nat.lt_of_succ_lt HZ.out))))
  have E2 := Lib.hid ((G2.out.below hb1 HZ.out).alloc (.cells z48 48))
  have E3 := Lib.hid (Blk.new w1 48 z48)
  clear hb1
  go_wp2_with (first | (refine wpList_load_row rfl 48 _ rfl w1.heap.size rfl 48 _ (0, 0) _ E3.out Try.underlying48 rfl (size48 0 0 ⟨#[]⟩) ?_) | (refine wpList_store_row rfl 48 _ _ rfl (w.heap.size + 1) _ rfl rfl 48 _ E2.out (size48 0 0 ⟨#[]⟩) rfl (one48 0 0 ⟨#[]⟩) ?_))
  exact bodyPost_ret (results_cell_row2 rfl _ _ (w.heap.size + 1) 48 _ (0, 0) _ rfl (E2.out.row z48) Try.underlying48 rfl (size48 0 0 ⟨#[]⟩)) rfl ⟨rfl, gb_row (gb_alloc (grown_of_below E1.out (some g)) _) (by omega) _⟩

set_option maxRecDepth 100000 in
set_option maxHeartbeats 4000000 in
theorem told61 (gn g : Nat) (c b : Int) (k : ByteArray) (c' b' : Int) (k' : ByteArray) (code : Int) (w : World) (hgl : g < w.heap.size)
    (hright : ∀ W : World, Calls Try.prog 58 #[.agg (tr c b k)] W fun e w' => e = .returned (.bool true) ∧ Below W.heap.size W w')
    (hcl : ∀ W : World, Below w.heap.size w W → Calls Try.prog 61 #[.pointer (some ⟨gn, 0, none⟩), .pointer (some ⟨g, 0, none⟩)] W fun e w' => e = .returned (.tuple #[.agg (tr c' b' k'), .int .i64 code]) ∧ W.grownBy w' (some g)) :
    Calls Try.prog 59 #[.agg (tr c b k), .func (.func 61) #[] #[.pointer (some ⟨gn, 0, none⟩), .pointer (some ⟨g, 0, none⟩)]] w fun e w' => e = .returned (.tuple #[.agg (tr c' b' k'), .int .i64 code]) ∧ w.grownBy w' (some g) := by
  have G1 := Lib.hid ((Blk.new w 48 (tr c b k)).alloc (.cells z48 48))
  have G2 := Lib.hid (Blk.new (w.alloc (.cells (tr c b k) 48)) 48 z48)
  have G3 := Lib.hid (((Below.refl w.heap.size w).alloc (Nat.le_refl _) (.cells (tr c b k) 48)).alloc (by simp) (.cells z48 48))
  have HR := Lib.hid hright
  have HC := Lib.hid hcl
  rw [World.size_alloc] at G2
  clear hright hcl
  have hz : w.heap.size + 1 < ((w.alloc (.cells (tr c b k) 48)).alloc (.cells z48 48)).heap.size := by simp
  have HZ := Lib.hid hz
  clear hz
  go_enter Try.func59, Try.ntmps59
  go_wp2_with (first | (refine wpList_load_row rfl 48 _ rfl w.heap.size rfl 48 _ (0, 0) _ G1.out Try.underlying48 rfl (size48 _ _ _) ?_))
  refine (HR.out _).mono ?_
  rintro e w1 ⟨rfl, hb1⟩
  have E1 := Lib.hid (G3.out.trans (hb1.mono (Nat.le_of_lt (Nat.lt_of_succ_lt HZ.out))))
  have E2 := Lib.hid (G2.out.below hb1 HZ.out)
  clear hb1
  go_wp2_with fail
  refine (HC.out _ E1.out).mono ?_
  rintro e w2 ⟨rfl, hb2⟩
  have F1 := Lib.hid (gb_trans (grown_of_below E1.out (some g)) hb2)
  have F2 : Hid (Blk w2 (w.heap.size + 1) 48 z48) := Lib.hid ((hb2.block _ E2.out.lt (by intro e; injection e with e; omega)).trans E2.out)
  clear hb2
  go_wp2_with (first | (refine wpList_store_row rfl 48 _ _ rfl (w.heap.size + 1) _ rfl rfl 48 _ F2.out (size48 _ _ _) rfl (one48 _ _ _) ?_))
  exact bodyPost_ret (results_cell_row2 rfl _ _ (w.heap.size + 1) 48 _ (0, 0) _ rfl (F2.out.row _) Try.underlying48 rfl (size48 _ _ _)) rfl ⟨rfl, gb_row F1.out (by omega) _⟩
set_option maxRecDepth 100000 in
set_option maxHeartbeats 4000000 in
theorem told61_no (gn g : Nat) (c b : Int) (k : ByteArray) (w : World) (_hgl : g < w.heap.size)
    (hright : ∀ W : World, Calls Try.prog 58 #[.agg (tr c b k)] W fun e w' => e = .returned (.bool false) ∧ Below W.heap.size W w') :
    Calls Try.prog 59 #[.agg (tr c b k), .func (.func 61) #[] #[.pointer (some ⟨gn, 0, none⟩), .pointer (some ⟨g, 0, none⟩)]] w fun e w' => e = .returned (.tuple #[.agg z48, .int .i64 1]) ∧ w.grownBy w' (some g) := by
  have G1 := Lib.hid ((Blk.new w 48 (tr c b k)).alloc (.cells z48 48))
  have G2 := Lib.hid (Blk.new (w.alloc (.cells (tr c b k) 48)) 48 z48)
  have G3 := Lib.hid (((Below.refl w.heap.size w).alloc (Nat.le_refl _) (.cells (tr c b k) 48)).alloc (by simp) (.cells z48 48))
  have HR := Lib.hid hright
  rw [World.size_alloc] at G2
  clear hright
  have hz : w.heap.size + 1 < ((w.alloc (.cells (tr c b k) 48)).alloc (.cells z48 48)).heap.size := by simp
  have HZ := Lib.hid hz
  clear hz
  go_enter Try.func59, Try.ntmps59
  go_wp2_with (first | (refine wpList_load_row rfl 48 _ rfl w.heap.size rfl 48 _ (0, 0) _ G1.out Try.underlying48 rfl (size48 _ _ _) ?_))
  refine (HR.out _).mono ?_
  rintro e w1 ⟨rfl, hb1⟩
  have E1 := Lib.hid (G3.out.trans (hb1.mono (Nat.le_of_lt (Nat.lt_of_succ_lt HZ.out))))
  have E2 := Lib.hid ((G2.out.below hb1 HZ.out).alloc (.cells z48 48))
  have E3 := Lib.hid (Blk.new w1 48 z48)
  clear hb1
  go_wp2_with (first | (refine wpList_load_row rfl 48 _ rfl w1.heap.size rfl 48 _ (0, 0) _ E3.out Try.underlying48 rfl (size48 0 0 ⟨#[]⟩) ?_) | (refine wpList_store_row rfl 48 _ _ rfl (w.heap.size + 1) _ rfl rfl 48 _ E2.out (size48 0 0 ⟨#[]⟩) rfl (one48 0 0 ⟨#[]⟩) ?_))
  exact bodyPost_ret (results_cell_row2 rfl _ _ (w.heap.size + 1) 48 _ (0, 0) _ rfl (E2.out.row z48) Try.underlying48 rfl (size48 0 0 ⟨#[]⟩)) rfl ⟨rfl, gb_row (gb_alloc (grown_of_below E1.out (some g)) _) (by omega) _⟩
end Go.Proofs.Ytnaidfcehmdmcaa.TS
