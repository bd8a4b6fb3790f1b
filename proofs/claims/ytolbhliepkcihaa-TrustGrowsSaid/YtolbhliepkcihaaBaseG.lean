/- Joined by a program of this session (wip/pack.py) for this claim: Trust1, Trust2, Trust4. -/
import Derived.Test.YtolbhliepkcihaaBaseF
import Derived.Test.YtolbhliepkcihaaBaseA
import Derived.Outline
import Derived.Laws.ResultCell
import Derived.Lib.Hide
import Derived.Deep.RegionHeld3
section
namespace Go.Proofs.Ytolbhliepkcihaa.TS
open Go.RowKit Go.Proofs.YtolbhliepkcihaaW.PrintWords Go.Proofs.YtolbhliepkcihaaW.PrintLast Go.Proofs.YtolbhliepkcihaaW.PrintMore
open Go.Proofs.Ytolbhliepkcihaa.Mem
def tr (c b : Int) (k : ByteArray) : Array Value := #[.int .u64 c, .int .u64 b, .string k]
theorem size48 (c b : Int) (k : ByteArray) : (Try.prog.info? 49).map (·.size) = some (tr c b k).size := by kernel_rfl
theorem one48 (c b : Int) (k : ByteArray) : (tr c b k).all (·.oneCell') = true := by simp [tr, Value.oneCell']
theorem results_cell_row2 {P : Program} {fn : Func} {p u : Tmp} {ty : TypeId} (h : fn.results = #[.cell p ty, .tmp u]) (tmps : Array Value) (w : World) (g : Nat) (t : TypeId) (cs : Array Value) (fr : Nat × Nat) (d : TypeDesc)
  (hp : tmps.getD p undef = .pointer (some ⟨g, 0, none⟩)) (hg : w.heap[g]? = some (.cells cs t fr))
  (hu : P.underlying ty = some d) (hd : (match d with | .struct _ | .array _ _ => true | _ => false) = true) (hi : (P.info? ty).map (·.size) = some cs.size) :
  (results fn tmps).run P w = .ok (.tuple #[.agg cs, tmps.getD u undef]) w := by
 rw [results_cell_tmp h, hp]
 simp [asAddr, run_loadVar_row w g t ty cs fr d hg hu hd hi]
abbrev z48 : Array Value := #[Value.int .u64 0, Value.int .u64 0, Value.string ⟨#[]⟩]
theorem size_set (w : World) (p : Addr) (v : Value) : (w.setCell p v).heap.size = w.heap.size := by simp [World.setCell]
/-! what is written: one old block g, and new ones -/
section
variable {w w' w'' : World} {r : Option Nat}
theorem gb_refl (w : World) (r : Option Nat) : w.grownBy w r := ⟨rfl, rfl, rfl, Nat.le_refl _, fun _ _ _ => rfl⟩
theorem gb_alloc (h : w.grownBy w' r) (o : Obj) : w.grownBy (w'.alloc o) r :=
 ⟨h.os, h.tape, h.output, by simp; have := h.size; omega, fun k hk hr => (Below.heap_alloc w' o k (by have := h.size; omega)).trans (h.block k hk hr)⟩
theorem gb_set {g : Nat} (h : w.grownBy w' (some g)) (i : Nat) (v : Value) : w.grownBy (w'.setCell ⟨g, i, none⟩ v) (some g) :=
 ⟨h.os, h.tape, h.output, by rw [size_set]; exact h.size, fun k hk hr => (Below.heap_setCell w' ⟨g, i, none⟩ v k (fun e => hr (by rw [e]))).trans (h.block k hk hr)⟩
theorem gb_row (h : w.grownBy w' r) {g : Nat} (hg : w.heap.size ≤ g) (cs : Array Value) : w.grownBy (w'.setRow g cs) r :=
 ⟨h.os, h.tape, h.output, by simpa [World.setRow] using h.size, fun k hk hr => by
  rw [← h.block k hk hr]
  simp [World.setRow, Array.getElem?_modify, show g ≠ k by omega]⟩
theorem gb_trans (h : w.grownBy w' r) (h' : w'.grownBy w'' r) : w.grownBy w'' r :=
 ⟨h'.os.trans h.os, h'.tape.trans h.tape, h'.output.trans h.output, Nat.le_trans h.size h'.size, fun k hk hr => (h'.block k (Nat.lt_of_lt_of_le hk h.size) hr).trans (h.block k hk hr)⟩
theorem gb_below {B : Nat} (h : w.grownBy w' r) (hB : B ≤ w.heap.size) (hr : ∀ k, r = some k → B ≤ k) : Below B w w' := (Below.refl B w).grown h hB hr
end
set_option maxRecDepth 100000 in
set_option maxHeartbeats 4000000 in
theorem boot60 (g : Nat) (c b : Int) (k : ByteArray) (w : World) (hB : Blk w g 49 (tr c b k)) (hne : (b == 4294967295) = false) (hb0 : 0 ≤ b) (hb1 : b < 4294967295) :
  Calls Try.prog 87 #[.pointer (some ⟨g, 0, none⟩)] w fun e w' => e = .returned (.tuple #[.agg (tr c (b + 1) k), .int .i64 0]) ∧ w.grownBy w' (some g) := by
 have h1 := hB.cell 1
 rw [show (tr c b k)[1]? = some (.int .u64 b) from rfl] at h1
 have hf := hB.frozen 1
 have hlt := hB.lt
 have H1 : Blk ((w.setCell ⟨g, 1, none⟩ (.int .u64 (b + 1))).alloc (.cells z48 49)) g 49 (tr c (b + 1) k) := (hB.set_ 1 _).alloc _
 have H2 : Blk ((w.setCell ⟨g, 1, none⟩ (.int .u64 (b + 1))).alloc (.cells z48 49)) w.heap.size 49 z48 := by
  have := Blk.new (w.setCell ⟨g, 1, none⟩ (.int .u64 (b + 1))) 49 z48
  rw [size_set] at this
  exact this
 have hb2 : w.grownBy ((w.setCell ⟨g, 1, none⟩ (.int .u64 (b + 1))).alloc (.cells z48 49)) (some g) := gb_alloc (gb_set (gb_refl w _) 1 _) _
 have G1 := Lib.hid H1
 have G2 := Lib.hid H2
 have G3 := Lib.hid hb2
 clear hB H1 H2 hb2
 go_enter Try.func87, Try.ntmps87
 go_wp2_with (first | (refine wpList_load_row rfl 49 _ rfl g rfl 49 _ (0, 0) _ G1.out Try.underlying49 rfl (size48 _ _ _) ?_) | (refine wpList_store_row rfl 49 _ _ rfl w.heap.size _ rfl rfl 49 _ G2.out (size48 _ _ _) rfl (one48 _ _ _) ?_))
 exact bodyPost_ret (results_cell_row2 rfl _ _ w.heap.size 49 _ (0, 0) _ rfl (G2.out.row (tr c (b + 1) k)) Try.underlying49 rfl (size48 _ _ _)) rfl ⟨rfl, gb_row G3.out (Nat.le_refl _) _⟩
set_option maxRecDepth 100000 in
set_option maxHeartbeats 4000000 in
theorem boot60_no (g : Nat) (c b : Int) (k : ByteArray) (w : World) (hB : Blk w g 49 (tr c b k)) (hne : (b == 4294967295) = true) :
  Calls Try.prog 87 #[.pointer (some ⟨g, 0, none⟩)] w fun e w' => e = .returned (.tuple #[.agg z48, .int .i64 2]) ∧ w.grownBy w' (some g) := by
 have h1 := hB.cell 1
 rw [show (tr c b k)[1]? = some (.int .u64 b) from rfl] at h1
 have hlt := hB.lt
 have H2 : Blk (w.alloc (.cells z48 49)) w.heap.size 49 z48 := Blk.new w 49 z48
 have hb2 : w.grownBy (w.alloc (.cells z48 49)) (some g) := gb_alloc (gb_refl w _) _
 have G2 := Lib.hid H2
 have G3 := Lib.hid hb2
 clear hB H2 hb2
 go_enter Try.func87, Try.ntmps87
 go_wp2_with (first | (refine wpList_store_row rfl 49 _ _ rfl w.heap.size _ rfl rfl 49 _ G2.out (size48 0 0 ⟨#[]⟩) rfl (one48 0 0 ⟨#[]⟩) ?_))
 exact bodyPost_ret (results_cell_row2 rfl _ _ w.heap.size 49 _ (0, 0) _ rfl (G2.out.row z48) Try.underlying49 rfl (size48 0 0 ⟨#[]⟩)) rfl ⟨rfl, gb_row G3.out (Nat.le_refl _) _⟩
set_option maxRecDepth 100000 in
set_option maxHeartbeats 4000000 in
theorem commit61 (gn g : Nat) (n c b : Int) (k : ByteArray) (w : World) (hN : Blk w gn 47 #[.int .u64 n]) (hB : Blk w g 49 (tr c b k)) (hne : decide (n ≤ c) = false) :
  Calls Try.prog 88 #[.pointer (some ⟨gn, 0, none⟩), .pointer (some ⟨g, 0, none⟩)] w fun e w' => e = .returned (.tuple #[.agg (tr n b k), .int .i64 0]) ∧ w.grownBy w' (some g) := by
 have h0 := hN.cell 0
 rw [show (#[Value.int .u64 n])[0]? = some (.int .u64 n) from rfl] at h0
 have h1 := hB.cell 0
 rw [show (tr c b k)[0]? = some (.int .u64 c) from rfl] at h1
 have hf := hB.frozen 0
 have hlt := hB.lt
 have hltn := hN.lt
 have H1 : Blk ((w.setCell ⟨g, 0, none⟩ (.int .u64 n)).alloc (.cells z48 49)) g 49 (tr n b k) := (hB.set_ 0 _).alloc _
 have H2 : Blk ((w.setCell ⟨g, 0, none⟩ (.int .u64 n)).alloc (.cells z48 49)) w.heap.size 49 z48 := by
  have := Blk.new (w.setCell ⟨g, 0, none⟩ (.int .u64 n)) 49 z48
  rw [size_set] at this
  exact this
 have hb2 : w.grownBy ((w.setCell ⟨g, 0, none⟩ (.int .u64 n)).alloc (.cells z48 49)) (some g) := gb_alloc (gb_set (gb_refl w _) 0 _) _
 have G1 := Lib.hid H1
 have G2 := Lib.hid H2
 have G3 := Lib.hid hb2
 clear hB hN H1 H2 hb2
 go_enter Try.func88, Try.ntmps88
 go_wp2_with (first | (refine wpList_load_row rfl 49 _ rfl g rfl 49 _ (0, 0) _ G1.out Try.underlying49 rfl (size48 _ _ _) ?_) | (refine wpList_store_row rfl 49 _ _ rfl w.heap.size _ rfl rfl 49 _ G2.out (size48 _ _ _) rfl (one48 _ _ _) ?_))
 exact bodyPost_ret (results_cell_row2 rfl _ _ w.heap.size 49 _ (0, 0) _ rfl (G2.out.row (tr n b k)) Try.underlying49 rfl (size48 _ _ _)) rfl ⟨rfl, gb_row G3.out (Nat.le_refl _) _⟩
set_option maxRecDepth 100000 in
set_option maxHeartbeats 4000000 in
theorem commit61_no (gn g : Nat) (n c b : Int) (k : ByteArray) (w : World) (hN : Blk w gn 47 #[.int .u64 n]) (hB : Blk w g 49 (tr c b k)) (hne : decide (n ≤ c) = true) :
  Calls Try.prog 88 #[.pointer (some ⟨gn, 0, none⟩), .pointer (some ⟨g, 0, none⟩)] w fun e w' => e = .returned (.tuple #[.agg z48, .int .i64 2]) ∧ w.grownBy w' (some g) := by
 have h0 := hN.cell 0
 rw [show (#[Value.int .u64 n])[0]? = some (.int .u64 n) from rfl] at h0
 have h1 := hB.cell 0
 rw [show (tr c b k)[0]? = some (.int .u64 c) from rfl] at h1
 have hlt := hB.lt
 have hltn := hN.lt
 have H2 : Blk (w.alloc (.cells z48 49)) w.heap.size 49 z48 := Blk.new w 49 z48
 have hb2 : w.grownBy (w.alloc (.cells z48 49)) (some g) := gb_alloc (gb_refl w _) _
 have G2 := Lib.hid H2
 have G3 := Lib.hid hb2
 clear hB hN H2 hb2
 go_enter Try.func88, Try.ntmps88
 go_wp2_with (first | (refine wpList_store_row rfl 49 _ _ rfl w.heap.size _ rfl rfl 49 _ G2.out (size48 0 0 ⟨#[]⟩) rfl (one48 0 0 ⟨#[]⟩) ?_))
 exact bodyPost_ret (results_cell_row2 rfl _ _ w.heap.size 49 _ (0, 0) _ rfl (G2.out.row z48) Try.underlying49 rfl (size48 0 0 ⟨#[]⟩)) rfl ⟨rfl, gb_row G3.out (Nat.le_refl _) _⟩
set_option maxRecDepth 100000 in
set_option maxHeartbeats 4000000 in
theorem told60 (g : Nat) (c b : Int) (k : ByteArray) (c' b' : Int) (k' : ByteArray) (code : Int) (w : World) (hgl : g < w.heap.size)
  (hright : ∀ W : World, Calls Try.prog 108 #[.agg (tr c b k)] W fun e w' => e = .returned (.bool true) ∧ Below W.heap.size W w')
  (hcl : ∀ W : World, Below w.heap.size w W → Calls Try.prog 87 #[.pointer (some ⟨g, 0, none⟩)] W fun e w' => e = .returned (.tuple #[.agg (tr c' b' k'), .int .i64 code]) ∧ W.grownBy w' (some g)) :
  Calls Try.prog 86 #[.agg (tr c b k), .func (.func 87) #[] #[.pointer (some ⟨g, 0, none⟩)]] w fun e w' => e = .returned (.tuple #[.agg (tr c' b' k'), .int .i64 code]) ∧ w.grownBy w' (some g) := by
 have G1 := Lib.hid ((Blk.new w 49 (tr c b k)).alloc (.cells z48 49))
 have G2 := Lib.hid (Blk.new (w.alloc (.cells (tr c b k) 49)) 49 z48)
 have G3 := Lib.hid (((Below.refl w.heap.size w).alloc (Nat.le_refl _) (.cells (tr c b k) 49)).alloc (by simp) (.cells z48 49))
 have HR := Lib.hid hright
 have HC := Lib.hid hcl
 rw [World.size_alloc] at G2
 clear hright hcl
 have hz : w.heap.size + 1 < ((w.alloc (.cells (tr c b k) 49)).alloc (.cells z48 49)).heap.size := by simp
 have HZ := Lib.hid hz
 clear hz
 go_enter Try.func86, Try.ntmps86
 go_wp2_with (first | (refine wpList_load_row rfl 49 _ rfl w.heap.size rfl 49 _ (0, 0) _ G1.out Try.underlying49 rfl (size48 _ _ _) ?_))
 refine (HR.out _).mono ?_
 rintro e w1 ⟨rfl, hb1⟩
 have E1 := Lib.hid (G3.out.trans (hb1.mono (Nat.le_of_lt (Nat.lt_of_succ_lt HZ.out))))
 have E2 := Lib.hid (G2.out.below hb1 HZ.out)
 clear hb1
 go_wp2_with fail
 refine (HC.out _ E1.out).mono ?_
 rintro e w2 ⟨rfl, hb2⟩
 have F1 := Lib.hid (gb_trans (grown_of_below E1.out (some g)) hb2)
 have F2 : Hid (Blk w2 (w.heap.size + 1) 49 z48) := Lib.hid ((hb2.block _ E2.out.lt (by intro e; injection e with e; omega)).trans E2.out)
 clear hb2
 go_wp2_with (first | (refine wpList_store_row rfl 49 _ _ rfl (w.heap.size + 1) _ rfl rfl 49 _ F2.out (size48 _ _ _) rfl (one48 _ _ _) ?_))
 exact bodyPost_ret (results_cell_row2 rfl _ _ (w.heap.size + 1) 49 _ (0, 0) _ rfl (F2.out.row _) Try.underlying49 rfl (size48 _ _ _)) rfl ⟨rfl, gb_row F1.out (by omega) _⟩
set_option maxRecDepth 100000 in
set_option maxHeartbeats 4000000 in
theorem told60_no (g : Nat) (c b : Int) (k : ByteArray) (w : World) (_hgl : g < w.heap.size)
  (hright : ∀ W : World, Calls Try.prog 108 #[.agg (tr c b k)] W fun e w' => e = .returned (.bool false) ∧ Below W.heap.size W w') :
  Calls Try.prog 86 #[.agg (tr c b k), .func (.func 87) #[] #[.pointer (some ⟨g, 0, none⟩)]] w fun e w' => e = .returned (.tuple #[.agg z48, .int .i64 1]) ∧ w.grownBy w' (some g) := by
 have G1 := Lib.hid ((Blk.new w 49 (tr c b k)).alloc (.cells z48 49))
 have G2 := Lib.hid (Blk.new (w.alloc (.cells (tr c b k) 49)) 49 z48)
 have G3 := Lib.hid (((Below.refl w.heap.size w).alloc (Nat.le_refl _) (.cells (tr c b k) 49)).alloc (by simp) (.cells z48 49))
 have HR := Lib.hid hright
 rw [World.size_alloc] at G2
 clear hright
 have hz : w.heap.size + 1 < ((w.alloc (.cells (tr c b k) 49)).alloc (.cells z48 49)).heap.size := by simp
 have HZ := Lib.hid hz
 clear hz
 go_enter Try.func86, Try.ntmps86
 go_wp2_with (first | (refine wpList_load_row rfl 49 _ rfl w.heap.size rfl 49 _ (0, 0) _ G1.out Try.underlying49 rfl (size48 _ _ _) ?_))
 refine (HR.out _).mono ?_
 rintro e w1 ⟨rfl, hb1⟩
 have E1 := Lib.hid (G3.out.trans (hb1.mono (Nat.le_of_lt (Nat.lt_of_succ_lt HZ.out))))
 have E2 := Lib.hid ((G2.out.below hb1 HZ.out).alloc (.cells z48 49))
 have E3 := Lib.hid (Blk.new w1 49 z48)
 clear hb1
 go_wp2_with (first | (refine wpList_load_row rfl 49 _ rfl w1.heap.size rfl 49 _ (0, 0) _ E3.out Try.underlying49 rfl (size48 0 0 ⟨#[]⟩) ?_) | (refine wpList_store_row rfl 49 _ _ rfl (w.heap.size + 1) _ rfl rfl 49 _ E2.out (size48 0 0 ⟨#[]⟩) rfl (one48 0 0 ⟨#[]⟩) ?_))
 exact bodyPost_ret (results_cell_row2 rfl _ _ (w.heap.size + 1) 49 _ (0, 0) _ rfl (E2.out.row z48) Try.underlying49 rfl (size48 0 0 ⟨#[]⟩)) rfl ⟨rfl, gb_row (gb_alloc (grown_of_below E1.out (some g)) _) (by omega) _⟩
set_option maxRecDepth 100000 in
set_option maxHeartbeats 4000000 in
theorem told61 (gn g : Nat) (c b : Int) (k : ByteArray) (c' b' : Int) (k' : ByteArray) (code : Int) (w : World) (hgl : g < w.heap.size)
  (hright : ∀ W : World, Calls Try.prog 108 #[.agg (tr c b k)] W fun e w' => e = .returned (.bool true) ∧ Below W.heap.size W w')
  (hcl : ∀ W : World, Below w.heap.size w W → Calls Try.prog 88 #[.pointer (some ⟨gn, 0, none⟩), .pointer (some ⟨g, 0, none⟩)] W fun e w' => e = .returned (.tuple #[.agg (tr c' b' k'), .int .i64 code]) ∧ W.grownBy w' (some g)) :
  Calls Try.prog 86 #[.agg (tr c b k), .func (.func 88) #[] #[.pointer (some ⟨gn, 0, none⟩), .pointer (some ⟨g, 0, none⟩)]] w fun e w' => e = .returned (.tuple #[.agg (tr c' b' k'), .int .i64 code]) ∧ w.grownBy w' (some g) := by
 have G1 := Lib.hid ((Blk.new w 49 (tr c b k)).alloc (.cells z48 49))
 have G2 := Lib.hid (Blk.new (w.alloc (.cells (tr c b k) 49)) 49 z48)
 have G3 := Lib.hid (((Below.refl w.heap.size w).alloc (Nat.le_refl _) (.cells (tr c b k) 49)).alloc (by simp) (.cells z48 49))
 have HR := Lib.hid hright
 have HC := Lib.hid hcl
 rw [World.size_alloc] at G2
 clear hright hcl
 have hz : w.heap.size + 1 < ((w.alloc (.cells (tr c b k) 49)).alloc (.cells z48 49)).heap.size := by simp
 have HZ := Lib.hid hz
 clear hz
 go_enter Try.func86, Try.ntmps86
 go_wp2_with (first | (refine wpList_load_row rfl 49 _ rfl w.heap.size rfl 49 _ (0, 0) _ G1.out Try.underlying49 rfl (size48 _ _ _) ?_))
 refine (HR.out _).mono ?_
 rintro e w1 ⟨rfl, hb1⟩
 have E1 := Lib.hid (G3.out.trans (hb1.mono (Nat.le_of_lt (Nat.lt_of_succ_lt HZ.out))))
 have E2 := Lib.hid (G2.out.below hb1 HZ.out)
 clear hb1
 go_wp2_with fail
 refine (HC.out _ E1.out).mono ?_
 rintro e w2 ⟨rfl, hb2⟩
 have F1 := Lib.hid (gb_trans (grown_of_below E1.out (some g)) hb2)
 have F2 : Hid (Blk w2 (w.heap.size + 1) 49 z48) := Lib.hid ((hb2.block _ E2.out.lt (by intro e; injection e with e; omega)).trans E2.out)
 clear hb2
 go_wp2_with (first | (refine wpList_store_row rfl 49 _ _ rfl (w.heap.size + 1) _ rfl rfl 49 _ F2.out (size48 _ _ _) rfl (one48 _ _ _) ?_))
 exact bodyPost_ret (results_cell_row2 rfl _ _ (w.heap.size + 1) 49 _ (0, 0) _ rfl (F2.out.row _) Try.underlying49 rfl (size48 _ _ _)) rfl ⟨rfl, gb_row F1.out (by omega) _⟩
set_option maxRecDepth 100000 in
set_option maxHeartbeats 4000000 in
theorem told61_no (gn g : Nat) (c b : Int) (k : ByteArray) (w : World) (_hgl : g < w.heap.size)
  (hright : ∀ W : World, Calls Try.prog 108 #[.agg (tr c b k)] W fun e w' => e = .returned (.bool false) ∧ Below W.heap.size W w') :
  Calls Try.prog 86 #[.agg (tr c b k), .func (.func 88) #[] #[.pointer (some ⟨gn, 0, none⟩), .pointer (some ⟨g, 0, none⟩)]] w fun e w' => e = .returned (.tuple #[.agg z48, .int .i64 1]) ∧ w.grownBy w' (some g) := by
 have G1 := Lib.hid ((Blk.new w 49 (tr c b k)).alloc (.cells z48 49))
 have G2 := Lib.hid (Blk.new (w.alloc (.cells (tr c b k) 49)) 49 z48)
 have G3 := Lib.hid (((Below.refl w.heap.size w).alloc (Nat.le_refl _) (.cells (tr c b k) 49)).alloc (by simp) (.cells z48 49))
 have HR := Lib.hid hright
 rw [World.size_alloc] at G2
 clear hright
 have hz : w.heap.size + 1 < ((w.alloc (.cells (tr c b k) 49)).alloc (.cells z48 49)).heap.size := by simp
 have HZ := Lib.hid hz
 clear hz
 go_enter Try.func86, Try.ntmps86
 go_wp2_with (first | (refine wpList_load_row rfl 49 _ rfl w.heap.size rfl 49 _ (0, 0) _ G1.out Try.underlying49 rfl (size48 _ _ _) ?_))
 refine (HR.out _).mono ?_
 rintro e w1 ⟨rfl, hb1⟩
 have E1 := Lib.hid (G3.out.trans (hb1.mono (Nat.le_of_lt (Nat.lt_of_succ_lt HZ.out))))
 have E2 := Lib.hid ((G2.out.below hb1 HZ.out).alloc (.cells z48 49))
 have E3 := Lib.hid (Blk.new w1 49 z48)
 clear hb1
 go_wp2_with (first | (refine wpList_load_row rfl 49 _ rfl w1.heap.size rfl 49 _ (0, 0) _ E3.out Try.underlying49 rfl (size48 0 0 ⟨#[]⟩) ?_) | (refine wpList_store_row rfl 49 _ _ rfl (w.heap.size + 1) _ rfl rfl 49 _ E2.out (size48 0 0 ⟨#[]⟩) rfl (one48 0 0 ⟨#[]⟩) ?_))
 exact bodyPost_ret (results_cell_row2 rfl _ _ (w.heap.size + 1) 49 _ (0, 0) _ rfl (E2.out.row z48) Try.underlying49 rfl (size48 0 0 ⟨#[]⟩)) rfl ⟨rfl, gb_row (gb_alloc (grown_of_below E1.out (some g)) _) (by omega) _⟩
end Go.Proofs.Ytolbhliepkcihaa.TS
end
section
namespace Go.Proofs.Ytolbhliepkcihaa
open Go.RowKit Go.Proofs.YtolbhliepkcihaaW.PrintWords Go.Proofs.YtolbhliepkcihaaW.PrintLast Go.Proofs.YtolbhliepkcihaaW.PrintMore
open Go.Proofs.Ytolbhliepkcihaa.Mem Go.Proofs.Ytolbhliepkcihaa.TS
def rightB (b : Int) (k : ByteArray) : Bool := (k.size == 16 || k.size == 32) && decide (b ≤ 4294967295)
theorem right_any (c b : Int) (k : ByteArray) (w : World) : Calls Try.prog 108 #[.agg (tr c b k)] w fun e w' => e = .returned (.bool (rightB b k)) ∧ Below w.heap.size w w' := by
 refine QTB.trust_right.calls c b k (rightB b k) w ?_
 unfold QTB.trust_right.f rightB
 by_cases h16 : k.size = 16
 ·rw [if_pos (by omega), h16]; rfl
 ·rw [if_neg (by omega)]
  by_cases h32 : k.size = 32
  ·rw [if_pos (by omega), h32]; rfl
  ·rw [if_neg (by omega)]
   have e1 : (k.size == 16) = false := beq_eq_false_iff_ne.2 h16
   have e2 : (k.size == 32) = false := beq_eq_false_iff_ne.2 h32
   rw [e1, e2]; rfl
def trust_Boot.f (c b : Int) (k : ByteArray) : Option (Int × Int × ByteArray × Int) :=
 if 0 ≤ b then (if rightB b k = true then (if b = 4294967295 then some (0, 0, ⟨#[]⟩, 2) else some (c, b + 1, k, 0)) else some (0, 0, ⟨#[]⟩, 1)) else none
def trust_Commit.f (c b : Int) (k : ByteArray) (n : Int) : Option (Int × Int × ByteArray × Int) :=
 if rightB b k = true then (if n ≤ c then some (0, 0, ⟨#[]⟩, 2) else some (n, b, k, 0)) else some (0, 0, ⟨#[]⟩, 1)
section
set_option maxRecDepth 100000
set_option maxHeartbeats 4000000
theorem boot_walk (c b : Int) (k : ByteArray) (c' b' : Int) (k' : ByteArray) (code : Int) (w : World)
  (ht : ∀ W : World, Blk W w.heap.size 49 (tr c b k) → Calls Try.prog 86 #[.agg (tr c b k), .func (.func 87) #[] #[.pointer (some ⟨w.heap.size, 0, none⟩)]] W fun e w' => e = .returned (.tuple #[.agg (tr c' b' k'), .int .i64 code]) ∧ W.grownBy w' (some w.heap.size)) :
  Calls Try.prog 49 #[.agg (tr c b k)] w fun e w' => e = .returned (.tuple #[.agg (tr c' b' k'), .int .i64 code]) ∧ Below w.heap.size w w' := by
 have G1 := Lib.hid ((Blk.new w 49 (tr c b k)).alloc (.cells z48 49))
 have g2 := Blk.new (w.alloc (.cells (tr c b k) 49)) 49 z48
 rw [World.size_alloc] at g2
 have G2 := Lib.hid g2
 have G3 := Lib.hid (((Below.refl w.heap.size w).alloc (Nat.le_refl _) (.cells (tr c b k) 49)).alloc (by simp) (.cells z48 49))
 have HT := Lib.hid ht
 have hmf : ∀ (fn : Fn) (first cap : Array Value) (w : World), (Instr.makeFunc fn first cap).run Try.prog w = .ok (.func fn first cap) w := fun _ _ _ _ => rfl
 clear ht g2
 go_enter Try.func49, Try.ntmps49
 go_wp2_with (first | (refine wpList_load_row rfl 49 _ rfl w.heap.size rfl 49 _ (0, 0) _ G1.out Try.underlying49 rfl (size48 _ _ _) ?_))
 refine (HT.out _ G1.out).mono ?_
 rintro e w2 ⟨rfl, hb2⟩
 have F1 := Lib.hid (G3.out.grown hb2 G3.out.size (fun k e => by injection e with e; omega))
 have F2 : Hid (Blk w2 (w.heap.size + 1) 49 z48) := Lib.hid ((hb2.block _ G2.out.lt (by intro e; injection e with e; omega)).trans G2.out)
 clear hb2 hmf
 go_wp2_with (first | (refine wpList_store_row rfl 49 _ _ rfl (w.heap.size + 1) _ rfl rfl 49 _ F2.out (size48 _ _ _) rfl (one48 _ _ _) ?_))
 exact bodyPost_ret (results_cell_row2 rfl _ _ (w.heap.size + 1) 49 _ (0, 0) _ rfl (F2.out.row _) Try.underlying49 rfl (size48 _ _ _)) rfl ⟨rfl, below_row F1.out (by omega) _⟩
theorem commit_walk (c b : Int) (k : ByteArray) (n : Int) (c' b' : Int) (k' : ByteArray) (code : Int) (w : World)
  (ht : ∀ W : World, Blk W w.heap.size 49 (tr c b k) → Blk W (w.heap.size + 1) 47 #[.int .u64 n] → Calls Try.prog 86 #[.agg (tr c b k), .func (.func 88) #[] #[.pointer (some ⟨w.heap.size + 1, 0, none⟩), .pointer (some ⟨w.heap.size, 0, none⟩)]] W fun e w' => e = .returned (.tuple #[.agg (tr c' b' k'), .int .i64 code]) ∧ W.grownBy w' (some w.heap.size)) :
  Calls Try.prog 50 #[.agg (tr c b k), .int .u64 n] w fun e w' => e = .returned (.tuple #[.agg (tr c' b' k'), .int .i64 code]) ∧ Below w.heap.size w w' := by
 have G1 := Lib.hid (((Blk.new w 49 (tr c b k)).alloc (.cells #[.int .u64 n] 47)).alloc (.cells z48 49))
 have g2 := (Blk.new (w.alloc (.cells (tr c b k) 49)) 47 #[.int .u64 n]).alloc (.cells z48 49)
 rw [World.size_alloc] at g2
 have G2 := Lib.hid g2
 have g4 := Blk.new ((w.alloc (.cells (tr c b k) 49)).alloc (.cells #[.int .u64 n] 47)) 49 z48
 rw [World.size_alloc, World.size_alloc] at g4
 have G4 := Lib.hid g4
 have G3 := Lib.hid ((((Below.refl w.heap.size w).alloc (Nat.le_refl _) (.cells (tr c b k) 49)).alloc (by simp) (.cells #[.int .u64 n] 47)).alloc (by simp; omega) (.cells z48 49))
 have HT := Lib.hid ht
 have hmf : ∀ (fn : Fn) (first cap : Array Value) (w : World), (Instr.makeFunc fn first cap).run Try.prog w = .ok (.func fn first cap) w := fun _ _ _ _ => rfl
 clear ht g2 g4
 go_enter Try.func50, Try.ntmps50
 go_wp2_with (first | (refine wpList_load_row rfl 49 _ rfl w.heap.size rfl 49 _ (0, 0) _ G1.out Try.underlying49 rfl (size48 _ _ _) ?_))
 refine (HT.out _ G1.out G2.out).mono ?_
 rintro e w2 ⟨rfl, hb2⟩
 have F1 := Lib.hid (G3.out.grown hb2 G3.out.size (fun k e => by injection e with e; omega))
 have F2 : Hid (Blk w2 (w.heap.size + 1 + 1) 49 z48) := Lib.hid ((hb2.block _ G4.out.lt (by intro e; injection e with e; omega)).trans G4.out)
 clear hb2 hmf
 go_wp2_with (first | (refine wpList_store_row rfl 49 _ _ rfl (w.heap.size + 1 + 1) _ rfl rfl 49 _ F2.out (size48 _ _ _) rfl (one48 _ _ _) ?_))
 exact bodyPost_ret (results_cell_row2 rfl _ _ (w.heap.size + 1 + 1) 49 _ (0, 0) _ rfl (F2.out.row _) Try.underlying49 rfl (size48 _ _ _)) rfl ⟨rfl, below_row F1.out (by omega) _⟩
end
theorem trust_Boot.calls (a0_0 : Int) (a0_1 : Int) (a0_2 : ByteArray) (r1 : Int) (r2 : Int) (r3 : ByteArray) (r4 : Int) (w : World) (h : trust_Boot.f a0_0 a0_1 a0_2 = some (r1, r2, r3, r4)) :
  Calls Try.prog 49 #[.agg #[.int .u64 a0_0, .int .u64 a0_1, .string a0_2]] w fun e w' => e = .returned (.tuple #[.agg #[.int .u64 r1, .int .u64 r2, .string r3], .int .i64 r4]) ∧ Below w.heap.size w w' := by
 unfold trust_Boot.f at h
 by_cases h0 : 0 ≤ a0_1
 ·rw [if_pos h0] at h
  cases hr : rightB a0_1 a0_2 with
  | true =>
   rw [hr, if_pos rfl] at h
   have hR := fun W => hr ▸ right_any a0_0 a0_1 a0_2 W
   by_cases h1 : a0_1 = 4294967295
   ·rw [if_pos h1] at h
    injection h with h; obtain ⟨rfl, rfl, rfl, rfl⟩ := h
    exact boot_walk a0_0 a0_1 a0_2 0 0 ⟨#[]⟩ 2 w fun W hB => told60 _ a0_0 a0_1 a0_2 0 0 ⟨#[]⟩ 2 W hB.lt hR fun W' hb => boot60_no _ a0_0 a0_1 a0_2 W' (hB.below hb hB.lt) (beq_iff_eq.2 h1)
   ·rw [if_neg h1] at h
    injection h with h; obtain ⟨rfl, rfl, rfl, rfl⟩ := h
    have h2 : a0_1 ≤ 4294967295 := by
     unfold rightB at hr
     rw [Bool.and_eq_true] at hr
     exact of_decide_eq_true hr.2
    exact boot_walk a0_0 a0_1 a0_2 a0_0 (a0_1 + 1) a0_2 0 w fun W hB => told60 _ a0_0 a0_1 a0_2 a0_0 (a0_1 + 1) a0_2 0 W hB.lt hR fun W' hb => boot60 _ a0_0 a0_1 a0_2 W' (hB.below hb hB.lt) (beq_eq_false_iff_ne.2 h1) h0 (by omega)
  | false =>
   rw [hr, if_neg (by decide)] at h
   injection h with h; obtain ⟨rfl, rfl, rfl, rfl⟩ := h
   have hR := fun W => hr ▸ right_any a0_0 a0_1 a0_2 W
   exact boot_walk a0_0 a0_1 a0_2 0 0 ⟨#[]⟩ 1 w fun W hB => told60_no _ a0_0 a0_1 a0_2 W hB.lt hR
 ·rw [if_neg h0] at h; cases h
theorem trust_Commit.calls (a0_0 : Int) (a0_1 : Int) (a0_2 : ByteArray) (a1 : Int) (r1 : Int) (r2 : Int) (r3 : ByteArray) (r4 : Int) (w : World) (h : trust_Commit.f a0_0 a0_1 a0_2 a1 = some (r1, r2, r3, r4)) :
  Calls Try.prog 50 #[.agg #[.int .u64 a0_0, .int .u64 a0_1, .string a0_2], .int .u64 a1] w fun e w' => e = .returned (.tuple #[.agg #[.int .u64 r1, .int .u64 r2, .string r3], .int .i64 r4]) ∧ Below w.heap.size w w' := by
 unfold trust_Commit.f at h
 cases hr : rightB a0_1 a0_2 with
 | true =>
  rw [hr, if_pos rfl] at h
  have hR := fun W => hr ▸ right_any a0_0 a0_1 a0_2 W
  by_cases h1 : a1 ≤ a0_0
  ·rw [if_pos h1] at h
   injection h with h; obtain ⟨rfl, rfl, rfl, rfl⟩ := h
   exact commit_walk a0_0 a0_1 a0_2 a1 0 0 ⟨#[]⟩ 2 w fun W hB hN => told61 _ _ a0_0 a0_1 a0_2 0 0 ⟨#[]⟩ 2 W hB.lt hR fun W' hb => commit61_no _ _ a1 a0_0 a0_1 a0_2 W' (hN.below hb hN.lt) (hB.below hb hB.lt) (decide_eq_true h1)
  ·rw [if_neg h1] at h
   injection h with h; obtain ⟨rfl, rfl, rfl, rfl⟩ := h
   exact commit_walk a0_0 a0_1 a0_2 a1 a1 a0_1 a0_2 0 w fun W hB hN => told61 _ _ a0_0 a0_1 a0_2 a1 a0_1 a0_2 0 W hB.lt hR fun W' hb => commit61 _ _ a1 a0_0 a0_1 a0_2 W' (hN.below hb hN.lt) (hB.below hb hB.lt) (decide_eq_false h1)
 | false =>
  rw [hr, if_neg (by decide)] at h
  injection h with h; obtain ⟨rfl, rfl, rfl, rfl⟩ := h
  have hR := fun W => hr ▸ right_any a0_0 a0_1 a0_2 W
  exact commit_walk a0_0 a0_1 a0_2 a1 0 0 ⟨#[]⟩ 1 w fun W hB hN => told61_no _ _ a0_0 a0_1 a0_2 W hB.lt hR
end Go.Proofs.Ytolbhliepkcihaa
end
section
namespace Go.Proofs.Ytolbhliepkcihaa.Trust
open Go.RowKit Go.Proofs.Ytolbhliepkcihaa.Mem Go.Proofs.Ytolbhliepkcihaa.TS Go.Proofs.Ytolbhliepkcihaa.Sha Go.Proofs.Ytolbhliepkcihaa.Mac Go.Proofs.Ytolbhliepkcihaa.Codec Go.Proofs.YtolbhliepkcihaaW.PrintWords Go.Proofs.YtolbhliepkcihaaW.PrintLast Go.Proofs.YtolbhliepkcihaaW.PrintMore
/-- the key for a name -/
def deriveS (key name : ByteArray) : ByteArray := (tagS key (textS name)).extract 0 key.size
set_option maxRecDepth 100000 in
set_option maxHeartbeats 4000000 in
theorem derive1_yes (gn gt : Nat) (c b : Int) (key name : ByteArray) (hk : key.size ≤ 32) (hn : name.size ≤ 4096) (w : World) (hN : Blk w gn 9 #[.string name]) (hT : Blk w gt 49 (tr c b key)) :
  Calls Try.prog 81 #[.pointer (some ⟨gn, 0, none⟩), .pointer (some ⟨gt, 0, none⟩)] w fun e w' => e = .returned (.tuple #[.string (deriveS key name), .int .i64 0]) ∧ Below w.heap.size w w' := by
 have h0 := hN.cell 0
 rw [show (#[Value.string name])[0]? = some (.string name) from rfl] at h0
 have HX := Lib.hid (codec_Text.calls name (textS name) 0 · (if_pos hn))
 have hts := textS_size name
 have HG := Lib.hid (mac_Tag.calls key (textS name) (tagS key (textS name)) · (if_pos ⟨by omega, by omega⟩))
 have HD : Hid (deriveS key name = (tagS key (textS name)).extract 0 key.size) := Lib.hid rfl
 have hz := tag_size key (textS name)
 generalize deriveS key name = r at *
 generalize tagS key (textS name) = tg at *
 generalize textS name = ts at *
 have HT := Lib.hid hT
 have HW := Lib.hid (Below.refl w.heap.size w)
 clear hT hN
 go_enter Try.func81, Try.ntmps81
 go_wp2_with fail
 refine (HX.out _).mono ?_
 rintro e w1 ⟨rfl, hb1⟩
 have T1 := HT.out.below hb1 HT.out.lt
 have c2 := T1.cell 2
 rw [show (tr c b key)[2]? = some (.string key) from rfl] at c2
 have HB := Lib.hid hb1
 have HT1 := Lib.hid T1
 clear hb1 T1 h0 HT
 go_wp2_with fail
 have hkI : ((key.size : Nat) : Int) ≤ (tg.size : Int) := by omega
 have hk3 : ((key.size : Nat) : Int) ≤ 32 := by omega
 go_region_held3 (fun w' => w'.cell? ⟨gt, 2, none⟩ = some (.string key))
  (first | exact c2 | exact pw_cell_below hb2 (by assumption) | exact pw_cell_below hb2 c2 | assumption | go_keep)
  (first
   | (go_at_call 36; refine (HG.out _).mono ?_; rintro e w2 ⟨rfl, hb2⟩))
 go_wp2
 go_ret2
 exact ⟨by rw [HD.out]; rfl, Bel.step (Mem.below_drew HB.out) hb2⟩
set_option maxRecDepth 100000 in
set_option maxHeartbeats 4000000 in
theorem derive1_no (gn gt : Nat) (name : ByteArray) (hn : 4096 < name.size) (w : World) (hN : Blk w gn 9 #[.string name]) :
  Calls Try.prog 81 #[.pointer (some ⟨gn, 0, none⟩), .pointer (some ⟨gt, 0, none⟩)] w fun e w' => e = .returned (.tuple #[.string ⟨#[]⟩, .int .i64 4]) ∧ Below w.heap.size w w' := by
 have h0 := hN.cell 0
 rw [show (#[Value.string name])[0]? = some (.string name) from rfl] at h0
 have HX := Lib.hid (codec_Text.calls name ⟨#[]⟩ 4 · (if_neg (by omega)))
 clear hN
 go_enter Try.func81, Try.ntmps81
 go_wp2_with fail
 refine (HX.out _).mono ?_
 rintro e w1 ⟨rfl, hb1⟩
 have HB := Lib.hid hb1
 clear hb1 h0
 go_wp2
 go_ret2
 exact ⟨rfl, HB.out⟩
set_option maxRecDepth 100000 in
set_option maxHeartbeats 4000000 in
theorem toldS_yes (gn gt : Nat) (c b : Int) (key : ByteArray) (r : ByteArray) (code : Int) (w : World) (hr : rightB b key = true)
  (hcl : ∀ W : World, Below w.heap.size w W → Calls Try.prog 81 #[.pointer (some ⟨gn, 0, none⟩), .pointer (some ⟨gt, 0, none⟩)] W fun e w' => e = .returned (.tuple #[.string r, .int .i64 code]) ∧ Below W.heap.size W w') :
  Calls Try.prog 80 #[.agg (tr c b key), .func (.func 81) #[] #[.pointer (some ⟨gn, 0, none⟩), .pointer (some ⟨gt, 0, none⟩)]] w fun e w' => e = .returned (.tuple #[.string r, .int .i64 code]) ∧ Below w.heap.size w w' := by
 have G1 := Lib.hid (Blk.new w 49 (tr c b key))
 have G3 := Lib.hid ((Below.refl w.heap.size w).alloc (Nat.le_refl _) (.cells (tr c b key) 49))
 have HR : Hid (∀ W : World, Calls Try.prog 108 #[.agg (tr c b key)] W fun e w' => e = .returned (.bool true) ∧ Below W.heap.size W w') := Lib.hid fun W => hr ▸ right_any c b key W
 have HC := Lib.hid hcl
 clear hr hcl
 go_enter Try.func80, Try.ntmps80
 go_wp2_with (first | (refine wpList_load_row rfl 49 _ rfl w.heap.size rfl 49 _ (0, 0) _ G1.out Try.underlying49 rfl (size48 _ _ _) ?_))
 refine (HR.out _).mono ?_
 rintro e w1 ⟨rfl, hb1⟩
 have E1 := Lib.hid (G3.out.trans (hb1.mono (by simp)))
 clear hb1
 go_wp2_with fail
 refine (HC.out _ E1.out).mono ?_
 rintro e w2 ⟨rfl, hb2⟩
 have E2 := Lib.hid (Bel.step E1.out hb2)
 clear hb2
 go_wp2
 go_ret2
 exact ⟨rfl, E2.out⟩
set_option maxRecDepth 100000 in
set_option maxHeartbeats 4000000 in
theorem toldS_no (gn gt : Nat) (c b : Int) (key : ByteArray) (w : World) (hr : rightB b key = false) :
  Calls Try.prog 80 #[.agg (tr c b key), .func (.func 81) #[] #[.pointer (some ⟨gn, 0, none⟩), .pointer (some ⟨gt, 0, none⟩)]] w fun e w' => e = .returned (.tuple #[.string ⟨#[]⟩, .int .i64 1]) ∧ Below w.heap.size w w' := by
 have G1 := Lib.hid (Blk.new w 49 (tr c b key))
 have G3 := Lib.hid ((Below.refl w.heap.size w).alloc (Nat.le_refl _) (.cells (tr c b key) 49))
 have HR : Hid (∀ W : World, Calls Try.prog 108 #[.agg (tr c b key)] W fun e w' => e = .returned (.bool false) ∧ Below W.heap.size W w') := Lib.hid fun W => hr ▸ right_any c b key W
 clear hr
 go_enter Try.func80, Try.ntmps80
 go_wp2_with (first | (refine wpList_load_row rfl 49 _ rfl w.heap.size rfl 49 _ (0, 0) _ G1.out Try.underlying49 rfl (size48 _ _ _) ?_))
 refine (HR.out _).mono ?_
 rintro e w1 ⟨rfl, hb1⟩
 have E1 := Lib.hid (G3.out.trans (hb1.mono (by simp)))
 clear hb1
 go_wp2
 go_ret2
 exact ⟨rfl, E1.out⟩
set_option maxRecDepth 100000 in
set_option maxHeartbeats 4000000 in
theorem derive_walk (c b : Int) (key name : ByteArray) (r : ByteArray) (code : Int) (w : World)
  (ht : ∀ W : World, Blk W w.heap.size 49 (tr c b key) → Blk W (w.heap.size + 1) 9 #[.string name] → Calls Try.prog 80 #[.agg (tr c b key), .func (.func 81) #[] #[.pointer (some ⟨w.heap.size + 1, 0, none⟩), .pointer (some ⟨w.heap.size, 0, none⟩)]] W fun e w' => e = .returned (.tuple #[.string r, .int .i64 code]) ∧ Below W.heap.size W w') :
  Calls Try.prog 43 #[.agg (tr c b key), .string name] w fun e w' => e = .returned (.tuple #[.string r, .int .i64 code]) ∧ Below w.heap.size w w' := by
 have G1 := Lib.hid ((Blk.new w 49 (tr c b key)).alloc (.cells #[.string name] 9))
 have g2 := Blk.new (w.alloc (.cells (tr c b key) 49)) 9 #[.string name]
 rw [World.size_alloc] at g2
 have G2 := Lib.hid g2
 have G3 := Lib.hid (((Below.refl w.heap.size w).alloc (Nat.le_refl _) (.cells (tr c b key) 49)).alloc (by simp) (.cells #[.string name] 9))
 have HT := Lib.hid ht
 have hmf : ∀ (fn : Fn) (first cap : Array Value) (w : World), (Instr.makeFunc fn first cap).run Try.prog w = .ok (.func fn first cap) w := fun _ _ _ _ => rfl
 clear ht g2
 go_enter Try.func43, Try.ntmps43
 go_wp2_with (first | (refine wpList_load_row rfl 49 _ rfl w.heap.size rfl 49 _ (0, 0) _ G1.out Try.underlying49 rfl (size48 _ _ _) ?_))
 refine (HT.out _ G1.out G2.out).mono ?_
 rintro e w2 ⟨rfl, hb2⟩
 have E2 := Lib.hid (G3.out.trans (hb2.mono (by simp; omega)))
 clear hb2 hmf
 go_wp2
 go_ret2
 exact ⟨rfl, E2.out⟩
end Go.Proofs.Ytolbhliepkcihaa.Trust
namespace Go.Proofs.Ytolbhliepkcihaa
open Go.RowKit Go.Proofs.Ytolbhliepkcihaa.Mem Go.Proofs.Ytolbhliepkcihaa.TS Go.Proofs.Ytolbhliepkcihaa.Trust Go.Proofs.YtolbhliepkcihaaW.PrintWords Go.Proofs.YtolbhliepkcihaaW.PrintLast Go.Proofs.YtolbhliepkcihaaW.PrintMore
theorem right_size {b : Int} {key : ByteArray} (h : rightB b key = true) : key.size = 16 ∨ key.size = 32 := by
 unfold rightB at h
 rw [Bool.and_eq_true, Bool.or_eq_true, beq_iff_eq, beq_iff_eq] at h
 exact h.1
def trust_Derive.f (_c b : Int) (k name : ByteArray) : Option (ByteArray × Int) :=
 if rightB b k = true then (if name.size ≤ 4096 then some (deriveS k name, 0) else some (⟨#[]⟩, 4)) else some (⟨#[]⟩, 1)
theorem trust_Derive.calls (a0_0 : Int) (a0_1 : Int) (a0_2 : ByteArray) (a1 : ByteArray) (r1 : ByteArray) (r2 : Int) (w : World) (h : trust_Derive.f a0_0 a0_1 a0_2 a1 = some (r1, r2)) :
  Calls Try.prog 43 #[.agg #[.int .u64 a0_0, .int .u64 a0_1, .string a0_2], .string a1] w fun e w' => e = .returned (.tuple #[.string r1, .int .i64 r2]) ∧ Below w.heap.size w w' := by
 unfold trust_Derive.f at h
 cases hr : rightB a0_1 a0_2 with
 | true =>
  rw [hr, if_pos rfl] at h
  by_cases hn : a1.size ≤ 4096
  ·rw [if_pos hn] at h
   injection h with h; obtain ⟨rfl, rfl⟩ := h
   refine derive_walk a0_0 a0_1 a0_2 a1 _ 0 w fun W hT hN => toldS_yes _ _ a0_0 a0_1 a0_2 _ 0 W hr fun W' hb => derive1_yes _ _ a0_0 a0_1 a0_2 a1 ?_ hn W' (hN.below hb hN.lt) (hT.below hb hT.lt)
   have := right_size hr
   omega
  ·rw [if_neg hn] at h
   injection h with h; obtain ⟨rfl, rfl⟩ := h
   exact derive_walk a0_0 a0_1 a0_2 a1 _ 4 w fun W hT hN => toldS_yes _ _ a0_0 a0_1 a0_2 _ 4 W hr fun W' hb => derive1_no _ _ a1 (by omega) W' (hN.below hb hN.lt)
 | false =>
  rw [hr, if_neg (by decide)] at h
  injection h with h; obtain ⟨rfl, rfl⟩ := h
  exact derive_walk a0_0 a0_1 a0_2 a1 _ 1 w fun W _ _ => toldS_no _ _ a0_0 a0_1 a0_2 W hr
end Go.Proofs.Ytolbhliepkcihaa
end
