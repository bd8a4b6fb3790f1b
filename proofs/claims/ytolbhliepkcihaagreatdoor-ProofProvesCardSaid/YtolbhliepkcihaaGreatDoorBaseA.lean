/- Joined by a program of this session (wip/pack.py) for this claim: ShaSpec, Mem, QRx0, QRx1, QRx2, RorStill. -/
import Derived.Laws.BitsAllLaws
import Derived.Test.YtolbhliepkcihaaGreatDoorProg
import Derived.WalkKit
import Derived.Below
import Derived.Deep.Draws
import Derived.LoopTactic
import Derived.Laws.Tables
import Derived.Laws.Rows
import Derived.Deep.AppendLies
import Derived.Maps.AppendAt
import Derived.OwnWalk
import Derived.Laws.BytesArg
import Derived.Laws.MakeOwn
import Derived.Laws.OwnMore
import Derived.Deep.OwnRows
import Derived.Tactics
import Derived.Lib.ConvBytes
import Derived.Laws.Slices
import Derived.KernelRfl
import Derived.RowKit3
import Derived.Deep.LoopGhost
import Derived.Deep.QuietTactic
import Derived.BigQuiet
import Derived.WideLaws
import Derived.Deep.DeepCutAuto
import Derived.Deep.CutBlock
import Derived.Deep.RegionHeld3
import Derived.Lib.AppendStr
import Derived.ArgAppend
import Derived.Laws.IdiomCopy
import Derived.OrdersHeld
import Derived.Laws.BitsLemmas
import Derived.RowKit
import Derived.Test.YtolbhliepkcihaaGreatDoorPWa
section
namespace Go.Proofs.YtolbhliepkcihaaGreatDoor.Sha
def M : Nat := 4294967296
def rr (w n : Nat) : Nat := (w / 2 ^ n) ||| (w * 2 ^ (32 - n) % M)
def sig0 (w : Nat) : Nat := (rr w 7 ^^^ rr w 18) ^^^ w / 8
def sig1 (w : Nat) : Nat := (rr w 17 ^^^ rr w 19) ^^^ w / 1024
def big1 (e : Nat) : Nat := (rr e 6 ^^^ rr e 11) ^^^ rr e 25
def big0 (a : Nat) : Nat := (rr a 2 ^^^ rr a 13) ^^^ rr a 22
def ch (e f g : Nat) : Nat := (e &&& f) ^^^ ((4294967295 - e) &&& g)
def maj (a b c : Nat) : Nat := ((a &&& b) ^^^ (a &&& c)) ^^^ (b &&& c)
def nextW (w : List Nat) (t : Nat) : Nat := (sig1 (w.getD (t - 2) 0) + w.getD (t - 7) 0 + sig0 (w.getD (t - 15) 0) + w.getD (t - 16) 0) % M
def moreW : Nat → List Nat → List Nat
 | 0, w => w
 | n + 1, w => moreW n (w ++ [nextW w w.length])
structure St where
 a : Nat
 b : Nat
 c : Nat
 d : Nat
 e : Nat
 f : Nat
 g : Nat
 h : Nat
def roundS (s : St) (k w : Nat) : St :=
 ⟨((s.h + big1 s.e + ch s.e s.f s.g + k + w) % M + (big0 s.a + maj s.a s.b s.c) % M) % M, s.a, s.b, s.c, (s.d + (s.h + big1 s.e + ch s.e s.f s.g + k + w) % M) % M, s.e, s.f, s.g⟩
def start : St := ⟨0x6a09e667, 0xbb67ae85, 0x3c6ef372, 0xa54ff53a, 0x510e527f, 0x9b05688c, 0x1f83d9ab, 0x5be0cd19⟩
def keyL : List Nat := [
 0x428a2f98, 0x71374491, 0xb5c0fbcf, 0xe9b5dba5, 0x3956c25b, 0x59f111f1, 0x923f82a4, 0xab1c5ed5,
 0xd807aa98, 0x12835b01, 0x243185be, 0x550c7dc3, 0x72be5d74, 0x80deb1fe, 0x9bdc06a7, 0xc19bf174,
 0xe49b69c1, 0xefbe4786, 0x0fc19dc6, 0x240ca1cc, 0x2de92c6f, 0x4a7484aa, 0x5cb0a9dc, 0x76f988da,
 0x983e5152, 0xa831c66d, 0xb00327c8, 0xbf597fc7, 0xc6e00bf3, 0xd5a79147, 0x06ca6351, 0x14292967,
 0x27b70a85, 0x2e1b2138, 0x4d2c6dfc, 0x53380d13, 0x650a7354, 0x766a0abb, 0x81c2c92e, 0x92722c85,
 0xa2bfe8a1, 0xa81a664b, 0xc24b8b70, 0xc76c51a3, 0xd192e819, 0xd6990624, 0xf40e3585, 0x106aa070,
 0x19a4c116, 0x1e376c08, 0x2748774c, 0x34b0bcb5, 0x391c0cb3, 0x4ed8aa4a, 0x5b9cca4f, 0x682e6ff3,
 0x748f82ee, 0x78a5636f, 0x84c87814, 0x8cc70208, 0x90befffa, 0xa4506ceb, 0xbef9a3f7, 0xc67178f2]
def keyN (t : Nat) : Nat := keyL.getD t 0
def rounds (W : Nat → Nat) (s : St) : Nat → St
 | 0 => s
 | t + 1 => roundS (rounds W s t) (keyN t) (W t)
def addS (s t : St) : St := ⟨(s.a + t.a) % M, (s.b + t.b) % M, (s.c + t.c) % M, (s.d + t.d) % M, (s.e + t.e) % M, (s.f + t.f) % M, (s.g + t.g) % M, (s.h + t.h) % M⟩
def bn (s : ByteArray) (i : Nat) : Nat := if h : i < s.size then (s[i]'h).toNat else 0
def word (s : ByteArray) (t : Nat) : Nat := bn s (4 * t) * 16777216 + bn s (4 * t + 1) * 65536 + bn s (4 * t + 2) * 256 + bn s (4 * t + 3)
def words (s : ByteArray) : List Nat := moreW 48 ((List.range 16).map (word s))
def wordN (s : ByteArray) (t : Nat) : Nat := (words s).getD t 0
def mixS (s : St) (block : ByteArray) : St := addS (rounds (wordN block) s 64) s
def goS (p : ByteArray) : Nat → St
 | 0 => start
 | i + 1 => mixS (goS p i) (p.extract (64 * i) (64 * i + 64))
def St.list (s : St) : List Nat := [s.a, s.b, s.c, s.d, s.e, s.f, s.g, s.h]
def high4 (n : Nat) : List Nat := [n / 16777216 % 256, n / 65536 % 256, n / 256 % 256, n % 256]
def high8 (n : Nat) : List Nat := [n / 72057594037927936 % 256, n / 281474976710656 % 256, n / 1099511627776 % 256, n / 4294967296 % 256, n / 16777216 % 256, n / 65536 % 256, n / 256 % 256, n % 256]
def ofNats (l : List Nat) : ByteArray := ⟨(l.map UInt8.ofNat).toArray⟩
def zerosN (n : Nat) : Nat := (64 - (n + 9) % 64) % 64
def padS (s : ByteArray) : ByteArray := ((s ++ ⟨#[128]⟩) ++ ofNats (List.replicate (zerosN s.size) 0)) ++ ofNats (high8 (s.size * 8 % 18446744073709551616))
def outL (s : St) : List Nat := s.list.flatMap high4
def sumS (s : ByteArray) : ByteArray := ofNats (outL (goS (padS s) ((padS s).size / 64)))
end Go.Proofs.YtolbhliepkcihaaGreatDoor.Sha
end
section
namespace Go.Proofs.YtolbhliepkcihaaGreatDoor.Mem
open Go.RowKit
def Blk (w : World) (g : Nat) (t : TypeId) (cs : Array Value) : Prop := w.heap[g]? = some (.cells cs t (0, 0))
section
variable {w w' : World} {g : Nat} {t : TypeId} {cs : Array Value}
theorem Blk.cell (h : Blk w g t cs) (i : Nat) : w.cell? ⟨g, i, none⟩ = cs[i]? := by unfold Blk at h; simp [World.cell?, h]
theorem Blk.frozen (h : Blk w g t cs) (i : Nat) : w.frozen? ⟨g, i, none⟩ = false := by unfold Blk at h; simp [World.frozen?, h]
theorem Blk.set_ (h : Blk w g t cs) (i : Nat) (u : Value) : Blk (w.setCell ⟨g, i, none⟩ u) g t (cs.setIfInBounds i u) := by
 unfold Blk at h ⊢; simp [World.setCell, Array.getElem?_modify, h]
theorem Blk.drewN (h : Blk w g t cs) (n : Nat) : Blk (w.drewN n) g t cs := h
theorem Blk.drew (h : Blk w g t cs) : Blk w.drew g t cs := h
theorem Blk.lt (h : Blk w g t cs) : g < w.heap.size := by
 rcases Nat.lt_or_ge g w.heap.size with hlt | hge
 ·exact hlt
 ·unfold Blk at h; rw [Array.getElem?_eq_none hge] at h; cases h
theorem Blk.new (w : World) (t : TypeId) (cs : Array Value) : Blk (w.alloc (.cells cs t)) w.heap.size t cs := heap_alloc_new w _
theorem Blk.alloc (h : Blk w g t cs) (o : Obj) : Blk (w.alloc o) g t cs := (Below.heap_alloc w o g h.lt).trans h
theorem Blk.far (h : Blk w g t cs) {p : Addr} (hp : g ≠ p.block) (u : Value) : Blk (w.setCell p u) g t cs := (Below.heap_setCell w p u g hp).trans h
theorem Blk.below {B : Nat} (h : Blk w g t cs) (hb : Below B w w') (hg : g < B) : Blk w' g t cs := (hb.block g hg).trans h
theorem Blk.row (h : Blk w g t cs) (cs' : Array Value) : Blk (w.setRow g cs') g t cs' := by
 unfold Blk at h ⊢; simp [World.setRow, Array.getElem?_modify, h]
theorem Blk.row_far (h : Blk w g t cs) {g' : Nat} (hp : g ≠ g') (cs' : Array Value) : Blk (w.setRow g' cs') g t cs := by
 unfold Blk at h ⊢; simp [World.setRow, Array.getElem?_modify, Ne.symm hp, h]
end
theorem below_row {B : Nat} {w w' : World} (h : Below B w w') {g : Nat} (hg : B ≤ g) (cs : Array Value) : Below B w (w'.setRow g cs) :=
 ⟨h.os, h.tape, h.output, by simpa [World.setRow] using h.size, fun i hi => by
  rw [← h.block i hi]
  simp [World.setRow, Array.getElem?_modify, show g ≠ i by omega]⟩
def ar (n : Nat) (f : Nat → Value) : Array Value := ((List.range n).map f).toArray
theorem ar_size (n : Nat) (f : Nat → Value) : (ar n f).size = n := by simp [ar]
theorem ar_at {n i : Nat} (f : Nat → Value) (hi : i < n) : (ar n f)[i]? = some (f i) := by simp [ar, List.getElem?_range hi]
theorem ar_out {n i : Nat} (f : Nat → Value) (hi : n ≤ i) : (ar n f)[i]? = none := by simp [ar]; omega
theorem ar_ext {n : Nat} {f g : Nat → Value} (h : ∀ i, i < n → f i = g i) : ar n f = ar n g := by
 unfold ar
 congr 1
 exact List.map_congr_left fun i hi => h i (List.mem_range.1 hi)
theorem ar_set {n k : Nat} (f : Nat → Value) (v : Value) (hk : k < n) : (ar n f).setIfInBounds k v = ar n (fun i => if i = k then v else f i) := by
 apply Array.ext_getElem?; intro i; rw [Array.getElem?_setIfInBounds]
 by_cases hi : i < n
 rotate_left
 ·rw [ar_out _ (by omega), ar_out _ (by omega), if_neg (by omega)]
 rw [ar_at _ hi, ar_at _ hi]
 by_cases h : k = i
 ·subst h; rw [if_pos rfl, if_pos rfl, if_pos (by rw [ar_size]; exact hi)]
 ·rw [if_neg h, if_neg (Ne.symm h)]
def ka (k : IntKind) (n : Nat) (f : Nat → Int) : Array Value := ar n fun i => .int k (f i)
theorem ka_size (k : IntKind) (n : Nat) (f : Nat → Int) : (ka k n f).size = n := ar_size ..
theorem ka_at {k : IntKind} {n i : Nat} (f : Nat → Int) (hi : i < n) : (ka k n f)[i]? = some (.int k (f i)) := ar_at _ hi
theorem ka_ext {k : IntKind} {n : Nat} {f g : Nat → Int} (h : ∀ i, i < n → f i = g i) : ka k n f = ka k n g := ar_ext fun i hi => by rw [h i hi]
theorem ka_set {q : IntKind} {n k : Nat} (f : Nat → Int) (v : Int) (hk : k < n) : (ka q n f).setIfInBounds k (.int q v) = ka q n (fun i => if i = k then v else f i) := by
 unfold ka; rw [ar_set _ _ hk]
 exact ar_ext fun i _ => by dsimp only; split <;> rfl
theorem ka_one (k : IntKind) (n : Nat) (f : Nat → Int) : (ka k n f).all (·.oneCell') = true := by
 rw [Array.all_eq_true_iff_forall_mem]; intro v hv; simp only [ka, ar, List.mem_toArray, List.mem_map] at hv; obtain ⟨i, _, rfl⟩ := hv; rfl
theorem Bel.step {w w1 w2 : World} (h : Below w.heap.size w w1) (h' : Below w1.heap.size w1 w2) : Below w.heap.size w w2 := h.trans (h'.mono h.size)
theorem below_drew {B : Nat} {w W : World} (h : Below B w W) : Below B w W.drew := ⟨h.os, h.tape, h.output, h.size, h.block⟩
theorem below_drewN {B : Nat} {w W : World} (h : Below B w W) (n : Nat) : Below B w (W.drewN n) := ⟨h.os, h.tape, h.output, h.size, h.block⟩
end Go.Proofs.YtolbhliepkcihaaGreatDoor.Mem
end
section
namespace Go.Proofs.YtolbhliepkcihaaGreatDoor.QR
open Go.RowKit YtolbhliepkcihaaGreatDoorW.PrintWords YtolbhliepkcihaaGreatDoorW.PrintLast YtolbhliepkcihaaGreatDoorW.PrintMore
attribute [local go_sem] max2_int min2_int max_two min_two max_three min_three max_four min_four   -- for this text's walks alone
set_option linter.unusedVariables false
set_option linter.unusedSimpArgs false
def errW : Option Int → Value
 | none => .nilIface
 | some c => .iface 0 (.int .i64 c)
theorem errW_none : errW none = .nilIface := rfl
theorem errW_some (c : Int) : errW (some c) = .iface 0 (.int .i64 c) := rfl
theorem info89 : (Tryz.prog.info? 89).map (fun i => (i.zero, i.size, i.bytes)) = some (some (.int .u32 0), 1, 4) := by kernel_rfl
end Go.Proofs.YtolbhliepkcihaaGreatDoor.QR
end
section
namespace Go.Proofs.YtolbhliepkcihaaGreatDoor.QR
open Go.RowKit YtolbhliepkcihaaGreatDoorW.PrintWords YtolbhliepkcihaaGreatDoorW.PrintLast YtolbhliepkcihaaGreatDoorW.PrintMore
attribute [local go_sem] max2_int min2_int max_two min_two max_three min_three max_four min_four   -- for this text's walks alone
set_option linter.unusedVariables false
set_option linter.unusedSimpArgs false
/-! ### bits_RotateLeft32: function 110 -/
def bits_RotateLeft32.f (a0 : Int) (a1 : Int) : Option (Int) := if 0 ≤ (Go.bits .and .u64 (IntKind.u64.wrap (a1)) 31) then (if 0 ≤ (IntKind.u64.wrap (32 - (Go.bits .and .u64 (IntKind.u64.wrap (a1)) 31))) then (some (Go.bits .or .u32 (shl .u32 a0 (Go.bits .and .u64 (IntKind.u64.wrap (a1)) 31)) (shr .u32 a0 (IntKind.u64.wrap (32 - (Go.bits .and .u64 (IntKind.u64.wrap (a1)) 31)))))) else (none)) else (none)
/-! ### sha_ror: function 101 -/
def sha_ror.f (a0 : Int) (a1 : Int) : Option (Int) := (bits_RotateLeft32.f a0 (wrap64 (-a1))).bind fun t101 => (some t101)
/-! ### saltusref03_Start: function 60 -/
def saltusref03_Start.f  : Option (List Int) := some (([1779033703, 3144134277, 1013904242, 2773480762, 1359893119, 2600822924, 528734635, 1541459225] : List Int))
set_option maxHeartbeats 8000000 in
set_option maxRecDepth 100000 in
theorem saltusref03_Start.calls  (r : List Int) (w : World) (h : saltusref03_Start.f  = some r) :
  Calls Tryz.prog 60 #[] w fun e w' => ∃ v0_ : Value, e = .returned (v0_) ∧ Kd.R (Kd.int .u32) 89 w' w.heap.size (fun _ => True) v0_ r ∧ Below w.heap.size w w' := by
 have HB := qf (Below.refl w.heap.size w); have H : (some (([1779033703, 3144134277, 1013904242, 2773480762, 1359893119, 2600822924, 528734635, 1541459225] : List Int))) = some r := h; clear h
 obtain ⟨y102, hy102⟩ : ∃ y_ : List Int, y_ = (([1779033703, 3144134277, 1013904242, 2773480762, 1359893119, 2600822924, 528734635, 1541459225] : List Int)) := ⟨_, rfl⟩
 replace H : (some y102) = some r := by first | (rw [hy102]; with_reducible exact H) | (have H2_ := (qv _ _).symm.trans H; rw [hy102]; with_reducible exact H2_) | (have H2_ := (qv _ _).symm.trans H; with_reducible exact H2_) | with_reducible exact H | (rw [hy102]; exact H) | exact H
 have Ny102 := qf hy102; clear hy102; obtain rfl := Option.some.inj H
 go_enter Tryz.func60, Tryz.ntmps60
 go_wp2_with (first | ((with_reducible refine gate_dst (N := 1) rfl ?_); refine Kd.R_lit (Kd.int .u32) _ 89 ?hg (N := 1) ?hd (xs := ([1779033703, 3144134277, 1013904242, 2773480762, 1359893119, 2600822924, 528734635, 1541459225] : List Int)) (inner := [.int .u32 1779033703, .int .u32 3144134277, .int .u32 1013904242, .int .u32 2773480762, .int .u32 1359893119, .int .u32 2600822924, .int .u32 528734635, .int .u32 1541459225]) (ok := fun _ => True) (okp := fun _ => True) ?hr ?hp (fun _ hk => hk) trivial (Below.refl _ _) (Nat.le_refl _) (by simp) ?_; (case hd => rfl); (case hg => rfl); (case hr => first | (go_simp; done) | (go_simp; rfl)); (case hp => exact (Reps.one (show Kd.M (Kd.int .u32) _ _ _ 1779033703 [.int .u32 1779033703] from rfl) (Reps.one (show Kd.M (Kd.int .u32) _ _ _ 3144134277 [.int .u32 3144134277] from rfl) (Reps.one (show Kd.M (Kd.int .u32) _ _ _ 1013904242 [.int .u32 1013904242] from rfl) (Reps.one (show Kd.M (Kd.int .u32) _ _ _ 2773480762 [.int .u32 2773480762] from rfl) (Reps.one (show Kd.M (Kd.int .u32) _ _ _ 1359893119 [.int .u32 1359893119] from rfl) (Reps.one (show Kd.M (Kd.int .u32) _ _ _ 2600822924 [.int .u32 2600822924] from rfl) (Reps.one (show Kd.M (Kd.int .u32) _ _ _ 528734635 [.int .u32 528734635] from rfl) (Reps.one (show Kd.M (Kd.int .u32) _ _ _ 1541459225 [.int .u32 1541459225] from rfl) (Reps.none _ _)))))))))); intro v103 w1 ho2 hb hg_ hnew_; clear hg_ hnew_; (first | rw [← Ny102.out] at ho2 | (simp only [Int.reduceToNat] at ho2; rw [← Ny102.out] at ho2)); have n0_ := qf (Kd.R_lower ho2 (below_size (by repeat (first | (with_reducible first | exact HB.out | apply qa | apply qb | apply qc) | exact HB.out)))); have n1_ := qf (below_step (by repeat (first | (with_reducible first | exact HB.out | apply qa | apply qb | apply qc) | exact HB.out)) hb); clear HB; have HO104 := n0_; have HB := n1_; clear n0_ n1_ hb ho2))
 go_ret; exact ⟨_, by first | rfl | (simp [errW_none, errW_some] <;> rfl) | (simp [*, errW_none, errW_some] <;> rfl), by (with_reducible repeat (first | apply Kd.R_alloc | apply Kd.R_drewN | apply Kd.R_drew)); exact HO104.out, by repeat (first | (with_reducible first | exact HB.out | apply qa | apply qb | apply qc) | exact HB.out)⟩
/-! ### saltusref03_high: function 63 -/
def saltusref03_high.l0 : Nat → Int → Int → ByteArray → Int → Option (ByteArray)
 | 0, _, _, _, _ => none
 | k + 1, x0, x1, x5, x6 => if x6 < x1 then ((some (([(Int.tmod x0 256) % 256] : List Int) : List Int)).bind fun y105 => (if (strOfNums y105).size + x5.size ≤ 9223372036854775807 then (saltusref03_high.l0 k (IntKind.u64.wrap (Int.tdiv x0 256)) x1 ((strOfNums y105) ++ x5) (wrap64 (x6 + 1))) else (none))) else (some x5)
def saltusref03_high.f (k : Nat) (a0 : Int) (a1 : Int) : Option (ByteArray) := saltusref03_high.l0 k a0 a1 (⟨#[]⟩ : ByteArray) 0
set_option maxHeartbeats 8000000 in
set_option maxRecDepth 100000 in
theorem saltusref03_high.calls (k : Nat) (a0 : Int) (a1 : Int) (r : ByteArray) (w : World) (h : saltusref03_high.f k a0 a1 = some r) :
  Calls Tryz.prog 63 #[.int .u64 a0, .int .i64 a1] w fun e w' => e = .returned (.string r) ∧ Below w.heap.size w w' := by
 have HB := qf (Below.refl w.heap.size w); have H : (saltusref03_high.l0 k a0 a1 (⟨#[]⟩ : ByteArray) 0) = some r := h; clear h; have H' := qf H; clear H
 go_enter Tryz.func63, Tryz.ntmps63
 go_wp2
 go_loopg [0, 5, 6] k (fun kq v0 v5 v6 w' => ∃ (x0_1 : Int) (x5_1 : ByteArray) (x6_1 : Int), v0 = .int .u64 x0_1 ∧ v5 = .string x5_1 ∧ v6 = .int .i64 x6_1 ∧ Aside0 (saltusref03_high.l0 kq x0_1 a1 x5_1 x6_1 = some r) ∧ Aside0 (kq ≤ k) ∧ Aside0 (Below w.heap.size w w'))
 case atStart => exact ⟨(a0), ((⟨#[]⟩ : ByteArray)), (0), (by first | rfl | (simp; done) | (simp [*]; done)), (by first | rfl | (simp; done) | (simp [*]; done)), (by first | rfl | (simp; done) | (simp [*]; done)), H', ⟨Nat.le_refl _⟩, ⟨by repeat (first | (with_reducible first | exact HB.out | apply qa | apply qb | apply qc) | exact HB.out)⟩⟩
 case round =>
  clear H'; (try clear p2); obtain ⟨x0_1, x5_1, x6_1, rfl, rfl, rfl, HA, HK1, HB⟩ := hrel
  cases gk with
  | zero => exact absurd HA.out (by simp [saltusref03_high.l0])
  | succ k1 =>
   have H := HA.out; clear HA; simp only [saltusref03_high.l0] at H
   by_cases c3 : x6_1 < a1
   ·rw [if_pos c3] at H; have c3b0 := qj c3; clear c3
    obtain ⟨y105, hy105⟩ : ∃ y_ : List Int, y_ = (([(Int.tmod x0_1 256) % 256] : List Int)) := ⟨_, rfl⟩
    replace H : (if (strOfNums y105).size + x5_1.size ≤ 9223372036854775807 then (saltusref03_high.l0 k1 (IntKind.u64.wrap (Int.tdiv x0_1 256)) a1 ((strOfNums y105) ++ x5_1) (wrap64 (x6_1 + 1))) else (none)) = some r := by first | (rw [hy105]; with_reducible exact H) | (have H2_ := (qv _ _).symm.trans H; rw [hy105]; with_reducible exact H2_) | (have H2_ := (qv _ _).symm.trans H; with_reducible exact H2_) | with_reducible exact H | (rw [hy105]; exact H) | exact H
    have Ny105 := qf hy105; clear hy105
    by_cases c4 : (strOfNums y105).size + x5_1.size ≤ 9223372036854775807
    ·rw [if_pos c4] at H; have c4b0 := eq_true c4; have c4b1 := qj c4
     try have c4b2 : (9223372036854775807 < (strOfNums y105).size + x5_1.size) = False := eq_false (Nat.not_lt.2 c4)
     have H' := qf H; clear H
     go_wp2_with (first | ((with_reducible refine gate_dst (N := 15) rfl ?_); refine Kd.R_lit (Kd.int .u8) _ 5 ?hg (N := 15) ?hd (xs := ([(Int.tmod x0_1 256) % 256] : List Int)) (inner := [.int .u8 ((Int.tmod x0_1 256) % 256)]) (ok := fun _ => True) (okp := fun _ => True) ?hr ?hp (fun _ hk => hk) trivial (Below.refl _ _) (Nat.le_refl _) (by simp) ?_; (case hd => rfl); (case hg => rfl); (case hr => first | (go_simp; done) | (go_simp; rfl)); (case hp => exact (Reps.one (show Kd.M (Kd.int .u8) _ _ _ ((Int.tmod x0_1 256) % 256) [.int .u8 ((Int.tmod x0_1 256) % 256)] from rfl) (Reps.none _ _))); intro v106 w5 ho6 hb hg_ hnew_; clear hg_ hnew_; (first | rw [← Ny105.out] at ho6 | (simp only [Int.reduceToNat] at ho6; rw [← Ny105.out] at ho6)); have n0_ := qf (Kd.R_lower ho6 (below_size (by repeat (first | (with_reducible first | exact HB.out | apply qa | apply qb | apply qc) | exact HB.out)))); have n1_ := qf (below_step (by repeat (first | (with_reducible first | exact HB.out | apply qa | apply qb | apply qc) | exact HB.out)) hb); clear HB; have HO107 := n0_; have HB := n1_; clear n0_ n1_ hb ho6; have hcv7 := own_string (P := Tryz.prog) Tryz.underlying74 Tryz.underlying5 Tryz.underlying9 (Kd.own_of_R HO107.out)))
     go_roundg k1
     case measure => have := HK1.out; omega
     case rel => exact ⟨(IntKind.u64.wrap (Int.tdiv x0_1 256)), ((strOfNums y105) ++ x5_1), (wrap64 (x6_1 + 1)), (by first | rfl | (simp; done) | (simp [*]; done)), (by first | rfl | (simp; done) | (simp [*]; done)), (by first | rfl | (simp; done) | (simp [*]; done)), H', ⟨by have := HK1.out; omega⟩, ⟨by repeat (first | (with_reducible first | exact HB.out | apply qa | apply qb | apply qc) | exact HB.out)⟩⟩
    ·rw [if_neg c4] at H; exact absurd H (by simp)
   ·rw [if_neg c3] at H; have c3b0 := decide_eq_false c3; clear c3; obtain rfl := Option.some.inj H; go_wp2; go_ret; exact ⟨by first | rfl | (simp [errW_none, errW_some] <;> rfl) | (simp [*, errW_none, errW_some] <;> rfl), by repeat (first | (with_reducible first | exact HB.out | apply qa | apply qb | apply qc) | exact HB.out)⟩
/-! ### saltusref03_Pad: function 61 -/
def saltusref03_Pad.l0 : Nat → ByteArray → ByteArray → Option (ByteArray)
 | 0, _, _ => none
 | k + 1, x0, x3 => if ((x3.size : Int) % 64) = 56 then ((saltusref03_high.f k (IntKind.u64.wrap (8 * (IntKind.u64.wrap ((x0.size : Int))))) 8).bind fun t111 => (if x3.size + t111.size ≤ 9223372036854775807 then (some (x3 ++ t111)) else (none))) else ((some (([0] : List Int) : List Int)).bind fun y112 => (if x3.size + (strOfNums y112).size ≤ 9223372036854775807 then (saltusref03_Pad.l0 k x0 (x3 ++ (strOfNums y112))) else (none)))
def saltusref03_Pad.f (k : Nat) (a0 : ByteArray) : Option (ByteArray) := (some (([128] : List Int) : List Int)).bind fun y108 => (if a0.size + (strOfNums y108).size ≤ 9223372036854775807 then (saltusref03_Pad.l0 k a0 (a0 ++ (strOfNums y108))) else (none))
set_option maxHeartbeats 8000000 in
set_option maxRecDepth 100000 in
theorem saltusref03_Pad.calls (k : Nat) (a0 : ByteArray) (r : ByteArray) (w : World) (h : saltusref03_Pad.f k a0 = some r) :
  Calls Tryz.prog 61 #[.string a0] w fun e w' => e = .returned (.string r) ∧ Below w.heap.size w w' := by
 have HB := qf (Below.refl w.heap.size w); have H : ((some (([128] : List Int) : List Int)).bind fun y108 => (if a0.size + (strOfNums y108).size ≤ 9223372036854775807 then (saltusref03_Pad.l0 k a0 (a0 ++ (strOfNums y108))) else (none))) = some r := h; clear h
 obtain ⟨y108, hy108⟩ : ∃ y_ : List Int, y_ = (([128] : List Int)) := ⟨_, rfl⟩
 replace H : (if a0.size + (strOfNums y108).size ≤ 9223372036854775807 then (saltusref03_Pad.l0 k a0 (a0 ++ (strOfNums y108))) else (none)) = some r := by first | (rw [hy108]; with_reducible exact H) | (have H2_ := (qv _ _).symm.trans H; rw [hy108]; with_reducible exact H2_) | (have H2_ := (qv _ _).symm.trans H; with_reducible exact H2_) | with_reducible exact H | (rw [hy108]; exact H) | exact H
 have Ny108 := qf hy108; clear hy108
 by_cases c2 : a0.size + (strOfNums y108).size ≤ 9223372036854775807
 ·rw [if_pos c2] at H; have c2b0 := eq_true c2; have c2b1 := qj c2
  try have c2b2 : (9223372036854775807 < a0.size + (strOfNums y108).size) = False := eq_false (Nat.not_lt.2 c2)
  have H' := qf H; clear H
  go_enter Tryz.func61, Tryz.ntmps61
  go_wp2_with (first | ((with_reducible refine gate_dst (N := 5) rfl ?_); refine Kd.R_lit (Kd.int .u8) _ 5 ?hg (N := 5) ?hd (xs := ([128] : List Int)) (inner := [.int .u8 128]) (ok := fun _ => True) (okp := fun _ => True) ?hr ?hp (fun _ hk => hk) trivial (Below.refl _ _) (Nat.le_refl _) (by simp) ?_; (case hd => rfl); (case hg => rfl); (case hr => first | (go_simp; done) | (go_simp; rfl)); (case hp => exact (Reps.one (show Kd.M (Kd.int .u8) _ _ _ 128 [.int .u8 128] from rfl) (Reps.none _ _))); intro v109 w3 ho4 hb hg_ hnew_; clear hg_ hnew_; (first | rw [← Ny108.out] at ho4 | (simp only [Int.reduceToNat] at ho4; rw [← Ny108.out] at ho4)); have n0_ := qf (Kd.R_lower ho4 (below_size (by repeat (first | (with_reducible first | exact HB.out | apply qa | apply qb | apply qc) | exact HB.out)))); have n1_ := qf (below_step (by repeat (first | (with_reducible first | exact HB.out | apply qa | apply qb | apply qc) | exact HB.out)) hb); clear HB; have HO110 := n0_; have HB := n1_; clear n0_ n1_ hb ho4; have hcv5 := own_string (P := Tryz.prog) Tryz.underlying74 Tryz.underlying5 Tryz.underlying9 (Kd.own_of_R HO110.out)))
  go_loopg [3] k (fun kq v3 w' => ∃ (x3_1 : ByteArray), v3 = .string x3_1 ∧ Aside0 (saltusref03_Pad.l0 kq a0 x3_1 = some r) ∧ Aside0 (kq ≤ k) ∧ Aside0 (Below w.heap.size w w'))
  case atStart => exact ⟨(a0 ++ (strOfNums y108)), (by first | rfl | (simp; done) | (simp [*]; done)), H', ⟨Nat.le_refl _⟩, ⟨by repeat (first | (with_reducible first | exact HB.out | apply qa | apply qb | apply qc) | exact HB.out)⟩⟩
  case round =>
   clear H'; (try clear c2); (try clear c2b0); (try clear c2b1); (try clear c2b2); (try clear p2); (try clear hcv5); obtain ⟨x3_1, rfl, HA, HK1, HB⟩ := hrel
   cases gk with
   | zero => exact absurd HA.out (by simp [saltusref03_Pad.l0])
   | succ k1 =>
    have H := HA.out; clear HA; simp only [saltusref03_Pad.l0] at H
    by_cases c6 : ((x3_1.size : Int) % 64) = 56
    ·rw [if_pos c6] at H; have c6b0 : (((x3_1.size : Int) % 64) == 56) = true := beq_iff_eq.mpr c6; have c6b1 : (((x3_1.size : Int) % 64) != 56) = false := bne_eq_false_iff_eq.mpr c6; clear c6; replace H := qi H; obtain ⟨t111, A70, H⟩ := H
     (try dsimp only at H)
     have A7 := qf A70; clear A70
     by_cases c8 : x3_1.size + t111.size ≤ 9223372036854775807
     ·rw [if_pos c8] at H; have c8b0 := eq_true c8; have c8b1 := qj c8
      try have c8b2 : (9223372036854775807 < x3_1.size + t111.size) = False := eq_false (Nat.not_lt.2 c8)
      obtain rfl := Option.some.inj H
      go_wp2_with (first | ((with_reducible refine gate_callee (f := 63) rfl ?_); refine goesL_ (some 21) rfl rfl Tryz.func63 (by kernel_rfl) rfl #[.int .u64 (IntKind.u64.wrap (8 * (IntKind.u64.wrap ((a0.size : Int))))), .int .i64 8] rfl (by (try simp only [List.map_toArray, List.map_cons, List.map_nil]); first | done | rfl | (simp only [List.length_drop, qw]; rfl)) ?_; (with_reducible refine (saltusref03_high.calls k1 (IntKind.u64.wrap (8 * (IntKind.u64.wrap ((a0.size : Int))))) 8 t111 _ A7.out).mono ?_); rintro e w9 ⟨rfl, hb⟩; refine ⟨_, rfl, ?_⟩; have n0_ := qf (below_step (by repeat (first | (with_reducible first | exact HB.out | apply qa | apply qb | apply qc) | exact HB.out)) hb); clear HB; have HB := n0_; clear n0_; (try clear hb); (try clear hi)))
      go_ret; exact ⟨by first | rfl | (simp [errW_none, errW_some] <;> rfl) | (simp [*, errW_none, errW_some] <;> rfl), by repeat (first | (with_reducible first | exact HB.out | apply qa | apply qb | apply qc) | exact HB.out)⟩
     ·rw [if_neg c8] at H; exact absurd H (by simp)
    ·rw [if_neg c6] at H; have c6b0 : (((x3_1.size : Int) % 64) == 56) = false := beq_eq_false_iff_ne.mpr c6; have c6b1 : (((x3_1.size : Int) % 64) != 56) = true := bne_iff_ne.mpr c6
     obtain ⟨y112, hy112⟩ : ∃ y_ : List Int, y_ = (([0] : List Int)) := ⟨_, rfl⟩
     replace H : (if x3_1.size + (strOfNums y112).size ≤ 9223372036854775807 then (saltusref03_Pad.l0 k1 a0 (x3_1 ++ (strOfNums y112))) else (none)) = some r := by first | (rw [hy112]; with_reducible exact H) | (have H2_ := (qv _ _).symm.trans H; rw [hy112]; with_reducible exact H2_) | (have H2_ := (qv _ _).symm.trans H; with_reducible exact H2_) | with_reducible exact H | (rw [hy112]; exact H) | exact H
     have Ny112 := qf hy112; clear hy112
     by_cases c10 : x3_1.size + (strOfNums y112).size ≤ 9223372036854775807
     ·rw [if_pos c10] at H; have c10b0 := eq_true c10; have c10b1 := qj c10
      try have c10b2 : (9223372036854775807 < x3_1.size + (strOfNums y112).size) = False := eq_false (Nat.not_lt.2 c10)
      have H' := qf H; clear H
      go_wp2_with (first | ((with_reducible refine gate_dst (N := 13) rfl ?_); refine Kd.R_lit (Kd.int .u8) _ 5 ?hg (N := 13) ?hd (xs := ([0] : List Int)) (inner := [.int .u8 0]) (ok := fun _ => True) (okp := fun _ => True) ?hr ?hp (fun _ hk => hk) trivial (Below.refl _ _) (Nat.le_refl _) (by simp) ?_; (case hd => rfl); (case hg => rfl); (case hr => first | (go_simp; done) | (go_simp; rfl)); (case hp => exact (Reps.one (show Kd.M (Kd.int .u8) _ _ _ 0 [.int .u8 0] from rfl) (Reps.none _ _))); intro v113 w11 ho12 hb hg_ hnew_; clear hg_ hnew_; (first | rw [← Ny112.out] at ho12 | (simp only [Int.reduceToNat] at ho12; rw [← Ny112.out] at ho12)); have n0_ := qf (Kd.R_lower ho12 (below_size (by repeat (first | (with_reducible first | exact HB.out | apply qa | apply qb | apply qc) | exact HB.out)))); have n1_ := qf (below_step (by repeat (first | (with_reducible first | exact HB.out | apply qa | apply qb | apply qc) | exact HB.out)) hb); clear HB; have HO114 := n0_; have HB := n1_; clear n0_ n1_ hb ho12; have hcv13 := own_string (P := Tryz.prog) Tryz.underlying74 Tryz.underlying5 Tryz.underlying9 (Kd.own_of_R HO114.out)))
      go_roundg k1
      case measure => have := HK1.out; omega
      case rel => exact ⟨(x3_1 ++ (strOfNums y112)), (by first | rfl | (simp; done) | (simp [*]; done)), H', ⟨by have := HK1.out; omega⟩, ⟨by repeat (first | (with_reducible first | exact HB.out | apply qa | apply qb | apply qc) | exact HB.out)⟩⟩
     ·rw [if_neg c10] at H; exact absurd H (by simp)
 ·rw [if_neg c2] at H; exact absurd H (by simp)
/-! ### saltusref03_Keys: function 83 -/
def saltusref03_Keys.f  : Option (List Int) := some (([1116352408, 1899447441, 3049323471, 3921009573, 961987163, 1508970993, 2453635748, 2870763221, 3624381080, 310598401, 607225278, 1426881987, 1925078388, 2162078206, 2614888103, 3248222580, 3835390401, 4022224774, 264347078, 604807628, 770255983, 1249150122, 1555081692, 1996064986, 2554220882, 2821834349, 2952996808, 3210313671, 3336571891, 3584528711, 113926993, 338241895, 666307205, 773529912, 1294757372, 1396182291, 1695183700, 1986661051, 2177026350, 2456956037, 2730485921, 2820302411, 3259730800, 3345764771, 3516065817, 3600352804, 4094571909, 275423344, 430227734, 506948616, 659060556, 883997877, 958139571, 1322822218, 1537002063, 1747873779, 1955562222, 2024104815, 2227730452, 2361852424, 2428436474, 2756734187, 3204031479, 3329325298] : List Int))
set_option maxHeartbeats 8000000 in
set_option maxRecDepth 100000 in
theorem saltusref03_Keys.calls  (r : List Int) (w : World) (h : saltusref03_Keys.f  = some r) :
  Calls Tryz.prog 83 #[] w fun e w' => ∃ v0_ : Value, e = .returned (v0_) ∧ Kd.R (Kd.int .u32) 89 w' w.heap.size (fun _ => True) v0_ r ∧ Below w.heap.size w w' := by
 have HB := qf (Below.refl w.heap.size w); have H : (some (([1116352408, 1899447441, 3049323471, 3921009573, 961987163, 1508970993, 2453635748, 2870763221, 3624381080, 310598401, 607225278, 1426881987, 1925078388, 2162078206, 2614888103, 3248222580, 3835390401, 4022224774, 264347078, 604807628, 770255983, 1249150122, 1555081692, 1996064986, 2554220882, 2821834349, 2952996808, 3210313671, 3336571891, 3584528711, 113926993, 338241895, 666307205, 773529912, 1294757372, 1396182291, 1695183700, 1986661051, 2177026350, 2456956037, 2730485921, 2820302411, 3259730800, 3345764771, 3516065817, 3600352804, 4094571909, 275423344, 430227734, 506948616, 659060556, 883997877, 958139571, 1322822218, 1537002063, 1747873779, 1955562222, 2024104815, 2227730452, 2361852424, 2428436474, 2756734187, 3204031479, 3329325298] : List Int))) = some r := h; clear h
 obtain ⟨y115, hy115⟩ : ∃ y_ : List Int, y_ = (([1116352408, 1899447441, 3049323471, 3921009573, 961987163, 1508970993, 2453635748, 2870763221, 3624381080, 310598401, 607225278, 1426881987, 1925078388, 2162078206, 2614888103, 3248222580, 3835390401, 4022224774, 264347078, 604807628, 770255983, 1249150122, 1555081692, 1996064986, 2554220882, 2821834349, 2952996808, 3210313671, 3336571891, 3584528711, 113926993, 338241895, 666307205, 773529912, 1294757372, 1396182291, 1695183700, 1986661051, 2177026350, 2456956037, 2730485921, 2820302411, 3259730800, 3345764771, 3516065817, 3600352804, 4094571909, 275423344, 430227734, 506948616, 659060556, 883997877, 958139571, 1322822218, 1537002063, 1747873779, 1955562222, 2024104815, 2227730452, 2361852424, 2428436474, 2756734187, 3204031479, 3329325298] : List Int)) := ⟨_, rfl⟩
 replace H : (some y115) = some r := by first | (rw [hy115]; with_reducible exact H) | (have H2_ := (qv _ _).symm.trans H; rw [hy115]; with_reducible exact H2_) | (have H2_ := (qv _ _).symm.trans H; with_reducible exact H2_) | with_reducible exact H | (rw [hy115]; exact H) | exact H
 have Ny115 := qf hy115; clear hy115; obtain rfl := Option.some.inj H
 go_enter Tryz.func83, Tryz.ntmps83
 go_wp2_with (first | ((with_reducible refine gate_dst (N := 1) rfl ?_); refine Kd.R_lit (Kd.int .u32) _ 89 ?hg (N := 1) ?hd (xs := ([1116352408, 1899447441, 3049323471, 3921009573, 961987163, 1508970993, 2453635748, 2870763221, 3624381080, 310598401, 607225278, 1426881987, 1925078388, 2162078206, 2614888103, 3248222580, 3835390401, 4022224774, 264347078, 604807628, 770255983, 1249150122, 1555081692, 1996064986, 2554220882, 2821834349, 2952996808, 3210313671, 3336571891, 3584528711, 113926993, 338241895, 666307205, 773529912, 1294757372, 1396182291, 1695183700, 1986661051, 2177026350, 2456956037, 2730485921, 2820302411, 3259730800, 3345764771, 3516065817, 3600352804, 4094571909, 275423344, 430227734, 506948616, 659060556, 883997877, 958139571, 1322822218, 1537002063, 1747873779, 1955562222, 2024104815, 2227730452, 2361852424, 2428436474, 2756734187, 3204031479, 3329325298] : List Int)) (inner := [.int .u32 1116352408, .int .u32 1899447441, .int .u32 3049323471, .int .u32 3921009573, .int .u32 961987163, .int .u32 1508970993, .int .u32 2453635748, .int .u32 2870763221, .int .u32 3624381080, .int .u32 310598401, .int .u32 607225278, .int .u32 1426881987, .int .u32 1925078388, .int .u32 2162078206, .int .u32 2614888103, .int .u32 3248222580, .int .u32 3835390401, .int .u32 4022224774, .int .u32 264347078, .int .u32 604807628, .int .u32 770255983, .int .u32 1249150122, .int .u32 1555081692, .int .u32 1996064986, .int .u32 2554220882, .int .u32 2821834349, .int .u32 2952996808, .int .u32 3210313671, .int .u32 3336571891, .int .u32 3584528711, .int .u32 113926993, .int .u32 338241895, .int .u32 666307205, .int .u32 773529912, .int .u32 1294757372, .int .u32 1396182291, .int .u32 1695183700, .int .u32 1986661051, .int .u32 2177026350, .int .u32 2456956037, .int .u32 2730485921, .int .u32 2820302411, .int .u32 3259730800, .int .u32 3345764771, .int .u32 3516065817, .int .u32 3600352804, .int .u32 4094571909, .int .u32 275423344, .int .u32 430227734, .int .u32 506948616, .int .u32 659060556, .int .u32 883997877, .int .u32 958139571, .int .u32 1322822218, .int .u32 1537002063, .int .u32 1747873779, .int .u32 1955562222, .int .u32 2024104815, .int .u32 2227730452, .int .u32 2361852424, .int .u32 2428436474, .int .u32 2756734187, .int .u32 3204031479, .int .u32 3329325298]) (ok := fun _ => True) (okp := fun _ => True) ?hr ?hp (fun _ hk => hk) trivial (Below.refl _ _) (Nat.le_refl _) (by simp) ?_; (case hd => rfl); (case hg => rfl); (case hr => first | (go_simp; done) | (go_simp; rfl)); (case hp => exact (Reps.one (show Kd.M (Kd.int .u32) _ _ _ 1116352408 [.int .u32 1116352408] from rfl) (Reps.one (show Kd.M (Kd.int .u32) _ _ _ 1899447441 [.int .u32 1899447441] from rfl) (Reps.one (show Kd.M (Kd.int .u32) _ _ _ 3049323471 [.int .u32 3049323471] from rfl) (Reps.one (show Kd.M (Kd.int .u32) _ _ _ 3921009573 [.int .u32 3921009573] from rfl) (Reps.one (show Kd.M (Kd.int .u32) _ _ _ 961987163 [.int .u32 961987163] from rfl) (Reps.one (show Kd.M (Kd.int .u32) _ _ _ 1508970993 [.int .u32 1508970993] from rfl) (Reps.one (show Kd.M (Kd.int .u32) _ _ _ 2453635748 [.int .u32 2453635748] from rfl) (Reps.one (show Kd.M (Kd.int .u32) _ _ _ 2870763221 [.int .u32 2870763221] from rfl) (Reps.one (show Kd.M (Kd.int .u32) _ _ _ 3624381080 [.int .u32 3624381080] from rfl) (Reps.one (show Kd.M (Kd.int .u32) _ _ _ 310598401 [.int .u32 310598401] from rfl) (Reps.one (show Kd.M (Kd.int .u32) _ _ _ 607225278 [.int .u32 607225278] from rfl) (Reps.one (show Kd.M (Kd.int .u32) _ _ _ 1426881987 [.int .u32 1426881987] from rfl) (Reps.one (show Kd.M (Kd.int .u32) _ _ _ 1925078388 [.int .u32 1925078388] from rfl) (Reps.one (show Kd.M (Kd.int .u32) _ _ _ 2162078206 [.int .u32 2162078206] from rfl) (Reps.one (show Kd.M (Kd.int .u32) _ _ _ 2614888103 [.int .u32 2614888103] from rfl) (Reps.one (show Kd.M (Kd.int .u32) _ _ _ 3248222580 [.int .u32 3248222580] from rfl) (Reps.one (show Kd.M (Kd.int .u32) _ _ _ 3835390401 [.int .u32 3835390401] from rfl) (Reps.one (show Kd.M (Kd.int .u32) _ _ _ 4022224774 [.int .u32 4022224774] from rfl) (Reps.one (show Kd.M (Kd.int .u32) _ _ _ 264347078 [.int .u32 264347078] from rfl) (Reps.one (show Kd.M (Kd.int .u32) _ _ _ 604807628 [.int .u32 604807628] from rfl) (Reps.one (show Kd.M (Kd.int .u32) _ _ _ 770255983 [.int .u32 770255983] from rfl) (Reps.one (show Kd.M (Kd.int .u32) _ _ _ 1249150122 [.int .u32 1249150122] from rfl) (Reps.one (show Kd.M (Kd.int .u32) _ _ _ 1555081692 [.int .u32 1555081692] from rfl) (Reps.one (show Kd.M (Kd.int .u32) _ _ _ 1996064986 [.int .u32 1996064986] from rfl) (Reps.one (show Kd.M (Kd.int .u32) _ _ _ 2554220882 [.int .u32 2554220882] from rfl) (Reps.one (show Kd.M (Kd.int .u32) _ _ _ 2821834349 [.int .u32 2821834349] from rfl) (Reps.one (show Kd.M (Kd.int .u32) _ _ _ 2952996808 [.int .u32 2952996808] from rfl) (Reps.one (show Kd.M (Kd.int .u32) _ _ _ 3210313671 [.int .u32 3210313671] from rfl) (Reps.one (show Kd.M (Kd.int .u32) _ _ _ 3336571891 [.int .u32 3336571891] from rfl) (Reps.one (show Kd.M (Kd.int .u32) _ _ _ 3584528711 [.int .u32 3584528711] from rfl) (Reps.one (show Kd.M (Kd.int .u32) _ _ _ 113926993 [.int .u32 113926993] from rfl) (Reps.one (show Kd.M (Kd.int .u32) _ _ _ 338241895 [.int .u32 338241895] from rfl) (Reps.one (show Kd.M (Kd.int .u32) _ _ _ 666307205 [.int .u32 666307205] from rfl) (Reps.one (show Kd.M (Kd.int .u32) _ _ _ 773529912 [.int .u32 773529912] from rfl) (Reps.one (show Kd.M (Kd.int .u32) _ _ _ 1294757372 [.int .u32 1294757372] from rfl) (Reps.one (show Kd.M (Kd.int .u32) _ _ _ 1396182291 [.int .u32 1396182291] from rfl) (Reps.one (show Kd.M (Kd.int .u32) _ _ _ 1695183700 [.int .u32 1695183700] from rfl) (Reps.one (show Kd.M (Kd.int .u32) _ _ _ 1986661051 [.int .u32 1986661051] from rfl) (Reps.one (show Kd.M (Kd.int .u32) _ _ _ 2177026350 [.int .u32 2177026350] from rfl) (Reps.one (show Kd.M (Kd.int .u32) _ _ _ 2456956037 [.int .u32 2456956037] from rfl) (Reps.one (show Kd.M (Kd.int .u32) _ _ _ 2730485921 [.int .u32 2730485921] from rfl) (Reps.one (show Kd.M (Kd.int .u32) _ _ _ 2820302411 [.int .u32 2820302411] from rfl) (Reps.one (show Kd.M (Kd.int .u32) _ _ _ 3259730800 [.int .u32 3259730800] from rfl) (Reps.one (show Kd.M (Kd.int .u32) _ _ _ 3345764771 [.int .u32 3345764771] from rfl) (Reps.one (show Kd.M (Kd.int .u32) _ _ _ 3516065817 [.int .u32 3516065817] from rfl) (Reps.one (show Kd.M (Kd.int .u32) _ _ _ 3600352804 [.int .u32 3600352804] from rfl) (Reps.one (show Kd.M (Kd.int .u32) _ _ _ 4094571909 [.int .u32 4094571909] from rfl) (Reps.one (show Kd.M (Kd.int .u32) _ _ _ 275423344 [.int .u32 275423344] from rfl) (Reps.one (show Kd.M (Kd.int .u32) _ _ _ 430227734 [.int .u32 430227734] from rfl) (Reps.one (show Kd.M (Kd.int .u32) _ _ _ 506948616 [.int .u32 506948616] from rfl) (Reps.one (show Kd.M (Kd.int .u32) _ _ _ 659060556 [.int .u32 659060556] from rfl) (Reps.one (show Kd.M (Kd.int .u32) _ _ _ 883997877 [.int .u32 883997877] from rfl) (Reps.one (show Kd.M (Kd.int .u32) _ _ _ 958139571 [.int .u32 958139571] from rfl) (Reps.one (show Kd.M (Kd.int .u32) _ _ _ 1322822218 [.int .u32 1322822218] from rfl) (Reps.one (show Kd.M (Kd.int .u32) _ _ _ 1537002063 [.int .u32 1537002063] from rfl) (Reps.one (show Kd.M (Kd.int .u32) _ _ _ 1747873779 [.int .u32 1747873779] from rfl) (Reps.one (show Kd.M (Kd.int .u32) _ _ _ 1955562222 [.int .u32 1955562222] from rfl) (Reps.one (show Kd.M (Kd.int .u32) _ _ _ 2024104815 [.int .u32 2024104815] from rfl) (Reps.one (show Kd.M (Kd.int .u32) _ _ _ 2227730452 [.int .u32 2227730452] from rfl) (Reps.one (show Kd.M (Kd.int .u32) _ _ _ 2361852424 [.int .u32 2361852424] from rfl) (Reps.one (show Kd.M (Kd.int .u32) _ _ _ 2428436474 [.int .u32 2428436474] from rfl) (Reps.one (show Kd.M (Kd.int .u32) _ _ _ 2756734187 [.int .u32 2756734187] from rfl) (Reps.one (show Kd.M (Kd.int .u32) _ _ _ 3204031479 [.int .u32 3204031479] from rfl) (Reps.one (show Kd.M (Kd.int .u32) _ _ _ 3329325298 [.int .u32 3329325298] from rfl) (Reps.none _ _)))))))))))))))))))))))))))))))))))))))))))))))))))))))))))))))))); intro v116 w1 ho2 hb hg_ hnew_; clear hg_ hnew_; (first | rw [← Ny115.out] at ho2 | (simp only [Int.reduceToNat] at ho2; rw [← Ny115.out] at ho2)); have n0_ := qf (Kd.R_lower ho2 (below_size (by repeat (first | (with_reducible first | exact HB.out | apply qa | apply qb | apply qc) | exact HB.out)))); have n1_ := qf (below_step (by repeat (first | (with_reducible first | exact HB.out | apply qa | apply qb | apply qc) | exact HB.out)) hb); clear HB; have HO117 := n0_; have HB := n1_; clear n0_ n1_ hb ho2))
 go_ret; exact ⟨_, by first | rfl | (simp [errW_none, errW_some] <;> rfl) | (simp [*, errW_none, errW_some] <;> rfl), by (with_reducible repeat (first | apply Kd.R_alloc | apply Kd.R_drewN | apply Kd.R_drew)); exact HO117.out, by repeat (first | (with_reducible first | exact HB.out | apply qa | apply qb | apply qc) | exact HB.out)⟩
/-! ### saltusref03_ror: function 102 -/
def saltusref03_ror.f (a0 : Int) (a1 : Int) : Option (Int) := if 0 ≤ a1 then (some (Go.bits .or .u32 (shr .u32 a0 a1) (shl .u32 a0 ((32 - a1) % 4294967296)))) else (none)
set_option maxHeartbeats 8000000 in
set_option maxRecDepth 100000 in
theorem saltusref03_ror.calls (a0 : Int) (a1 : Int) (r : Int) (w : World) (h : saltusref03_ror.f a0 a1 = some r) :
  Calls Tryz.prog 102 #[.int .u32 a0, .int .u32 a1] w fun e w' => e = .returned (.int .u32 r) ∧ Drawn0 w w' := by
 have H : (if 0 ≤ a1 then (some (Go.bits .or .u32 (shr .u32 a0 a1) (shl .u32 a0 ((32 - a1) % 4294967296)))) else (none)) = some r := h; clear h
 by_cases c3 : 0 ≤ a1
 ·rw [if_pos c3] at H; have c3b0 := eq_true c3; have c3b1 := qj c3; clear c3
  obtain ⟨ji4, hji4⟩ : ∃ j_ : Int, (shr .u32 a0 a1) = j_ := ⟨_, rfl⟩
  replace H : (some (Go.bits .or .u32 (ji4) (shl .u32 a0 ((32 - a1) % 4294967296)))) = some r := by first | (rw [hji4] at H; exact H) | (simp only [hji4] at H ⊢; exact H)
  have hji4_ : (a0 / 2 ^ min a1.toNat 32) = ji4 := hji4; have hji4z : a1 ≤ 32 → (a0 / 2 ^ a1.toNat) = ji4 := shr_small hji4
  obtain ⟨ji5, hji5⟩ : ∃ j_ : Int, (shl .u32 a0 ((32 - a1) % 4294967296)) = j_ := ⟨_, rfl⟩
  replace H : (some (Go.bits .or .u32 (ji4) (ji5))) = some r := by first | (rw [hji5] at H; exact H) | (simp only [hji5] at H ⊢; exact H)
  have hji5_ : (IntKind.u32.wrap (a0 * 2 ^ min ((32 - a1) % 4294967296).toNat 32)) = ji5 := hji5; have hji5z : ((32 - a1) % 4294967296) ≤ 32 → (IntKind.u32.wrap (a0 * 2 ^ ((32 - a1) % 4294967296).toNat)) = ji5 := shl_small hji5; obtain rfl := Option.some.inj H; have zz : 0 ≤ (32 - a1) % 4294967296 := Int.emod_nonneg _ (by decide); have zzb := eq_true zz; have zz1 := qj zz
  go_enter Tryz.func102, Tryz.ntmps102
  go_wp2; go_ret; exact ⟨by first | rfl | (simp; done) | (simp only [← hji4, ← hji5] <;> (first | rfl | simp)) | (simp [*]; done), by repeat (first | exact Drawn0.refl _ | apply Drawn0.step)⟩
 ·rw [if_neg c3] at H; exact absurd H (by simp)
end Go.Proofs.YtolbhliepkcihaaGreatDoor.QR
end
section
namespace Go.Proofs.YtolbhliepkcihaaGreatDoor.QR
open Go.RowKit YtolbhliepkcihaaGreatDoorW.PrintWords YtolbhliepkcihaaGreatDoorW.PrintLast YtolbhliepkcihaaGreatDoorW.PrintMore
attribute [local go_sem] max2_int min2_int max_two min_two max_three min_three max_four min_four   -- for this text's walks alone
set_option linter.unusedVariables false
set_option linter.unusedSimpArgs false
/-! ### saltusref03_words: function 84 -/
def saltusref03_words.l0 : Nat → ByteArray → List Int → Int → Option (List Int)
 | 0, _, _, _ => none
 | k + 1, x0, x3, x4 => if x4 < 64 then (if x4 < 16 then (if 0 ≤ (wrap64 (4 * x4)) then (if (wrap64 (4 * x4)) < (x0.size : Int) then (if 0 ≤ (wrap64 ((wrap64 (4 * x4)) + 1)) then (if (wrap64 ((wrap64 (4 * x4)) + 1)) < (x0.size : Int) then (if 0 ≤ (wrap64 ((wrap64 (4 * x4)) + 2)) then (if (wrap64 ((wrap64 (4 * x4)) + 2)) < (x0.size : Int) then (if 0 ≤ (wrap64 ((wrap64 (4 * x4)) + 3)) then (if (wrap64 ((wrap64 (4 * x4)) + 3)) < (x0.size : Int) then (if x3.length < 35184372088832 then (saltusref03_words.l0 k x0 (x3 ++ [(((((((((bt x0 (wrap64 (4 * x4))) % 4294967296) * 16777216) % 4294967296) + ((((bt x0 (wrap64 ((wrap64 (4 * x4)) + 1))) % 4294967296) * 65536) % 4294967296)) % 4294967296) + ((((bt x0 (wrap64 ((wrap64 (4 * x4)) + 2))) % 4294967296) * 256) % 4294967296)) % 4294967296) + ((bt x0 (wrap64 ((wrap64 (4 * x4)) + 3))) % 4294967296)) % 4294967296]) (wrap64 (x4 + 1))) else (none)) else (none)) else (none)) else (none)) else (none)) else (none)) else (none)) else (none)) else (none)) else (if 0 ≤ (wrap64 (x4 - 15)) then (if (wrap64 (x4 - 15)) < (x3.length : Int) then ((saltusref03_ror.f (rd x3 (wrap64 (x4 - 15))) 7).bind fun t125 => ((saltusref03_ror.f (rd x3 (wrap64 (x4 - 15))) 18).bind fun t127 => (if 0 ≤ (wrap64 (x4 - 2)) then (if (wrap64 (x4 - 2)) < (x3.length : Int) then ((saltusref03_ror.f (rd x3 (wrap64 (x4 - 2))) 17).bind fun t130 => ((saltusref03_ror.f (rd x3 (wrap64 (x4 - 2))) 19).bind fun t132 => (if 0 ≤ (wrap64 (x4 - 7)) then (if (wrap64 (x4 - 7)) < (x3.length : Int) then (if 0 ≤ (wrap64 (x4 - 16)) then (if (wrap64 (x4 - 16)) < (x3.length : Int) then (if x3.length < 35184372088832 then (saltusref03_words.l0 k x0 (x3 ++ [((((((Go.bits .xor .u32 (Go.bits .xor .u32 t130 t132) ((rd x3 (wrap64 (x4 - 2))) / 1024)) + (rd x3 (wrap64 (x4 - 7)))) % 4294967296) + (Go.bits .xor .u32 (Go.bits .xor .u32 t125 t127) ((rd x3 (wrap64 (x4 - 15))) / 8))) % 4294967296) + (rd x3 (wrap64 (x4 - 16)))) % 4294967296]) (wrap64 (x4 + 1))) else (none)) else (none)) else (none)) else (none)) else (none)))) else (none)) else (none)))) else (none)) else (none))) else (some x3)
def saltusref03_words.f (k : Nat) (a0 : ByteArray) : Option (List Int) := saltusref03_words.l0 k a0 (([] : List Int)) 0
def saltusref03_words.T6 : Bool × List (List Nat × List Nat) := (true, [([], []), ([], []), ([], []), ([2], [2]), ([1, 3], [1, 3]), ([4], [4]), ([5], [5]), ([], []), ([], []), ([8], [8]), ([9], [9]), ([7, 10], [7, 10]), ([11], [11]), ([12], [12]), ([6, 13], [6, 13]), ([], []), ([], []), ([16], [16]), ([17], [17]), ([15, 18], [15, 18]), ([19], [19]), ([20], [20]), ([14, 21], [14, 21]), ([], []), ([], []), ([24], [24]), ([25], [25]), ([23, 26], [23, 26]), ([27], [27]), ([22, 28], [22, 28]), ([29], [29]), ([0, 30], [0, 30]), ([31, 31, 0, 1, 2, 3, 4, 5, 6, 7, 8, 9, 10, 11, 12, 13, 14, 15, 16, 17, 18, 19, 20, 21, 22, 23, 24, 25, 26, 27, 28, 29, 30, 31], [0, 31])])
def saltusref03_words.B6 : List Nat := [0, 0, 0, 4, 14, 30, 62, 0, 0, 256, 768, 1920, 3968, 8064, 16382, 0, 0, 65536, 196608, 491520, 1015808, 2064384, 4194302, 0, 0, 16777216, 50331648, 125829120, 260046848, 536870910, 1073741822, 2147483647, 4294967295]
theorem saltusref03_words.tab6 : rtab .any (opsOf Tryz.f84 6) = saltusref03_words.T6 := by kernel_rfl
theorem saltusref03_words.bits6 : waitsOk saltusref03_words.T6.2 saltusref03_words.B6 = true := by kernel_rfl
def saltusref03_words.T7 : Bool × List (List Nat × List Nat) := (true, [([], []), ([], []), ([1], [1]), ([0, 2], [0, 2]), ([3], [3]), ([4], [4]), ([], []), ([], []), ([7], [7]), ([6, 8], [6, 8]), ([9], [9]), ([10, 5], [10]), ([5, 11], [5, 11]), ([], []), ([], []), ([14], [14]), ([13, 15], [13, 15]), ([16], [16]), ([17], [17]), ([12, 18], [12, 18]), ([19, 11, 0, 1, 2, 3, 4, 5, 6, 7, 8, 9, 10, 11, 12, 13, 14, 15, 16, 17, 18, 19], [19])])
def saltusref03_words.B7 : List Nat := [0, 0, 2, 7, 15, 31, 0, 0, 128, 448, 960, 2047, 4095, 0, 0, 16384, 57344, 122880, 253952, 524287, 1048575]
theorem saltusref03_words.tab7 : rtab .any (opsOf Tryz.f84 7) = saltusref03_words.T7 := by kernel_rfl
theorem saltusref03_words.bits7 : waitsOk saltusref03_words.T7.2 saltusref03_words.B7 = true := by kernel_rfl
def saltusref03_words.T8 : Bool × List (List Nat × List Nat) := (true, [([], []), ([], []), ([1], [1]), ([0, 2], [0, 2]), ([3], [3]), ([4], [4]), ([], []), ([], []), ([7], [7]), ([6, 8], [6, 8]), ([9], [9]), ([10, 5], [10]), ([5, 11], [5, 11]), ([], []), ([], []), ([14], [14]), ([13, 15], [13, 15]), ([16], [16]), ([17], [17]), ([12, 18], [12, 18]), ([19, 11, 0, 1, 2, 3, 4, 5, 6, 7, 8, 9, 10, 11, 12, 13, 14, 15, 16, 17, 18, 19], [19])])
def saltusref03_words.B8 : List Nat := [0, 0, 2, 7, 15, 31, 0, 0, 128, 448, 960, 2047, 4095, 0, 0, 16384, 57344, 122880, 253952, 524287, 1048575]
theorem saltusref03_words.tab8 : rtab .any (opsOf Tryz.f84 8) = saltusref03_words.T8 := by kernel_rfl
theorem saltusref03_words.bits8 : waitsOk saltusref03_words.T8.2 saltusref03_words.B8 = true := by kernel_rfl
def saltusref03_words.T9 : Bool × List (List Nat × List Nat) := (true, [([], []), ([], []), ([], []), ([], []), ([3], [3]), ([2, 4], [2, 4]), ([5], [5]), ([1, 6], [1, 6]), ([], []), ([7, 8], [7, 8]), ([], []), ([], []), ([11], [11]), ([10, 12], [10, 12]), ([13], [13]), ([9, 14], [9, 14]), ([15], [15]), ([0, 16], [0, 16]), ([17, 17, 0, 1, 2, 3, 4, 5, 6, 7, 8, 9, 10, 11, 12, 13, 14, 15, 16, 17], [0, 2, 10, 17])])
def saltusref03_words.B9 : List Nat := [0, 0, 0, 0, 8, 28, 60, 126, 0, 510, 0, 0, 2048, 7168, 15360, 32766, 65534, 131071, 262143]
theorem saltusref03_words.tab9 : rtab .any (opsOf Tryz.f84 9) = saltusref03_words.T9 := by kernel_rfl
theorem saltusref03_words.bits9 : waitsOk saltusref03_words.T9.2 saltusref03_words.B9 = true := by kernel_rfl
set_option maxHeartbeats 8000000 in
set_option maxRecDepth 100000 in
theorem saltusref03_words.calls (k : Nat) (a0 : ByteArray) (r : List Int) (w : World) (h : saltusref03_words.f k a0 = some r) :
  Calls Tryz.prog 84 #[.string a0] w fun e w' => ∃ v0_ : Value, e = .returned (v0_) ∧ Kd.R (Kd.int .u32) 89 w' w.heap.size (fun _ => True) v0_ r ∧ Below w.heap.size w w' := by
 have HB := qf (Below.refl w.heap.size w); have H : (saltusref03_words.l0 k a0 (([] : List Int)) 0) = some r := h; clear h
 obtain ⟨y118, hy118⟩ : ∃ y_ : List Int, y_ = (([] : List Int)) := ⟨_, rfl⟩
 replace H : (saltusref03_words.l0 k a0 y118 0) = some r := by first | (rw [hy118]; with_reducible exact H) | (have H2_ := (qv _ _).symm.trans H; rw [hy118]; with_reducible exact H2_) | (have H2_ := (qv _ _).symm.trans H; with_reducible exact H2_) | with_reducible exact H | (rw [hy118]; exact H) | exact H
 have Ny118 := qf hy118; clear hy118; have H' := qf H; clear H
 go_enter Tryz.func84, Tryz.ntmps84
 go_wp2_with (first | ((with_reducible refine gate_dst (N := 7) rfl ?_); refine Kd.R_lit (Kd.int .u32) _ 89 ?hg (N := 7) ?hd (xs := ([] : List Int)) (inner := []) (ok := fun _ => True) (okp := fun _ => True) ?hr ?hp (fun _ hk => hk) trivial (Below.refl _ _) (Nat.le_refl _) (by simp) ?_; (case hd => rfl); (case hg => rfl); (case hr => first | (go_simp; done) | (go_simp; rfl)); (case hp => exact (Reps.none _ _)); intro v119 w2 ho3 hb hg_ hnew_; clear hg_ hnew_; (first | rw [← Ny118.out] at ho3 | (simp only [Int.reduceToNat] at ho3; rw [← Ny118.out] at ho3)); have n0_ := qf (Kd.R_lower ho3 (below_size (by repeat (first | (with_reducible first | exact HB.out | apply qa | apply qb | apply qc) | exact HB.out)))); have n1_ := qf (below_step (by repeat (first | (with_reducible first | exact HB.out | apply qa | apply qb | apply qc) | exact HB.out)) hb); clear HB; have HO120 := n0_; have HB := n1_; clear n0_ n1_ hb ho3))
 go_loopg [3, 4] k (fun kq v3 v4 w' => ∃ (x3_1 : List Int) (x4_1 : Int), v4 = .int .i64 x4_1 ∧ Aside0 (saltusref03_words.l0 kq a0 x3_1 x4_1 = some r) ∧ Aside0 (kq ≤ k) ∧ Aside0 (Kd.R (Kd.int .u32) 89 w' w.heap.size (fun _ => True) v3 x3_1) ∧ Aside0 (Below w.heap.size w w'))
 case atStart => exact ⟨(y118), (0), (by first | rfl | (simp; done) | (simp [*]; done)), H', ⟨Nat.le_refl _⟩, ⟨by (with_reducible repeat (first | apply Kd.R_alloc | apply Kd.R_drewN | apply Kd.R_drew)); exact HO120.out⟩, ⟨by repeat (first | (with_reducible first | exact HB.out | apply qa | apply qb | apply qc) | exact HB.out)⟩⟩
 case round =>
  clear H'; (try clear p2); obtain ⟨x3_1, x4_1, rfl, HA, HK1, HO_3, HB⟩ := hrel
  cases gk with
  | zero => exact absurd HA.out (by simp [saltusref03_words.l0])
  | succ k1 =>
   have H := HA.out; clear HA; simp only [saltusref03_words.l0] at H
   by_cases c4 : x4_1 < 64
   ·rw [if_pos c4] at H; have c4b0 := qj c4; clear c4
    by_cases c5 : x4_1 < 16
    ·rw [if_pos c5] at H; have c5b0 := qj c5; clear c5
     obtain ⟨ji6, hji6⟩ : ∃ j_ : Int, (wrap64 (4 * x4_1)) = j_ := ⟨_, rfl⟩
     replace H : (if 0 ≤ (ji6) then (if (ji6) < (a0.size : Int) then (if 0 ≤ (wrap64 ((ji6) + 1)) then (if (wrap64 ((ji6) + 1)) < (a0.size : Int) then (if 0 ≤ (wrap64 ((ji6) + 2)) then (if (wrap64 ((ji6) + 2)) < (a0.size : Int) then (if 0 ≤ (wrap64 ((ji6) + 3)) then (if (wrap64 ((ji6) + 3)) < (a0.size : Int) then (if x3_1.length < 35184372088832 then (saltusref03_words.l0 k1 a0 (x3_1 ++ [(((((((((bt a0 (ji6)) % 4294967296) * 16777216) % 4294967296) + ((((bt a0 (wrap64 ((ji6) + 1))) % 4294967296) * 65536) % 4294967296)) % 4294967296) + ((((bt a0 (wrap64 ((ji6) + 2))) % 4294967296) * 256) % 4294967296)) % 4294967296) + ((bt a0 (wrap64 ((ji6) + 3))) % 4294967296)) % 4294967296]) (wrap64 (x4_1 + 1))) else (none)) else (none)) else (none)) else (none)) else (none)) else (none)) else (none)) else (none)) else (none)) = some r := by first | (rw [hji6] at H; exact H) | (simp only [hji6] at H ⊢; exact H)
     have hji6w : (IntKind.i64.wrap (4 * x4_1)) = ji6 := (i64_w _).trans hji6
     by_cases c7 : 0 ≤ (ji6)
     ·rw [if_pos c7] at H; have c7b0 := qj c7; clear c7
      by_cases c8 : (ji6) < (a0.size : Int)
      ·rw [if_pos c8] at H; have c8b0 := qj c8; clear c8
       obtain ⟨ji10, hji10⟩ : ∃ j_ : Int, (wrap64 ((ji6) + 1)) = j_ := ⟨_, rfl⟩
       replace H : (if 0 ≤ (ji10) then (if (ji10) < (a0.size : Int) then (if 0 ≤ (wrap64 ((ji6) + 2)) then (if (wrap64 ((ji6) + 2)) < (a0.size : Int) then (if 0 ≤ (wrap64 ((ji6) + 3)) then (if (wrap64 ((ji6) + 3)) < (a0.size : Int) then (if x3_1.length < 35184372088832 then (saltusref03_words.l0 k1 a0 (x3_1 ++ [(((((((((bt a0 (ji6)) % 4294967296) * 16777216) % 4294967296) + ((((bt a0 (ji10)) % 4294967296) * 65536) % 4294967296)) % 4294967296) + ((((bt a0 (wrap64 ((ji6) + 2))) % 4294967296) * 256) % 4294967296)) % 4294967296) + ((bt a0 (wrap64 ((ji6) + 3))) % 4294967296)) % 4294967296]) (wrap64 (x4_1 + 1))) else (none)) else (none)) else (none)) else (none)) else (none)) else (none)) else (none)) = some r := by first | (rw [hji10] at H; exact H) | (simp only [hji10] at H ⊢; exact H)
       have hji10w : (IntKind.i64.wrap ((ji6) + 1)) = ji10 := (i64_w _).trans hji10
       by_cases c11 : 0 ≤ (ji10)
       ·rw [if_pos c11] at H; have c11b0 := qj c11; clear c11
        by_cases c12 : (ji10) < (a0.size : Int)
        ·rw [if_pos c12] at H; have c12b0 := qj c12; clear c12
         obtain ⟨ji14, hji14⟩ : ∃ j_ : Int, (wrap64 ((ji6) + 2)) = j_ := ⟨_, rfl⟩
         replace H : (if 0 ≤ (ji14) then (if (ji14) < (a0.size : Int) then (if 0 ≤ (wrap64 ((ji6) + 3)) then (if (wrap64 ((ji6) + 3)) < (a0.size : Int) then (if x3_1.length < 35184372088832 then (saltusref03_words.l0 k1 a0 (x3_1 ++ [(((((((((bt a0 (ji6)) % 4294967296) * 16777216) % 4294967296) + ((((bt a0 (ji10)) % 4294967296) * 65536) % 4294967296)) % 4294967296) + ((((bt a0 (ji14)) % 4294967296) * 256) % 4294967296)) % 4294967296) + ((bt a0 (wrap64 ((ji6) + 3))) % 4294967296)) % 4294967296]) (wrap64 (x4_1 + 1))) else (none)) else (none)) else (none)) else (none)) else (none)) = some r := by first | (rw [hji14] at H; exact H) | (simp only [hji14] at H ⊢; exact H)
         have hji14w : (IntKind.i64.wrap ((ji6) + 2)) = ji14 := (i64_w _).trans hji14
         by_cases c15 : 0 ≤ (ji14)
         ·rw [if_pos c15] at H; have c15b0 := qj c15; clear c15
          by_cases c16 : (ji14) < (a0.size : Int)
          ·rw [if_pos c16] at H; have c16b0 := qj c16; clear c16
           obtain ⟨ji18, hji18⟩ : ∃ j_ : Int, (wrap64 ((ji6) + 3)) = j_ := ⟨_, rfl⟩
           replace H : (if 0 ≤ (ji18) then (if (ji18) < (a0.size : Int) then (if x3_1.length < 35184372088832 then (saltusref03_words.l0 k1 a0 (x3_1 ++ [(((((((((bt a0 (ji6)) % 4294967296) * 16777216) % 4294967296) + ((((bt a0 (ji10)) % 4294967296) * 65536) % 4294967296)) % 4294967296) + ((((bt a0 (ji14)) % 4294967296) * 256) % 4294967296)) % 4294967296) + ((bt a0 (ji18)) % 4294967296)) % 4294967296]) (wrap64 (x4_1 + 1))) else (none)) else (none)) else (none)) = some r := by first | (rw [hji18] at H; exact H) | (simp only [hji18] at H ⊢; exact H)
           have hji18w : (IntKind.i64.wrap ((ji6) + 3)) = ji18 := (i64_w _).trans hji18
           by_cases c19 : 0 ≤ (ji18)
           ·rw [if_pos c19] at H; have c19b0 := qj c19; clear c19
            by_cases c20 : (ji18) < (a0.size : Int)
            ·rw [if_pos c20] at H; have c20b0 := qj c20; clear c20
             by_cases c22 : x3_1.length < 35184372088832
             ·rw [if_pos c22] at H; have LMc22 := qf c22; clear c22
              obtain ⟨y121, hy121⟩ : ∃ y_ : List Int, y_ = (x3_1 ++ [(((((((((bt a0 (ji6)) % 4294967296) * 16777216) % 4294967296) + ((((bt a0 (ji10)) % 4294967296) * 65536) % 4294967296)) % 4294967296) + ((((bt a0 (ji14)) % 4294967296) * 256) % 4294967296)) % 4294967296) + ((bt a0 (ji18)) % 4294967296)) % 4294967296]) := ⟨_, rfl⟩
              replace H : (saltusref03_words.l0 k1 a0 y121 (wrap64 (x4_1 + 1))) = some r := by first | (rw [hy121]; with_reducible exact H) | (have H2_ := (qv _ _).symm.trans H; rw [hy121]; with_reducible exact H2_) | (have H2_ := (qv _ _).symm.trans H; with_reducible exact H2_) | with_reducible exact H | (rw [hy121]; exact H) | exact H
              have Ny121 := qf hy121; clear hy121; have H' := qf H; clear H
              try go_wp2
              have n0_ := qf (Kd.R_drew HO_3.out); have n1_ := qf (qc HB.out); clear HO_3 HB; have HO_3 := n0_; have HB := n1_; clear n0_ n1_; have p9 : 0 ≤ ((ji6) : Int) := qe (by with_reducible assumption); have q9 : (ji6) < (a0.size : Int) := qe (by with_reducible assumption); have hx9 := bt_at a0 (ji6); replace p9 := eq_true p9; replace q9 := eq_true q9; have p13 : 0 ≤ ((ji10) : Int) := qe (by with_reducible assumption); have q13 : (ji10) < (a0.size : Int) := qe (by with_reducible assumption); have hx13 := bt_at a0 (ji10); replace p13 := eq_true p13; replace q13 := eq_true q13; have p17 : 0 ≤ ((ji14) : Int) := qe (by with_reducible assumption); have q17 : (ji14) < (a0.size : Int) := qe (by with_reducible assumption); have hx17 := bt_at a0 (ji14); replace p17 := eq_true p17; replace q17 := eq_true q17; have p21 : 0 ≤ ((ji18) : Int) := qe (by with_reducible assumption); have q21 : (ji18) < (a0.size : Int) := qe (by with_reducible assumption); have hx21 := bt_at a0 (ji18); replace p21 := eq_true p21; replace q21 := eq_true q21; refine start_ (n := 33) (S := fun w' => True) (ds := []) (bm 33 0) (by kernel_rfl) rfl rfl trivial (fun hHeld => ?_); refine with_tabW saltusref03_words.tab6 saltusref03_words.bits6 (fun HT_ HW_ => ?_); generalize wr.drew = w23 at HO_3 HB hHeld ⊢; refine qz 0 14 ?_ (bm 33 1) rfl rfl HT_ (by kernel_rfl) (fun _ _ _ h => h) (by rfl) ?_ ?_ ?_ ?_; rotate_left; (intro w'; go_simp; with_reducible rfl); rotate_left; (simp only [Act.put, qs, qt, qu, i64_w, i32_w]; rfl); refine qz 1 15 ?_ (bm 33 3) rfl rfl HT_ (by kernel_rfl) (fun _ _ _ h => h) (by rfl) ?_ ?_ ?_ ?_; rotate_left; (intro w'; go_simp; with_reducible rfl); rotate_left; (simp only [Act.put, qs, qt, qu, i64_w, i32_w]; rfl); refine qz 2 16 ?_ (bm 33 7) rfl rfl HT_ (by kernel_rfl) (fun _ _ _ h => h) (by rfl) ?_ ?_ ?_ ?_; rotate_left; (intro w'; go_simp; with_reducible rfl); rotate_left; (simp only [Act.put, qs, qt, qu, i64_w, i32_w]; rfl); refine qz 3 17 ?_ (bm 33 15) rfl rfl HT_ (by kernel_rfl) (fun _ _ _ h => h) (by rfl) ?_ ?_ ?_ ?_; rotate_left; (intro w'; go_simp; with_reducible rfl); rotate_left; (simp only [Act.put, qs, qt, qu, i64_w, i32_w]; rfl); refine qz 7 21 ?_ (bm 33 143) rfl rfl HT_ (by kernel_rfl) (fun _ _ _ h => h) (by rfl) ?_ ?_ ?_ ?_; rotate_left; (intro w'; go_simp; with_reducible rfl); rotate_left; (simp only [Act.put, qs, qt, qu, i64_w, i32_w]; rfl); refine qz 8 22 ?_ (bm 33 399) rfl rfl HT_ (by kernel_rfl) (fun _ _ _ h => h) (by rfl) ?_ ?_ ?_ ?_; rotate_left; (intro w'; go_simp; with_reducible rfl); rotate_left; (simp only [Act.put, qs, qt, qu, i64_w, i32_w]; rfl); refine qz 9 23 ?_ (bm 33 911) rfl rfl HT_ (by kernel_rfl) (fun _ _ _ h => h) (by rfl) ?_ ?_ ?_ ?_; rotate_left; (intro w'; go_simp; with_reducible rfl); rotate_left
              (simp only [Act.put, qs, qt, qu, i64_w, i32_w]; rfl); refine qz 10 24 ?_ (bm 33 1935) rfl rfl HT_ (by kernel_rfl) (fun _ _ _ h => h) (by rfl) ?_ ?_ ?_ ?_; rotate_left; (intro w'; go_simp; with_reducible rfl); rotate_left; (simp only [Act.put, qs, qt, qu, i64_w, i32_w]; rfl); refine qz 15 29 ?_ (bm 33 34703) rfl rfl HT_ (by kernel_rfl) (fun _ _ _ h => h) (by rfl) ?_ ?_ ?_ ?_; rotate_left; (intro w'; go_simp; with_reducible rfl); rotate_left; (simp only [Act.put, qs, qt, qu, i64_w, i32_w]; rfl); refine qz 16 30 ?_ (bm 33 100239) rfl rfl HT_ (by kernel_rfl) (fun _ _ _ h => h) (by rfl) ?_ ?_ ?_ ?_; rotate_left; (intro w'; go_simp; with_reducible rfl); rotate_left; (simp only [Act.put, qs, qt, qu, i64_w, i32_w]; rfl); refine qz 17 31 ?_ (bm 33 231311) rfl rfl HT_ (by kernel_rfl) (fun _ _ _ h => h) (by rfl) ?_ ?_ ?_ ?_; rotate_left; (intro w'; go_simp; with_reducible rfl); rotate_left; (simp only [Act.put, qs, qt, qu, i64_w, i32_w]; rfl); refine qz 18 32 ?_ (bm 33 493455) rfl rfl HT_ (by kernel_rfl) (fun _ _ _ h => h) (by rfl) ?_ ?_ ?_ ?_; rotate_left; (intro w'; go_simp; with_reducible rfl); rotate_left; (simp only [Act.put, qs, qt, qu, i64_w, i32_w]; rfl); refine qz 23 37 ?_ (bm 33 8882063) rfl rfl HT_ (by kernel_rfl) (fun _ _ _ h => h) (by rfl) ?_ ?_ ?_ ?_; rotate_left; (intro w'; go_simp; with_reducible rfl); rotate_left; (simp only [Act.put, qs, qt, qu, i64_w, i32_w]; rfl); refine qz 24 38 ?_ (bm 33 25659279) rfl rfl HT_ (by kernel_rfl) (fun _ _ _ h => h) (by rfl) ?_ ?_ ?_ ?_; rotate_left; (intro w'; go_simp; with_reducible rfl); rotate_left; (simp only [Act.put, qs, qt, qu, i64_w, i32_w]; rfl); refine qz 25 39 ?_ (bm 33 59213711) rfl rfl HT_ (by kernel_rfl) (fun _ _ _ h => h) (by rfl) ?_ ?_ ?_ ?_; rotate_left; (intro w'; go_simp; with_reducible rfl); rotate_left; (simp only [Act.put, qs, qt, qu, i64_w, i32_w]; rfl); refine qz 26 40 ?_ (bm 33 126322575) rfl rfl HT_ (by kernel_rfl) (fun _ _ _ h => h) (by rfl) ?_ ?_ ?_ ?_; rotate_left; (intro w'; go_simp; with_reducible rfl); rotate_left; (simp only [Act.put, qs, qt, qu, i64_w, i32_w]; rfl); refine take_ (i := 4) (N := some 18) (v := ?_) (a' := ?_) (bm 33 126322591) rfl rfl (take_ofW HT_.out HW_.out (by kernel_rfl)) (fun _ _ _ h => h) (Or.inl ⟨by rfl, ?_⟩) hHeld ?_ ?_; rotate_left; (intro w' _; go_simp; with_reducible rfl); rotate_left; (simp only [Act.put, qs, qt, qu, i64_w, i32_w]; rfl); refine qz 5 19 ?_ (bm 33 126322623) rfl rfl HT_ (by kernel_rfl) (fun _ _ _ h => h) (by rfl) ?_ ?_ ?_ ?_; rotate_left; (intro w'; go_simp; with_reducible rfl); rotate_left; (simp only [Act.put, qs, qt, qu, i64_w, i32_w]; rfl); refine qz 6 20 ?_ (bm 33 126322687) rfl rfl HT_ (by kernel_rfl) (fun _ _ _ h => h) (by rfl) ?_ ?_ ?_ ?_; rotate_left; (intro w'; go_simp; with_reducible rfl); rotate_left; (simp only [Act.put, qs, qt, qu, i64_w, i32_w]; rfl)
              refine take_ (i := 11) (N := some 25) (v := ?_) (a' := ?_) (bm 33 126324735) rfl rfl (take_ofW HT_.out HW_.out (by kernel_rfl)) (fun _ _ _ h => h) (Or.inl ⟨by rfl, ?_⟩) hHeld ?_ ?_; rotate_left; (intro w' _; go_simp; with_reducible rfl); rotate_left; (simp only [Act.put, qs, qt, qu, i64_w, i32_w]; rfl); refine qz 12 26 ?_ (bm 33 126328831) rfl rfl HT_ (by kernel_rfl) (fun _ _ _ h => h) (by rfl) ?_ ?_ ?_ ?_; rotate_left; (intro w'; go_simp; with_reducible rfl); rotate_left; (simp only [Act.put, qs, qt, qu, i64_w, i32_w]; rfl); refine qz 13 27 ?_ (bm 33 126337023) rfl rfl HT_ (by kernel_rfl) (fun _ _ _ h => h) (by rfl) ?_ ?_ ?_ ?_; rotate_left; (intro w'; go_simp; with_reducible rfl); rotate_left; (simp only [Act.put, qs, qt, qu, i64_w, i32_w]; rfl); refine qz 14 28 ?_ (bm 33 126353407) rfl rfl HT_ (by kernel_rfl) (fun _ _ _ h => h) (by rfl) ?_ ?_ ?_ ?_; rotate_left; (intro w'; go_simp; with_reducible rfl); rotate_left; (simp only [Act.put, qs, qt, qu, i64_w, i32_w]; rfl); refine take_ (i := 19) (N := some 33) (v := ?_) (a' := ?_) (bm 33 126877695) rfl rfl (take_ofW HT_.out HW_.out (by kernel_rfl)) (fun _ _ _ h => h) (Or.inl ⟨by rfl, ?_⟩) hHeld ?_ ?_; rotate_left; (intro w' _; go_simp; with_reducible rfl); rotate_left; (simp only [Act.put, qs, qt, qu, i64_w, i32_w]; rfl); refine qz 20 34 ?_ (bm 33 127926271) rfl rfl HT_ (by kernel_rfl) (fun _ _ _ h => h) (by rfl) ?_ ?_ ?_ ?_; rotate_left; (intro w'; go_simp; with_reducible rfl); rotate_left; (simp only [Act.put, qs, qt, qu, i64_w, i32_w]; rfl); refine qz 21 35 ?_ (bm 33 130023423) rfl rfl HT_ (by kernel_rfl) (fun _ _ _ h => h) (by rfl) ?_ ?_ ?_ ?_; rotate_left; (intro w'; go_simp; with_reducible rfl); rotate_left; (simp only [Act.put, qs, qt, qu, i64_w, i32_w]; rfl); refine qz 22 36 ?_ (bm 33 134217727) rfl rfl HT_ (by kernel_rfl) (fun _ _ _ h => h) (by rfl) ?_ ?_ ?_ ?_; rotate_left; (intro w'; go_simp; with_reducible rfl); rotate_left; (simp only [Act.put, qs, qt, qu, i64_w, i32_w]; rfl); refine take_ (i := 27) (N := some 41) (v := ?_) (a' := ?_) (bm 33 268435455) rfl rfl (take_ofW HT_.out HW_.out (by kernel_rfl)) (fun _ _ _ h => h) (Or.inl ⟨by rfl, ?_⟩) hHeld ?_ ?_; rotate_left; (intro w' _; go_simp; with_reducible rfl); rotate_left; (simp only [Act.put, qs, qt, qu, i64_w, i32_w]; rfl); refine qz 28 42 ?_ (bm 33 536870911) rfl rfl HT_ (by kernel_rfl) (fun _ _ _ h => h) (by rfl) ?_ ?_ ?_ ?_; rotate_left; (intro w'; go_simp; with_reducible rfl); rotate_left; (simp only [Act.put, qs, qt, qu, i64_w, i32_w]; rfl); refine qz 29 43 ?_ (bm 33 1073741823) rfl rfl HT_ (by kernel_rfl) (fun _ _ _ h => h) (by rfl) ?_ ?_ ?_ ?_; rotate_left; (intro w'; go_simp; with_reducible rfl); rotate_left; (simp only [Act.put, qs, qt, qu, i64_w, i32_w]; rfl); refine one_ (i := 30) (N := some 44) (bm 33 2147483647) rfl rfl (one_of HT_.out (by kernel_rfl)) (by decide) (fun K hK => ?_); refine value_ (w1 := ?_) (v := ?_) (by rfl) rfl ?_ ?_; rotate_left 2
              ·go_simp
               constructor
               (rfl); (rfl)
              refine hK.out _ _ trivial (fun hHeld => ?_); clear hK K; refine norm_ (a' := ?_) ?_ ?_; rotate_left
              ·show Act.put _ (some 44) _ = _
               simp only [Act.put, qs, qt, qu, i64_w, i32_w]; rfl
              refine one_ (i := 31) (N := some 45) (bm 33 4294967295) rfl rfl (one_of HT_.out (by kernel_rfl)) (by decide) (fun K hK => ?_); refine Kd.R_append_step (Kd.int .u32) (w0 := w) w.heap.size (by rfl) (.tmp 14) (.tmp 44) 87 89 (.int .u32 0) 4 rfl Tryz.underlying87 info89 rfl (by decide) (by omega) u3 x3_1 ((((((((((bt a0 (ji6)) % 4294967296) * 16777216) % 4294967296) + ((((bt a0 (ji10)) % 4294967296) * 65536) % 4294967296)) % 4294967296) + ((((bt a0 (ji14)) % 4294967296) * 256) % 4294967296)) % 4294967296) + ((bt a0 (ji18)) % 4294967296)) % 4294967296) [.int .u32 ((((((((((bt a0 (ji6)) % 4294967296) * 16777216) % 4294967296) + ((((bt a0 (ji10)) % 4294967296) * 65536) % 4294967296)) % 4294967296) + ((((bt a0 (ji14)) % 4294967296) * 256) % 4294967296)) % 4294967296) + ((bt a0 (ji18)) % 4294967296)) % 4294967296)] (fun _ => True) (fun _ => False) rfl rfl ?aP (fun _ hk => hk.elim) ?aF ?aO ?aB ?aS ?aL ?_
              (case aP => exact rfl)
              (case aB => exact (by repeat (first | (with_reducible first | exact HB.out | apply qa | apply qb | apply qc) | exact HB.out)))
              (case aF => exact (fun _ _ => trivial))
              (case aO => exact (by (with_reducible repeat (first | apply Kd.R_alloc | apply Kd.R_drewN | apply Kd.R_drew)); exact HO_3.out))
              (case aS => exact (below_size (by repeat (first | (with_reducible first | exact HB.out | apply qa | apply qb | apply qc) | exact HB.out))))
              (case aL => have := LMc22.out; omega)
              intro v122 w24 ho hb hg hat; rw [← Ny121.out] at ho; have n0_ := qf (hb); have n1_ := qf (ho); clear HB HO_3; have HB := n0_; have HO123 := n1_; clear n0_ n1_ ho hb hg hat; refine hK.out _ _ trivial (fun hHeld => ?_); clear hK K; refine norm_ (a' := ?_) ?_ ?_; rotate_left
              ·show Act.put _ (some 45) _ = _
               simp only [Act.put, qs, qt, qu, i64_w, i32_w]; rfl
              refine qz 32 3 ?_ (bm 33 8589934591) rfl rfl HT_ (by kernel_rfl) (fun _ _ _ h => h) (by rfl) ?_ ?_ ?_ ?_; rotate_left; (intro w'; go_simp; with_reducible rfl); rotate_left; (simp only [Act.put, qs, qt, qu, i64_w, i32_w]; rfl); refine done_ (done_of HT_.out (by kernel_rfl)) ?_
              try go_wp2
              go_roundg k1
              case measure => have := HK1.out; omega
              case rel => exact ⟨(y121), (wrap64 (x4_1 + 1)), (by first | rfl | (simp; done) | (simp [*]; done)), H', ⟨by have := HK1.out; omega⟩, ⟨by (with_reducible repeat (first | apply Kd.R_alloc | apply Kd.R_drewN | apply Kd.R_drew)); exact HO123.out⟩, ⟨by repeat (first | (with_reducible first | exact HB.out | apply qa | apply qb | apply qc) | exact HB.out)⟩⟩
             ·rw [if_neg c22] at H; exact absurd H (by simp)
            ·rw [if_neg c20] at H; exact absurd H (by simp)
           ·rw [if_neg c19] at H; exact absurd H (by simp)
          ·rw [if_neg c16] at H; exact absurd H (by simp)
         ·rw [if_neg c15] at H; exact absurd H (by simp)
        ·rw [if_neg c12] at H; exact absurd H (by simp)
       ·rw [if_neg c11] at H; exact absurd H (by simp)
      ·rw [if_neg c8] at H; exact absurd H (by simp)
     ·rw [if_neg c7] at H; exact absurd H (by simp)
    ·rw [if_neg c5] at H; have c5b0 := decide_eq_false c5; clear c5
     obtain ⟨ji25, hji25⟩ : ∃ j_ : Int, (wrap64 (x4_1 - 15)) = j_ := ⟨_, rfl⟩
     replace H : (if 0 ≤ (ji25) then (if (ji25) < (x3_1.length : Int) then ((saltusref03_ror.f (rd x3_1 (ji25)) 7).bind fun t125 => ((saltusref03_ror.f (rd x3_1 (ji25)) 18).bind fun t127 => (if 0 ≤ (wrap64 (x4_1 - 2)) then (if (wrap64 (x4_1 - 2)) < (x3_1.length : Int) then ((saltusref03_ror.f (rd x3_1 (wrap64 (x4_1 - 2))) 17).bind fun t130 => ((saltusref03_ror.f (rd x3_1 (wrap64 (x4_1 - 2))) 19).bind fun t132 => (if 0 ≤ (wrap64 (x4_1 - 7)) then (if (wrap64 (x4_1 - 7)) < (x3_1.length : Int) then (if 0 ≤ (wrap64 (x4_1 - 16)) then (if (wrap64 (x4_1 - 16)) < (x3_1.length : Int) then (if x3_1.length < 35184372088832 then (saltusref03_words.l0 k1 a0 (x3_1 ++ [((((((Go.bits .xor .u32 (Go.bits .xor .u32 t130 t132) ((rd x3_1 (wrap64 (x4_1 - 2))) / 1024)) + (rd x3_1 (wrap64 (x4_1 - 7)))) % 4294967296) + (Go.bits .xor .u32 (Go.bits .xor .u32 t125 t127) ((rd x3_1 (ji25)) / 8))) % 4294967296) + (rd x3_1 (wrap64 (x4_1 - 16)))) % 4294967296]) (wrap64 (x4_1 + 1))) else (none)) else (none)) else (none)) else (none)) else (none)))) else (none)) else (none)))) else (none)) else (none)) = some r := by first | (rw [hji25] at H; exact H) | (simp only [hji25] at H ⊢; exact H)
     have hji25w : (IntKind.i64.wrap (x4_1 - 15)) = ji25 := (i64_w _).trans hji25
     by_cases c26 : 0 ≤ (ji25)
     ·rw [if_pos c26] at H; have c26b0 := qj c26; clear c26
      by_cases c27 : (ji25) < (x3_1.length : Int)
      ·rw [if_pos c27] at H; have c27b0 := qj c27; clear c27; replace H := qi H; obtain ⟨t125, A280, H⟩ := H
       (try dsimp only at H)
       have A28 := qf A280; clear A280; replace H := qi H; obtain ⟨t127, A290, H⟩ := H
       (try dsimp only at H)
       have A29 := qf A290; clear A290
       obtain ⟨ji30, hji30⟩ : ∃ j_ : Int, (wrap64 (x4_1 - 2)) = j_ := ⟨_, rfl⟩
       replace H : (if 0 ≤ (ji30) then (if (ji30) < (x3_1.length : Int) then ((saltusref03_ror.f (rd x3_1 (ji30)) 17).bind fun t130 => ((saltusref03_ror.f (rd x3_1 (ji30)) 19).bind fun t132 => (if 0 ≤ (wrap64 (x4_1 - 7)) then (if (wrap64 (x4_1 - 7)) < (x3_1.length : Int) then (if 0 ≤ (wrap64 (x4_1 - 16)) then (if (wrap64 (x4_1 - 16)) < (x3_1.length : Int) then (if x3_1.length < 35184372088832 then (saltusref03_words.l0 k1 a0 (x3_1 ++ [((((((Go.bits .xor .u32 (Go.bits .xor .u32 t130 t132) ((rd x3_1 (ji30)) / 1024)) + (rd x3_1 (wrap64 (x4_1 - 7)))) % 4294967296) + (Go.bits .xor .u32 (Go.bits .xor .u32 t125 t127) ((rd x3_1 (ji25)) / 8))) % 4294967296) + (rd x3_1 (wrap64 (x4_1 - 16)))) % 4294967296]) (wrap64 (x4_1 + 1))) else (none)) else (none)) else (none)) else (none)) else (none)))) else (none)) else (none)) = some r := by first | (rw [hji30] at H; exact H) | (simp only [hji30] at H ⊢; exact H)
       (try rw [hji30] at A28)
       (try rw [hji30] at A29)
       have hji30w : (IntKind.i64.wrap (x4_1 - 2)) = ji30 := (i64_w _).trans hji30
       by_cases c31 : 0 ≤ (ji30)
       ·rw [if_pos c31] at H; have c31b0 := qj c31; clear c31
        by_cases c32 : (ji30) < (x3_1.length : Int)
        ·rw [if_pos c32] at H; have c32b0 := qj c32; clear c32; replace H := qi H; obtain ⟨t130, A330, H⟩ := H
         (try dsimp only at H)
         have A33 := qf A330; clear A330; replace H := qi H; obtain ⟨t132, A340, H⟩ := H
         (try dsimp only at H)
         have A34 := qf A340; clear A340
         obtain ⟨ji35, hji35⟩ : ∃ j_ : Int, (wrap64 (x4_1 - 7)) = j_ := ⟨_, rfl⟩
         replace H : (if 0 ≤ (ji35) then (if (ji35) < (x3_1.length : Int) then (if 0 ≤ (wrap64 (x4_1 - 16)) then (if (wrap64 (x4_1 - 16)) < (x3_1.length : Int) then (if x3_1.length < 35184372088832 then (saltusref03_words.l0 k1 a0 (x3_1 ++ [((((((Go.bits .xor .u32 (Go.bits .xor .u32 t130 t132) ((rd x3_1 (ji30)) / 1024)) + (rd x3_1 (ji35))) % 4294967296) + (Go.bits .xor .u32 (Go.bits .xor .u32 t125 t127) ((rd x3_1 (ji25)) / 8))) % 4294967296) + (rd x3_1 (wrap64 (x4_1 - 16)))) % 4294967296]) (wrap64 (x4_1 + 1))) else (none)) else (none)) else (none)) else (none)) else (none)) = some r := by first | (rw [hji35] at H; exact H) | (simp only [hji35] at H ⊢; exact H)
         (try rw [hji35] at A28)
         (try rw [hji35] at A29)
         (try rw [hji35] at A33)
         (try rw [hji35] at A34)
         have hji35w : (IntKind.i64.wrap (x4_1 - 7)) = ji35 := (i64_w _).trans hji35
         by_cases c36 : 0 ≤ (ji35)
         ·rw [if_pos c36] at H; have c36b0 := qj c36; clear c36
          by_cases c37 : (ji35) < (x3_1.length : Int)
          ·rw [if_pos c37] at H; have c37b0 := qj c37; clear c37
           obtain ⟨ji38, hji38⟩ : ∃ j_ : Int, (wrap64 (x4_1 - 16)) = j_ := ⟨_, rfl⟩
           replace H : (if 0 ≤ (ji38) then (if (ji38) < (x3_1.length : Int) then (if x3_1.length < 35184372088832 then (saltusref03_words.l0 k1 a0 (x3_1 ++ [((((((Go.bits .xor .u32 (Go.bits .xor .u32 t130 t132) ((rd x3_1 (ji30)) / 1024)) + (rd x3_1 (ji35))) % 4294967296) + (Go.bits .xor .u32 (Go.bits .xor .u32 t125 t127) ((rd x3_1 (ji25)) / 8))) % 4294967296) + (rd x3_1 (ji38))) % 4294967296]) (wrap64 (x4_1 + 1))) else (none)) else (none)) else (none)) = some r := by first | (rw [hji38] at H; exact H) | (simp only [hji38] at H ⊢; exact H)
           (try rw [hji38] at A28)
           (try rw [hji38] at A29)
           (try rw [hji38] at A33)
           (try rw [hji38] at A34)
           have hji38w : (IntKind.i64.wrap (x4_1 - 16)) = ji38 := (i64_w _).trans hji38
           by_cases c39 : 0 ≤ (ji38)
           ·rw [if_pos c39] at H; have c39b0 := qj c39; clear c39
            by_cases c40 : (ji38) < (x3_1.length : Int)
            ·rw [if_pos c40] at H; have c40b0 := qj c40; clear c40
             by_cases c41 : x3_1.length < 35184372088832
             ·rw [if_pos c41] at H; have LMc41 := qf c41; clear c41
              obtain ⟨y136, hy136⟩ : ∃ y_ : List Int, y_ = (x3_1 ++ [((((((Go.bits .xor .u32 (Go.bits .xor .u32 t130 t132) ((rd x3_1 (ji30)) / 1024)) + (rd x3_1 (ji35))) % 4294967296) + (Go.bits .xor .u32 (Go.bits .xor .u32 t125 t127) ((rd x3_1 (ji25)) / 8))) % 4294967296) + (rd x3_1 (ji38))) % 4294967296]) := ⟨_, rfl⟩
              replace H : (saltusref03_words.l0 k1 a0 y136 (wrap64 (x4_1 + 1))) = some r := by first | (rw [hy136]; with_reducible exact H) | (have H2_ := (qv _ _).symm.trans H; rw [hy136]; with_reducible exact H2_) | (have H2_ := (qv _ _).symm.trans H; with_reducible exact H2_) | with_reducible exact H | (rw [hy136]; exact H) | exact H
              have Ny136 := qf hy136; clear hy136; have H' := qf H; clear H
              try go_wp2
              have n0_ := qf (Kd.R_drew HO_3.out); have n1_ := qf (qc HB.out); clear HO_3 HB; have HO_3 := n0_; have HB := n1_; clear n0_ n1_; obtain ⟨Ao43, co43, eo43⟩ := Kd.R_slice HO_3.out
              (first | subst eo43 | (injection eo43 with f1_ f2_ f3_; have f4_ := f1_.symm; have f5_ := f3_.symm; clear f1_ f2_ f3_; subst f4_; subst f5_))
              have p124 : 0 ≤ ((ji25) : Int) := qe (by with_reducible assumption); have q124 : (ji25) < (x3_1.length : Int) := qe (by with_reducible assumption); obtain ⟨ad124, e124, hx124_0⟩ := Kd.at_int (Kd.R_reads' HO_3.out).2.2 (ji25) p124 q124; cases e124; replace p124 := eq_true p124; replace q124 := eq_true q124; have p126 : 0 ≤ ((ji25) : Int) := qe (by with_reducible assumption); have q126 : (ji25) < (x3_1.length : Int) := qe (by with_reducible assumption); obtain ⟨ad126, e126, hx126_0⟩ := Kd.at_int (Kd.R_reads' HO_3.out).2.2 (ji25) p126 q126; obtain rfl : ad124 = ad126 := (by injection e126); replace p126 := eq_true p126; replace q126 := eq_true q126; have p128 : 0 ≤ ((ji25) : Int) := qe (by with_reducible assumption); have q128 : (ji25) < (x3_1.length : Int) := qe (by with_reducible assumption); obtain ⟨ad128, e128, hx128_0⟩ := Kd.at_int (Kd.R_reads' HO_3.out).2.2 (ji25) p128 q128; obtain rfl : ad124 = ad128 := (by injection e128); replace p128 := eq_true p128; replace q128 := eq_true q128; refine start_ (n := 21) (S := fun w' => w'.cell? (ad124.add ((ji25)).toNat) = some (.int .u32 (rd x3_1 (ji25))) ∧ w'.cell? (ad124.add ((ji25)).toNat) = some (.int .u32 (rd x3_1 (ji25))) ∧ w'.cell? (ad124.add ((ji25)).toNat) = some (.int .u32 (rd x3_1 (ji25)))) (ds := []) (bm 21 0) (by kernel_rfl) rfl rfl ⟨hx124_0, hx126_0, hx128_0⟩ (fun hHeld => ?_); refine with_tabW saltusref03_words.tab7 saltusref03_words.bits7 (fun HT_ HW_ => ?_); generalize wr.drew = w42 at HO_3 HB hx124_0 hx126_0 hx128_0 hHeld ⊢; refine qz 0 46 ?_ (bm 21 1) rfl rfl HT_ (by kernel_rfl) (fun _ _ _ h => h) (by rfl) ?_ ?_ ?_ ?_; rotate_left; (intro w'; go_simp; with_reducible rfl); rotate_left; (simp only [Act.put, qs, qt, qu, i64_w, i32_w]; rfl); refine qz 1 47 ?_ (bm 21 3) rfl rfl HT_ (by kernel_rfl) (fun _ _ _ h => h) (by rfl) ?_ ?_ ?_ ?_; rotate_left; (intro w'; go_simp; with_reducible rfl); rotate_left; (simp only [Act.put, qs, qt, qu, i64_w, i32_w]; rfl); refine qz 2 48 ?_ (bm 21 7) rfl rfl HT_ (by kernel_rfl) (fun _ _ _ h => h) (by rfl) ?_ ?_ ?_ ?_; rotate_left; (intro w'; go_simp; with_reducible rfl); rotate_left; (simp only [Act.put, qs, qt, qu, i64_w, i32_w]; rfl); refine qz 3 49 ?_ (bm 21 15) rfl rfl HT_ (by kernel_rfl) (fun _ _ _ h => h) (by rfl) ?_ ?_ ?_ ?_; rotate_left; (intro w'; go_simp; with_reducible rfl); rotate_left; (simp only [Act.put, qs, qt, qu, i64_w, i32_w]; rfl); refine qz 6 52 ?_ (bm 21 79) rfl rfl HT_ (by kernel_rfl) (fun _ _ _ h => h) (by rfl) ?_ ?_ ?_ ?_; rotate_left; (intro w'; go_simp; with_reducible rfl); rotate_left; (simp only [Act.put, qs, qt, qu, i64_w, i32_w]; rfl); refine qz 7 53 ?_ (bm 21 207) rfl rfl HT_ (by kernel_rfl) (fun _ _ _ h => h) (by rfl) ?_ ?_ ?_ ?_; rotate_left; (intro w'; go_simp; with_reducible rfl); rotate_left; (simp only [Act.put, qs, qt, qu, i64_w, i32_w]; rfl)
              refine qz 8 54 ?_ (bm 21 463) rfl rfl HT_ (by kernel_rfl) (fun _ _ _ h => h) (by rfl) ?_ ?_ ?_ ?_; rotate_left; (intro w'; go_simp; with_reducible rfl); rotate_left; (simp only [Act.put, qs, qt, qu, i64_w, i32_w]; rfl); refine qz 9 55 ?_ (bm 21 975) rfl rfl HT_ (by kernel_rfl) (fun _ _ _ h => h) (by rfl) ?_ ?_ ?_ ?_; rotate_left; (intro w'; go_simp; with_reducible rfl); rotate_left; (simp only [Act.put, qs, qt, qu, i64_w, i32_w]; rfl); refine qz 13 59 ?_ (bm 21 9167) rfl rfl HT_ (by kernel_rfl) (fun _ _ _ h => h) (by rfl) ?_ ?_ ?_ ?_; rotate_left; (intro w'; go_simp; with_reducible rfl); rotate_left; (simp only [Act.put, qs, qt, qu, i64_w, i32_w]; rfl); refine qz 14 60 ?_ (bm 21 25551) rfl rfl HT_ (by kernel_rfl) (fun _ _ _ h => h) (by rfl) ?_ ?_ ?_ ?_; rotate_left; (intro w'; go_simp; with_reducible rfl); rotate_left; (simp only [Act.put, qs, qt, qu, i64_w, i32_w]; rfl); refine qz 15 61 ?_ (bm 21 58319) rfl rfl HT_ (by kernel_rfl) (fun _ _ _ h => h) (by rfl) ?_ ?_ ?_ ?_; rotate_left; (intro w'; go_simp; with_reducible rfl); rotate_left; (simp only [Act.put, qs, qt, qu, i64_w, i32_w]; rfl); refine qz 16 62 ?_ (bm 21 123855) rfl rfl HT_ (by kernel_rfl) (fun _ _ _ h => h) (by rfl) ?_ ?_ ?_ ?_; rotate_left; (intro w'; go_simp; with_reducible rfl); rotate_left; (simp only [Act.put, qs, qt, qu, i64_w, i32_w]; rfl); refine take_ (i := 4) (N := some 50) (v := ?_) (a' := ?_) (bm 21 123871) rfl rfl (take_ofW HT_.out HW_.out (by kernel_rfl)) (fun _ _ _ h => h) (Or.inl ⟨by rfl, ?_⟩) hHeld ?_ ?_; rotate_left
              ·rintro w' ⟨s0, s1, s2⟩
               go_simp; with_reducible rfl
              rotate_left; (simp only [Act.put, qs, qt, qu, i64_w, i32_w]; rfl); refine take_ (i := 10) (N := some 56) (v := ?_) (a' := ?_) (bm 21 124895) rfl rfl (take_ofW HT_.out HW_.out (by kernel_rfl)) (fun _ _ _ h => h) (Or.inl ⟨by rfl, ?_⟩) hHeld ?_ ?_; rotate_left
              ·rintro w' ⟨s0, s1, s2⟩
               go_simp; with_reducible rfl
              rotate_left; (simp only [Act.put, qs, qt, qu, i64_w, i32_w]; rfl); refine take_ (i := 17) (N := some 63) (v := ?_) (a' := ?_) (bm 21 255967) rfl rfl (take_ofW HT_.out HW_.out (by kernel_rfl)) (fun _ _ _ h => h) (Or.inl ⟨by rfl, ?_⟩) hHeld ?_ ?_; rotate_left
              ·rintro w' ⟨s0, s1, s2⟩
               go_simp; with_reducible rfl
              rotate_left; (simp only [Act.put, qs, qt, qu, i64_w, i32_w]; rfl); refine qz 18 64 ?_ (bm 21 518111) rfl rfl HT_ (by kernel_rfl) (fun _ _ _ h => h) (by rfl) ?_ ?_ ?_ ?_; rotate_left; (intro w'; go_simp; with_reducible rfl); rotate_left; (simp only [Act.put, qs, qt, qu, i64_w, i32_w]; rfl); refine one_ (i := 5) (N := some 51) (bm 21 518143) rfl rfl (one_of HT_.out (by kernel_rfl)) (by decide) (fun K hK => ?_); refine goes_ Tryz.func102 (by kernel_rfl) rfl #[.int .u32 (rd x3_1 (ji25)), .int .u32 7] (by rfl) rfl rfl (by (try simp only [List.map_toArray, List.map_cons, List.map_nil]); first | done | (simp only [hji25]; rfl) | rfl | (simp only [List.length_drop, qw]; rfl)) ?_
              with_reducible refine (saltusref03_ror.calls (rd x3_1 (ji25)) 7 t125 _ A28.out).mono ?_
              rintro e w' ⟨rfl, ⟨nd, rfl⟩⟩
              refine ⟨_, rfl, ?_⟩; refine hK.out _ _ ⟨hHeld.1, hHeld.2.1, hHeld.2.2⟩ (fun hHeld => ?_); clear hK K; refine norm_ (a' := ?_) ?_ ?_; rotate_left
              ·show Act.put _ (some 51) _ = _
               simp only [Act.put, qs, qt, qu, i64_w, i32_w]; rfl
              refine one_ (i := 11) (N := some 57) (bm 21 520191) rfl rfl (one_of HT_.out (by kernel_rfl)) (by decide) (fun K hK => ?_); refine goes_ Tryz.func102 (by kernel_rfl) rfl #[.int .u32 (rd x3_1 (ji25)), .int .u32 18] (by rfl) rfl rfl (by (try simp only [List.map_toArray, List.map_cons, List.map_nil]); first | done | (simp only [hji25]; rfl) | rfl | (simp only [List.length_drop, qw]; rfl)) ?_
              with_reducible refine (saltusref03_ror.calls (rd x3_1 (ji25)) 18 t127 _ A29.out).mono ?_
              rintro e w' ⟨rfl, ⟨nd, rfl⟩⟩
              refine ⟨_, rfl, ?_⟩; refine hK.out _ _ ⟨hHeld.1, hHeld.2.1, hHeld.2.2⟩ (fun hHeld => ?_); clear hK K; refine norm_ (a' := ?_) ?_ ?_; rotate_left
              ·show Act.put _ (some 57) _ = _
               simp only [Act.put, qs, qt, qu, i64_w, i32_w]; rfl
              refine qz 12 58 ?_ (bm 21 524287) rfl rfl HT_ (by kernel_rfl) (fun _ _ _ h => h) (by rfl) ?_ ?_ ?_ ?_; rotate_left; (intro w'; go_simp; with_reducible rfl); rotate_left; (simp only [Act.put, qs, qt, qu, i64_w, i32_w]; rfl); refine qz 19 65 ?_ (bm 21 1048575) rfl rfl HT_ (by kernel_rfl) (fun _ _ _ h => h) (by rfl) ?_ ?_ ?_ ?_; rotate_left; (intro w'; go_simp; with_reducible rfl); rotate_left; (simp only [Act.put, qs, qt, qu, i64_w, i32_w]; rfl); refine qz 20 5 ?_ (bm 21 2097151) rfl rfl HT_ (by kernel_rfl) (fun _ _ _ h => h) (by rfl) ?_ ?_ ?_ ?_; rotate_left; (intro w'; go_simp; with_reducible rfl); rotate_left; (simp only [Act.put, qs, qt, qu, i64_w, i32_w]; rfl); refine done_ (done_of HT_.out (by kernel_rfl)) ?_
              try go_wp2
              (try (rw [drewN_self w42]; generalize hq_ : World.drewN w42 _ = w42; have n0_ : Aside0 (Kd.R (Kd.int .u32) 89 w42 w.heap.size (fun _ => True) (.slice (some ad124) x3_1.length co43) x3_1) := ⟨by rw [← hq_]; exact (by (with_reducible repeat (first | apply Kd.R_alloc | apply Kd.R_drewN | apply Kd.R_drew)); exact HO_3.out)⟩; have n1_ : Aside0 (Below w.heap.size w w42) := ⟨by rw [← hq_]; exact (by repeat (first | (with_reducible first | exact HB.out | apply qa | apply qb | apply qc) | exact HB.out))⟩; clear HO_3 HB hq_; have HO_3 := n0_; have HB := n1_; clear n0_ n1_))
              have n0_ := qf (Kd.R_drew HO_3.out); have n1_ := qf (qc HB.out); clear HO_3 HB; have HO_3 := n0_; have HB := n1_; clear n0_ n1_; have p129 : 0 ≤ ((ji30) : Int) := qe (by with_reducible assumption); have q129 : (ji30) < (x3_1.length : Int) := qe (by with_reducible assumption); obtain ⟨ad129, e129, hx129_0⟩ := Kd.at_int (Kd.R_reads' HO_3.out).2.2 (ji30) p129 q129; obtain rfl : ad124 = ad129 := (by injection e129); replace p129 := eq_true p129; replace q129 := eq_true q129; have p131 : 0 ≤ ((ji30) : Int) := qe (by with_reducible assumption); have q131 : (ji30) < (x3_1.length : Int) := qe (by with_reducible assumption); obtain ⟨ad131, e131, hx131_0⟩ := Kd.at_int (Kd.R_reads' HO_3.out).2.2 (ji30) p131 q131; obtain rfl : ad124 = ad131 := (by injection e131); replace p131 := eq_true p131; replace q131 := eq_true q131; have p133 : 0 ≤ ((ji30) : Int) := qe (by with_reducible assumption); have q133 : (ji30) < (x3_1.length : Int) := qe (by with_reducible assumption); obtain ⟨ad133, e133, hx133_0⟩ := Kd.at_int (Kd.R_reads' HO_3.out).2.2 (ji30) p133 q133; obtain rfl : ad124 = ad133 := (by injection e133); replace p133 := eq_true p133; replace q133 := eq_true q133; refine start_ (n := 21) (S := fun w' => w'.cell? (ad124.add ((ji30)).toNat) = some (.int .u32 (rd x3_1 (ji30))) ∧ w'.cell? (ad124.add ((ji30)).toNat) = some (.int .u32 (rd x3_1 (ji30))) ∧ w'.cell? (ad124.add ((ji30)).toNat) = some (.int .u32 (rd x3_1 (ji30)))) (ds := []) (bm 21 0) (by kernel_rfl) rfl rfl ⟨hx129_0, hx131_0, hx133_0⟩ (fun hHeld => ?_); refine with_tabW saltusref03_words.tab8 saltusref03_words.bits8 (fun HT_ HW_ => ?_); generalize w42.drew = w44 at HO_3 HB hx129_0 hx131_0 hx133_0 hHeld ⊢; refine qz 0 66 ?_ (bm 21 1) rfl rfl HT_ (by kernel_rfl) (fun _ _ _ h => h) (by rfl) ?_ ?_ ?_ ?_; rotate_left; (intro w'; go_simp; with_reducible rfl); rotate_left; (simp only [Act.put, qs, qt, qu, i64_w, i32_w]; rfl); refine qz 1 67 ?_ (bm 21 3) rfl rfl HT_ (by kernel_rfl) (fun _ _ _ h => h) (by rfl) ?_ ?_ ?_ ?_; rotate_left; (intro w'; go_simp; with_reducible rfl); rotate_left; (simp only [Act.put, qs, qt, qu, i64_w, i32_w]; rfl); refine qz 2 68 ?_ (bm 21 7) rfl rfl HT_ (by kernel_rfl) (fun _ _ _ h => h) (by rfl) ?_ ?_ ?_ ?_; rotate_left; (intro w'; go_simp; with_reducible rfl); rotate_left; (simp only [Act.put, qs, qt, qu, i64_w, i32_w]; rfl); refine qz 3 69 ?_ (bm 21 15) rfl rfl HT_ (by kernel_rfl) (fun _ _ _ h => h) (by rfl) ?_ ?_ ?_ ?_; rotate_left; (intro w'; go_simp; with_reducible rfl); rotate_left; (simp only [Act.put, qs, qt, qu, i64_w, i32_w]; rfl); refine qz 6 72 ?_ (bm 21 79) rfl rfl HT_ (by kernel_rfl) (fun _ _ _ h => h) (by rfl) ?_ ?_ ?_ ?_; rotate_left; (intro w'; go_simp; with_reducible rfl); rotate_left; (simp only [Act.put, qs, qt, qu, i64_w, i32_w]; rfl)
              refine qz 7 73 ?_ (bm 21 207) rfl rfl HT_ (by kernel_rfl) (fun _ _ _ h => h) (by rfl) ?_ ?_ ?_ ?_; rotate_left; (intro w'; go_simp; with_reducible rfl); rotate_left; (simp only [Act.put, qs, qt, qu, i64_w, i32_w]; rfl); refine qz 8 74 ?_ (bm 21 463) rfl rfl HT_ (by kernel_rfl) (fun _ _ _ h => h) (by rfl) ?_ ?_ ?_ ?_; rotate_left; (intro w'; go_simp; with_reducible rfl); rotate_left; (simp only [Act.put, qs, qt, qu, i64_w, i32_w]; rfl); refine qz 9 75 ?_ (bm 21 975) rfl rfl HT_ (by kernel_rfl) (fun _ _ _ h => h) (by rfl) ?_ ?_ ?_ ?_; rotate_left; (intro w'; go_simp; with_reducible rfl); rotate_left; (simp only [Act.put, qs, qt, qu, i64_w, i32_w]; rfl); refine qz 13 79 ?_ (bm 21 9167) rfl rfl HT_ (by kernel_rfl) (fun _ _ _ h => h) (by rfl) ?_ ?_ ?_ ?_; rotate_left; (intro w'; go_simp; with_reducible rfl); rotate_left; (simp only [Act.put, qs, qt, qu, i64_w, i32_w]; rfl); refine qz 14 80 ?_ (bm 21 25551) rfl rfl HT_ (by kernel_rfl) (fun _ _ _ h => h) (by rfl) ?_ ?_ ?_ ?_; rotate_left; (intro w'; go_simp; with_reducible rfl); rotate_left; (simp only [Act.put, qs, qt, qu, i64_w, i32_w]; rfl); refine qz 15 81 ?_ (bm 21 58319) rfl rfl HT_ (by kernel_rfl) (fun _ _ _ h => h) (by rfl) ?_ ?_ ?_ ?_; rotate_left; (intro w'; go_simp; with_reducible rfl); rotate_left; (simp only [Act.put, qs, qt, qu, i64_w, i32_w]; rfl); refine qz 16 82 ?_ (bm 21 123855) rfl rfl HT_ (by kernel_rfl) (fun _ _ _ h => h) (by rfl) ?_ ?_ ?_ ?_; rotate_left; (intro w'; go_simp; with_reducible rfl); rotate_left; (simp only [Act.put, qs, qt, qu, i64_w, i32_w]; rfl); refine take_ (i := 4) (N := some 70) (v := ?_) (a' := ?_) (bm 21 123871) rfl rfl (take_ofW HT_.out HW_.out (by kernel_rfl)) (fun _ _ _ h => h) (Or.inl ⟨by rfl, ?_⟩) hHeld ?_ ?_; rotate_left
              ·rintro w' ⟨s0, s1, s2⟩
               go_simp; with_reducible rfl
              rotate_left; (simp only [Act.put, qs, qt, qu, i64_w, i32_w]; rfl); refine take_ (i := 10) (N := some 76) (v := ?_) (a' := ?_) (bm 21 124895) rfl rfl (take_ofW HT_.out HW_.out (by kernel_rfl)) (fun _ _ _ h => h) (Or.inl ⟨by rfl, ?_⟩) hHeld ?_ ?_; rotate_left
              ·rintro w' ⟨s0, s1, s2⟩
               go_simp; with_reducible rfl
              rotate_left; (simp only [Act.put, qs, qt, qu, i64_w, i32_w]; rfl); refine take_ (i := 17) (N := some 83) (v := ?_) (a' := ?_) (bm 21 255967) rfl rfl (take_ofW HT_.out HW_.out (by kernel_rfl)) (fun _ _ _ h => h) (Or.inl ⟨by rfl, ?_⟩) hHeld ?_ ?_; rotate_left
              ·rintro w' ⟨s0, s1, s2⟩
               go_simp; with_reducible rfl
              rotate_left; (simp only [Act.put, qs, qt, qu, i64_w, i32_w]; rfl); refine qz 18 84 ?_ (bm 21 518111) rfl rfl HT_ (by kernel_rfl) (fun _ _ _ h => h) (by rfl) ?_ ?_ ?_ ?_; rotate_left; (intro w'; go_simp; with_reducible rfl); rotate_left; (simp only [Act.put, qs, qt, qu, i64_w, i32_w]; rfl); refine one_ (i := 5) (N := some 71) (bm 21 518143) rfl rfl (one_of HT_.out (by kernel_rfl)) (by decide) (fun K hK => ?_); refine goes_ Tryz.func102 (by kernel_rfl) rfl #[.int .u32 (rd x3_1 (ji30)), .int .u32 17] (by rfl) rfl rfl (by (try simp only [List.map_toArray, List.map_cons, List.map_nil]); first | done | (simp only [hji30]; rfl) | rfl | (simp only [List.length_drop, qw]; rfl)) ?_
              with_reducible refine (saltusref03_ror.calls (rd x3_1 (ji30)) 17 t130 _ A33.out).mono ?_
              rintro e w' ⟨rfl, ⟨nd, rfl⟩⟩
              refine ⟨_, rfl, ?_⟩; refine hK.out _ _ ⟨hHeld.1, hHeld.2.1, hHeld.2.2⟩ (fun hHeld => ?_); clear hK K; refine norm_ (a' := ?_) ?_ ?_; rotate_left
              ·show Act.put _ (some 71) _ = _
               simp only [Act.put, qs, qt, qu, i64_w, i32_w]; rfl
              refine one_ (i := 11) (N := some 77) (bm 21 520191) rfl rfl (one_of HT_.out (by kernel_rfl)) (by decide) (fun K hK => ?_); refine goes_ Tryz.func102 (by kernel_rfl) rfl #[.int .u32 (rd x3_1 (ji30)), .int .u32 19] (by rfl) rfl rfl (by (try simp only [List.map_toArray, List.map_cons, List.map_nil]); first | done | (simp only [hji30]; rfl) | rfl | (simp only [List.length_drop, qw]; rfl)) ?_
              with_reducible refine (saltusref03_ror.calls (rd x3_1 (ji30)) 19 t132 _ A34.out).mono ?_
              rintro e w' ⟨rfl, ⟨nd, rfl⟩⟩
              refine ⟨_, rfl, ?_⟩; refine hK.out _ _ ⟨hHeld.1, hHeld.2.1, hHeld.2.2⟩ (fun hHeld => ?_); clear hK K; refine norm_ (a' := ?_) ?_ ?_; rotate_left
              ·show Act.put _ (some 77) _ = _
               simp only [Act.put, qs, qt, qu, i64_w, i32_w]; rfl
              refine qz 12 78 ?_ (bm 21 524287) rfl rfl HT_ (by kernel_rfl) (fun _ _ _ h => h) (by rfl) ?_ ?_ ?_ ?_; rotate_left; (intro w'; go_simp; with_reducible rfl); rotate_left; (simp only [Act.put, qs, qt, qu, i64_w, i32_w]; rfl); refine qz 19 85 ?_ (bm 21 1048575) rfl rfl HT_ (by kernel_rfl) (fun _ _ _ h => h) (by rfl) ?_ ?_ ?_ ?_; rotate_left; (intro w'; go_simp; with_reducible rfl); rotate_left; (simp only [Act.put, qs, qt, qu, i64_w, i32_w]; rfl); refine qz 20 6 ?_ (bm 21 2097151) rfl rfl HT_ (by kernel_rfl) (fun _ _ _ h => h) (by rfl) ?_ ?_ ?_ ?_; rotate_left; (intro w'; go_simp; with_reducible rfl); rotate_left; (simp only [Act.put, qs, qt, qu, i64_w, i32_w]; rfl); refine done_ (done_of HT_.out (by kernel_rfl)) ?_
              try go_wp2
              (try (rw [drewN_self w44]; generalize hq_ : World.drewN w44 _ = w44; have n0_ : Aside0 (Kd.R (Kd.int .u32) 89 w44 w.heap.size (fun _ => True) (.slice (some ad124) x3_1.length co43) x3_1) := ⟨by rw [← hq_]; exact (by (with_reducible repeat (first | apply Kd.R_alloc | apply Kd.R_drewN | apply Kd.R_drew)); exact HO_3.out)⟩; have n1_ : Aside0 (Below w.heap.size w w44) := ⟨by rw [← hq_]; exact (by repeat (first | (with_reducible first | exact HB.out | apply qa | apply qb | apply qc) | exact HB.out))⟩; clear HO_3 HB hq_; have HO_3 := n0_; have HB := n1_; clear n0_ n1_))
              have n0_ := qf (Kd.R_drew HO_3.out); have n1_ := qf (qc HB.out); clear HO_3 HB; have HO_3 := n0_; have HB := n1_; clear n0_ n1_; have p134 : 0 ≤ ((ji35) : Int) := qe (by with_reducible assumption); have q134 : (ji35) < (x3_1.length : Int) := qe (by with_reducible assumption); obtain ⟨ad134, e134, hx134_0⟩ := Kd.at_int (Kd.R_reads' HO_3.out).2.2 (ji35) p134 q134; obtain rfl : ad124 = ad134 := (by injection e134); replace p134 := eq_true p134; replace q134 := eq_true q134; have p135 : 0 ≤ ((ji38) : Int) := qe (by with_reducible assumption); have q135 : (ji38) < (x3_1.length : Int) := qe (by with_reducible assumption); obtain ⟨ad135, e135, hx135_0⟩ := Kd.at_int (Kd.R_reads' HO_3.out).2.2 (ji38) p135 q135; obtain rfl : ad124 = ad135 := (by injection e135); replace p135 := eq_true p135; replace q135 := eq_true q135; refine start_ (n := 19) (S := fun w' => w'.cell? (ad124.add ((ji35)).toNat) = some (.int .u32 (rd x3_1 (ji35))) ∧ w'.cell? (ad124.add ((ji38)).toNat) = some (.int .u32 (rd x3_1 (ji38)))) (ds := [16, 17]) (bm 19 0) (by kernel_rfl) rfl rfl ⟨hx134_0, hx135_0⟩ (fun hHeld => ?_); refine with_tabW saltusref03_words.tab9 saltusref03_words.bits9 (fun HT_ HW_ => ?_); generalize w44.drew = w45 at HO_3 HB hx134_0 hx135_0 hHeld ⊢; refine qz 0 86 ?_ (bm 19 1) rfl rfl HT_ (by kernel_rfl) (fun _ _ _ h => h) (by rfl) ?_ ?_ ?_ ?_; rotate_left; (intro w'; go_simp; with_reducible rfl); rotate_left; (simp only [Act.put, qs, qt, qu, i64_w, i32_w]; rfl); refine qz 1 87 ?_ (bm 19 3) rfl rfl HT_ (by kernel_rfl) (fun _ _ _ h => h) (by rfl) ?_ ?_ ?_ ?_; rotate_left; (intro w'; go_simp; with_reducible rfl); rotate_left; (simp only [Act.put, qs, qt, qu, i64_w, i32_w]; rfl); refine qz 2 88 ?_ (bm 19 7) rfl rfl HT_ (by kernel_rfl) (fun _ _ _ h => h) (by rfl) ?_ ?_ ?_ ?_; rotate_left; (intro w'; go_simp; with_reducible rfl); rotate_left; (simp only [Act.put, qs, qt, qu, i64_w, i32_w]; rfl); refine qz 3 89 ?_ (bm 19 15) rfl rfl HT_ (by kernel_rfl) (fun _ _ _ h => h) (by rfl) ?_ ?_ ?_ ?_; rotate_left; (intro w'; go_simp; with_reducible rfl); rotate_left; (simp only [Act.put, qs, qt, qu, i64_w, i32_w]; rfl); refine qz 4 90 ?_ (bm 19 31) rfl rfl HT_ (by kernel_rfl) (fun _ _ _ h => h) (by rfl) ?_ ?_ ?_ ?_; rotate_left; (intro w'; go_simp; with_reducible rfl); rotate_left; (simp only [Act.put, qs, qt, qu, i64_w, i32_w]; rfl); refine qz 5 91 ?_ (bm 19 63) rfl rfl HT_ (by kernel_rfl) (fun _ _ _ h => h) (by rfl) ?_ ?_ ?_ ?_; rotate_left; (intro w'; go_simp; with_reducible rfl); rotate_left; (simp only [Act.put, qs, qt, qu, i64_w, i32_w]; rfl); refine qz 8 94 ?_ (bm 19 319) rfl rfl HT_ (by kernel_rfl) (fun _ _ _ h => h) (by rfl) ?_ ?_ ?_ ?_; rotate_left; (intro w'; go_simp; with_reducible rfl); rotate_left; (simp only [Act.put, qs, qt, qu, i64_w, i32_w]; rfl); refine qz 10 96 ?_ (bm 19 1343) rfl rfl HT_ (by kernel_rfl) (fun _ _ _ h => h) (by rfl) ?_ ?_ ?_ ?_
              rotate_left; (intro w'; go_simp; with_reducible rfl); rotate_left; (simp only [Act.put, qs, qt, qu, i64_w, i32_w]; rfl); refine qz 11 97 ?_ (bm 19 3391) rfl rfl HT_ (by kernel_rfl) (fun _ _ _ h => h) (by rfl) ?_ ?_ ?_ ?_; rotate_left; (intro w'; go_simp; with_reducible rfl); rotate_left; (simp only [Act.put, qs, qt, qu, i64_w, i32_w]; rfl); refine qz 12 98 ?_ (bm 19 7487) rfl rfl HT_ (by kernel_rfl) (fun _ _ _ h => h) (by rfl) ?_ ?_ ?_ ?_; rotate_left; (intro w'; go_simp; with_reducible rfl); rotate_left; (simp only [Act.put, qs, qt, qu, i64_w, i32_w]; rfl); refine qz 13 99 ?_ (bm 19 15679) rfl rfl HT_ (by kernel_rfl) (fun _ _ _ h => h) (by rfl) ?_ ?_ ?_ ?_; rotate_left; (intro w'; go_simp; with_reducible rfl); rotate_left; (simp only [Act.put, qs, qt, qu, i64_w, i32_w]; rfl); refine take_ (i := 6) (N := some 92) (v := ?_) (a' := ?_) (bm 19 15743) rfl rfl (take_ofW HT_.out HW_.out (by kernel_rfl)) (fun _ _ _ h => h) (Or.inl ⟨by rfl, ?_⟩) hHeld ?_ ?_; rotate_left
              ·rintro w' ⟨s0, s1⟩
               go_simp; with_reducible rfl
              rotate_left; (simp only [Act.put, qs, qt, qu, i64_w, i32_w]; rfl); refine qz 7 93 ?_ (bm 19 15871) rfl rfl HT_ (by kernel_rfl) (fun _ _ _ h => h) (by rfl) ?_ ?_ ?_ ?_; rotate_left; (intro w'; go_simp; with_reducible rfl); rotate_left; (simp only [Act.put, qs, qt, qu, i64_w, i32_w]; rfl); refine qz 9 95 ?_ (bm 19 16383) rfl rfl HT_ (by kernel_rfl) (fun _ _ _ h => h) (by rfl) ?_ ?_ ?_ ?_; rotate_left; (intro w'; go_simp; with_reducible rfl); rotate_left; (simp only [Act.put, qs, qt, qu, i64_w, i32_w]; rfl); refine take_ (i := 14) (N := some 100) (v := ?_) (a' := ?_) (bm 19 32767) rfl rfl (take_ofW HT_.out HW_.out (by kernel_rfl)) (fun _ _ _ h => h) (Or.inl ⟨by rfl, ?_⟩) hHeld ?_ ?_; rotate_left
              ·rintro w' ⟨s0, s1⟩
               go_simp; with_reducible rfl
              rotate_left; (simp only [Act.put, qs, qt, qu, i64_w, i32_w]; rfl); refine qz 15 101 ?_ (bm 19 65535) rfl rfl HT_ (by kernel_rfl) (fun _ _ _ h => h) (by rfl) ?_ ?_ ?_ ?_; rotate_left; (intro w'; go_simp; with_reducible rfl); rotate_left; (simp only [Act.put, qs, qt, qu, i64_w, i32_w]; rfl); refine last_ (i := 16) (N := some 102) (bm 19 131071) rfl rfl (one_of HT_.out (by kernel_rfl)) (by decide) (fun K hK => ?_); refine value_ (w1 := ?_) (v := ?_) (by rfl) rfl ?_ ?_; rotate_left 2
              ·go_simp
               constructor
               (rfl); (rfl)
              refine hK.out _ _ ?_; clear hK K; refine norm_ (a' := ?_) ?_ ?_; rotate_left
              ·show Act.put _ (some 102) _ = _
               simp only [Act.put, qs, qt, qu, i64_w, i32_w]; rfl
              refine last_ (i := 17) (N := some 103) (bm 19 262143) rfl rfl (one_of HT_.out (by kernel_rfl)) (by decide) (fun K hK => ?_); refine Kd.R_append_step (Kd.int .u32) (w0 := w) w.heap.size (by rfl) (.tmp 86) (.tmp 102) 87 89 (.int .u32 0) 4 rfl Tryz.underlying87 info89 rfl (by decide) (by omega) (.slice (some ad124) x3_1.length co43) x3_1 (((((((Go.bits .xor .u32 (Go.bits .xor .u32 t130 t132) ((rd x3_1 (ji30)) / 1024)) + (rd x3_1 (ji35))) % 4294967296) + (Go.bits .xor .u32 (Go.bits .xor .u32 t125 t127) ((rd x3_1 (ji25)) / 8))) % 4294967296) + (rd x3_1 (ji38))) % 4294967296) [.int .u32 (((((((Go.bits .xor .u32 (Go.bits .xor .u32 t130 t132) ((rd x3_1 (ji30)) / 1024)) + (rd x3_1 (ji35))) % 4294967296) + (Go.bits .xor .u32 (Go.bits .xor .u32 t125 t127) ((rd x3_1 (ji25)) / 8))) % 4294967296) + (rd x3_1 (ji38))) % 4294967296)] (fun _ => True) (fun _ => False) rfl rfl ?aP (fun _ hk => hk.elim) ?aF ?aO ?aB ?aS ?aL ?_
              (case aP => exact rfl)
              (case aB => exact (by repeat (first | (with_reducible first | exact HB.out | apply qa | apply qb | apply qc) | exact HB.out)))
              (case aF => exact (fun _ _ => trivial))
              (case aO => exact (by (with_reducible repeat (first | apply Kd.R_alloc | apply Kd.R_drewN | apply Kd.R_drew)); exact HO_3.out))
              (case aS => exact (below_size (by repeat (first | (with_reducible first | exact HB.out | apply qa | apply qb | apply qc) | exact HB.out))))
              (case aL => have := LMc41.out; omega)
              intro v137 w46 ho hb hg hat; rw [← Ny136.out] at ho; have n0_ := qf (hb); have n1_ := qf (ho); clear HB HO_3; have HB := n0_; have HO138 := n1_; clear n0_ n1_ ho hb hg hat; refine hK.out _ _ ?_; clear hK K; refine norm_ (a' := ?_) ?_ ?_; rotate_left
              ·show Act.put _ (some 103) _ = _
               simp only [Act.put, qs, qt, qu, i64_w, i32_w]; rfl
              refine qz 18 3 ?_ (bm 19 524287) rfl rfl HT_ (by kernel_rfl) (fun _ _ _ h => h) (by rfl) ?_ ?_ ?_ ?_; rotate_left; (intro w'; go_simp; with_reducible rfl); rotate_left; (simp only [Act.put, qs, qt, qu, i64_w, i32_w]; rfl); refine done_ (done_of HT_.out (by kernel_rfl)) ?_
              try go_wp2
              go_roundg k1
              case measure => have := HK1.out; omega
              case rel => exact ⟨(y136), (wrap64 (x4_1 + 1)), (by first | rfl | (simp; done) | (simp [*]; done)), H', ⟨by have := HK1.out; omega⟩, ⟨by (with_reducible repeat (first | apply Kd.R_alloc | apply Kd.R_drewN | apply Kd.R_drew)); exact HO138.out⟩, ⟨by repeat (first | (with_reducible first | exact HB.out | apply qa | apply qb | apply qc) | exact HB.out)⟩⟩
             ·rw [if_neg c41] at H; exact absurd H (by simp)
            ·rw [if_neg c40] at H; exact absurd H (by simp)
           ·rw [if_neg c39] at H; exact absurd H (by simp)
          ·rw [if_neg c37] at H; exact absurd H (by simp)
         ·rw [if_neg c36] at H; exact absurd H (by simp)
        ·rw [if_neg c32] at H; exact absurd H (by simp)
       ·rw [if_neg c31] at H; exact absurd H (by simp)
      ·rw [if_neg c27] at H; exact absurd H (by simp)
     ·rw [if_neg c26] at H; exact absurd H (by simp)
   ·rw [if_neg c4] at H; have c4b0 := decide_eq_false c4; clear c4; obtain rfl := Option.some.inj H; go_wp2; go_ret; exact ⟨_, by first | rfl | (simp [errW_none, errW_some] <;> rfl) | (simp [*, errW_none, errW_some] <;> rfl), by (with_reducible repeat (first | apply Kd.R_alloc | apply Kd.R_drewN | apply Kd.R_drew)); exact HO_3.out, by repeat (first | (with_reducible first | exact HB.out | apply qa | apply qb | apply qc) | exact HB.out)⟩
end Go.Proofs.YtolbhliepkcihaaGreatDoor.QR
end
section
namespace Go.Proofs.YtolbhliepkcihaaGreatDoor.QR
open Go.RowKit YtolbhliepkcihaaGreatDoorW.PrintWords YtolbhliepkcihaaGreatDoorW.PrintLast YtolbhliepkcihaaGreatDoorW.PrintMore
set_option maxHeartbeats 8000000 in
set_option maxRecDepth 100000 in
theorem bits_RotateLeft32.still (a0 : Int) (a1 : Int) (r : Int) (w : World) (h : bits_RotateLeft32.f a0 a1 = some r) :
  Calls Tryz.prog 110 #[.int .u32 a0, .int .i64 a1] w fun e w' => e = .returned (.int .u32 r) ∧ w' = w := by
 have H : (if 0 ≤ (Go.bits .and .u64 (IntKind.u64.wrap (a1)) 31) then (if 0 ≤ (IntKind.u64.wrap (32 - (Go.bits .and .u64 (IntKind.u64.wrap (a1)) 31))) then (some (Go.bits .or .u32 (shl .u32 a0 (Go.bits .and .u64 (IntKind.u64.wrap (a1)) 31)) (shr .u32 a0 (IntKind.u64.wrap (32 - (Go.bits .and .u64 (IntKind.u64.wrap (a1)) 31)))))) else (none)) else (none)) = some r := h; clear h
 obtain ⟨ji3, hji3⟩ : ∃ j_ : Int, (Go.bits .and .u64 (IntKind.u64.wrap (a1)) 31) = j_ := ⟨_, rfl⟩
 replace H : (if 0 ≤ (ji3) then (if 0 ≤ (IntKind.u64.wrap (32 - (ji3))) then (some (Go.bits .or .u32 (shl .u32 a0 (ji3)) (shr .u32 a0 (IntKind.u64.wrap (32 - (ji3)))))) else (none)) else (none)) = some r := by first | (rw [hji3] at H; exact H) | (simp only [hji3] at H ⊢; exact H)
 by_cases c4 : 0 ≤ (ji3)
 ·rw [if_pos c4] at H; have c4b0 := eq_true c4; have c4b1 := qj c4; clear c4
  obtain ⟨ji5, hji5⟩ : ∃ j_ : Int, (shl .u32 a0 (ji3)) = j_ := ⟨_, rfl⟩
  replace H : (if 0 ≤ (IntKind.u64.wrap (32 - (ji3))) then (some (Go.bits .or .u32 (ji5) (shr .u32 a0 (IntKind.u64.wrap (32 - (ji3)))))) else (none)) = some r := by first | (rw [hji5] at H; exact H) | (simp only [hji5] at H ⊢; exact H)
  have hji5_ : (IntKind.u32.wrap (a0 * 2 ^ min (ji3).toNat 32)) = ji5 := hji5; have hji5z : (ji3) ≤ 32 → (IntKind.u32.wrap (a0 * 2 ^ (ji3).toNat)) = ji5 := shl_small hji5
  obtain ⟨ji6, hji6⟩ : ∃ j_ : Int, (IntKind.u64.wrap (32 - (ji3))) = j_ := ⟨_, rfl⟩
  replace H : (if 0 ≤ (ji6) then (some (Go.bits .or .u32 (ji5) (shr .u32 a0 (ji6)))) else (none)) = some r := by first | (rw [hji6] at H; exact H) | (simp only [hji6] at H ⊢; exact H)
  by_cases c7 : 0 ≤ (ji6)
  ·rw [if_pos c7] at H; have c7b0 := eq_true c7; have c7b1 := qj c7; clear c7
   obtain ⟨ji8, hji8⟩ : ∃ j_ : Int, (shr .u32 a0 (ji6)) = j_ := ⟨_, rfl⟩
   replace H : (some (Go.bits .or .u32 (ji5) (ji8))) = some r := by first | (rw [hji8] at H; exact H) | (simp only [hji8] at H ⊢; exact H)
   have hji8_ : (a0 / 2 ^ min (ji6).toNat 32) = ji8 := hji8; have hji8z : (ji6) ≤ 32 → (a0 / 2 ^ (ji6).toNat) = ji8 := shr_small hji8; obtain rfl := Option.some.inj H
   go_enter Tryz.func110, Tryz.ntmps110
   go_wp2; go_ret; exact ⟨by first | rfl | (simp; done) | (simp only [← hji3, ← hji5, ← hji6, ← hji8] <;> (first | rfl | simp)) | (simp [*]; done), by rfl⟩
  ·rw [if_neg c7] at H; exact absurd H (by simp)
 ·rw [if_neg c4] at H; exact absurd H (by simp)
set_option maxHeartbeats 8000000 in
set_option maxRecDepth 100000 in
theorem sha_ror.still (a0 : Int) (a1 : Int) (r : Int) (w : World) (h : sha_ror.f a0 a1 = some r) :
  Calls Tryz.prog 101 #[.int .u32 a0, .int .i64 a1] w fun e w' => e = .returned (.int .u32 r) ∧ w' = w := by
 have H : ((bits_RotateLeft32.f a0 (wrap64 (-a1))).bind fun t101 => (some t101)) = some r := h; clear h; replace H := qi H; obtain ⟨t101, A30, H⟩ := H
 (try dsimp only at H)
 have A3 := qf A30; clear A30; obtain rfl := Option.some.inj H
 go_enter Tryz.func101, Tryz.ntmps101
 go_wp2_with (first | ((with_reducible refine gate_callee (f := 110) rfl ?_); refine goesL_ (some 8) rfl rfl Tryz.func110 (by kernel_rfl) rfl #[.int .u32 a0, .int .i64 (wrap64 (-a1))] rfl (by (try simp only [List.map_toArray, List.map_cons, List.map_nil]); first | done | rfl | (simp only [List.length_drop, qw]; rfl)) ?_; (with_reducible refine (bits_RotateLeft32.still a0 (wrap64 (-a1)) t101 _ A3.out).mono ?_); rintro e w' ⟨rfl, rfl⟩; refine ⟨_, rfl, ?_⟩))
 go_ret; exact ⟨by first | rfl | (simp; done) | (simp [*]; done), by rfl⟩
end Go.Proofs.YtolbhliepkcihaaGreatDoor.QR
end
