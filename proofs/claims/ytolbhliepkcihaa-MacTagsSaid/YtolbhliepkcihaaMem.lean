/- Words for memory: a block that is known whole; arrays of bytes as functions of the place. -/
import Derived.Test.YtolbhliepkcihaaProg
import Derived.WalkKit
import Derived.Below
import Derived.Deep.Draws
import Derived.LoopTactic
import Derived.Laws.Tables
import Derived.Laws.Rows
namespace Go.Proofs.Ytolbhliepkcihaa.Mem
open Go.RowKit

/-- block g is just the cells cs of element type t, none frozen -/
def Blk (w : World) (g : Nat) (t : TypeId) (cs : Array Value) : Prop := w.heap[g]? = some (.cells cs t (0, 0))
section
variable {w w' : World} {g : Nat} {t : TypeId} {cs : Array Value}
theorem Blk.cell (h : Blk w g t cs) (i : Nat) : w.cell? ⟨g, i, none⟩ = cs[i]? := by unfold Blk at h; simp [World.cell?, h]
theorem Blk.frozen (h : Blk w g t cs) (i : Nat) : w.frozen? ⟨g, i, none⟩ = false := by unfold Blk at h; simp [World.frozen?, h]
theorem Blk.set_ (h : Blk w g t cs) (i : Nat) (u : Value) : Blk (w.setCell ⟨g, i, none⟩ u) g t (cs.setIfInBounds i u) := by
  unfold Blk at h ⊢
  simp [World.setCell, Array.getElem?_modify, h]
theorem Blk.drewN (h : Blk w g t cs) (n : Nat) : Blk (w.drewN n) g t cs := h
theorem Blk.drew (h : Blk w g t cs) : Blk w.drew g t cs := h
theorem Blk.lt (h : Blk w g t cs) : g < w.heap.size := by
  rcases Nat.lt_or_ge g w.heap.size with hlt | hge
  · exact hlt
  · unfold Blk at h; rw [Array.getElem?_eq_none hge] at h; cases h
theorem Blk.new (w : World) (t : TypeId) (cs : Array Value) : Blk (w.alloc (.cells cs t)) w.heap.size t cs := heap_alloc_new w _
theorem Blk.alloc (h : Blk w g t cs) (o : Obj) : Blk (w.alloc o) g t cs := (Below.heap_alloc w o g h.lt).trans h
theorem Blk.far (h : Blk w g t cs) {p : Addr} (hp : g ≠ p.block) (u : Value) : Blk (w.setCell p u) g t cs := (Below.heap_setCell w p u g hp).trans h
theorem Blk.below {B : Nat} (h : Blk w g t cs) (hb : Below B w w') (hg : g < B) : Blk w' g t cs := (hb.block g hg).trans h
theorem Blk.row (h : Blk w g t cs) (cs' : Array Value) : Blk (w.setRow g cs') g t cs' := by
  unfold Blk at h ⊢
  simp [World.setRow, Array.getElem?_modify, h]
theorem Blk.row_far (h : Blk w g t cs) {g' : Nat} (hp : g ≠ g') (cs' : Array Value) : Blk (w.setRow g' cs') g t cs := by
  unfold Blk at h ⊢
  simp [World.setRow, Array.getElem?_modify, Ne.symm hp, h]
end
theorem below_row {B : Nat} {w w' : World} (h : Below B w w') {g : Nat} (hg : B ≤ g) (cs : Array Value) : Below B w (w'.setRow g cs) :=
  ⟨h.os, h.tape, h.output, by simpa [World.setRow] using h.size, fun i hi => by
    rw [← h.block i hi]
    simp [World.setRow, Array.getElem?_modify, show g ≠ i by omega]⟩

/-- cells of a kind, by their places -/
def ar (n : Nat) (f : Nat → Value) : Array Value := ((List.range n).map f).toArray
theorem ar_size (n : Nat) (f : Nat → Value) : (ar n f).size = n := by simp [ar]
theorem ar_at {n i : Nat} (f : Nat → Value) (hi : i < n) : (ar n f)[i]? = some (f i) := by simp [ar, List.getElem?_range hi]
theorem ar_out {n i : Nat} (f : Nat → Value) (hi : n ≤ i) : (ar n f)[i]? = none := by simp [ar]; omega
theorem ar_ext {n : Nat} {f g : Nat → Value} (h : ∀ i, i < n → f i = g i) : ar n f = ar n g := by
  unfold ar
  congr 1
  exact List.map_congr_left fun i hi => h i (List.mem_range.1 hi)
theorem ar_set {n k : Nat} (f : Nat → Value) (v : Value) (hk : k < n) : (ar n f).setIfInBounds k v = ar n (fun i => if i = k then v else f i) := by
  apply Array.ext_getElem?
  intro i
  rw [Array.getElem?_setIfInBounds]
  by_cases hi : i < n
  · rw [ar_at _ hi, ar_at _ hi]
    by_cases h : k = i
    · subst h; rw [if_pos rfl, if_pos rfl, if_pos (by rw [ar_size]; exact hi)]
    · rw [if_neg h, if_neg (Ne.symm h)]
  · rw [ar_out _ (by omega), ar_out _ (by omega), if_neg (by omega)]
theorem ar_of {n : Nat} {cs : Array Value} (f : Nat → Value) (hs : cs.size = n) (h : ∀ i, i < n → cs[i]? = some (f i)) : cs = ar n f := by
  apply Array.ext_getElem?
  intro i
  by_cases hi : i < n
  · rw [h i hi, ar_at _ hi]
  · rw [ar_out _ (by omega), Array.getElem?_eq_none (by omega)]

/-- numbers of a kind -/
def ka (k : IntKind) (n : Nat) (f : Nat → Int) : Array Value := ar n fun i => .int k (f i)
theorem ka_size (k : IntKind) (n : Nat) (f : Nat → Int) : (ka k n f).size = n := ar_size ..
theorem ka_at {k : IntKind} {n i : Nat} (f : Nat → Int) (hi : i < n) : (ka k n f)[i]? = some (.int k (f i)) := ar_at _ hi
theorem ka_ext {k : IntKind} {n : Nat} {f g : Nat → Int} (h : ∀ i, i < n → f i = g i) : ka k n f = ka k n g := ar_ext fun i hi => by rw [h i hi]
theorem ka_set {q : IntKind} {n k : Nat} (f : Nat → Int) (v : Int) (hk : k < n) : (ka q n f).setIfInBounds k (.int q v) = ka q n (fun i => if i = k then v else f i) := by
  unfold ka
  rw [ar_set _ _ hk]
  exact ar_ext fun i _ => by dsimp only; split <;> rfl
theorem ka_one (k : IntKind) (n : Nat) (f : Nat → Int) : (ka k n f).all (·.oneCell') = true := by
  rw [Array.all_eq_true_iff_forall_mem]
  intro v hv
  simp only [ka, ar, List.mem_toArray, List.mem_map] at hv
  obtain ⟨i, _, rfl⟩ := hv
  rfl
/-- what a callee leaves, joined to what was left before -/
theorem Bel.step {w w1 w2 : World} (h : Below w.heap.size w w1) (h' : Below w1.heap.size w1 w2) : Below w.heap.size w w2 := h.trans (h'.mono h.size)
theorem below_drew {B : Nat} {w W : World} (h : Below B w W) : Below B w W.drew := ⟨h.os, h.tape, h.output, h.size, h.block⟩
theorem below_drewN {B : Nat} {w W : World} (h : Below B w W) (n : Nat) : Below B w (W.drewN n) := ⟨h.os, h.tape, h.output, h.size, h.block⟩
end Go.Proofs.Ytolbhliepkcihaa.Mem
