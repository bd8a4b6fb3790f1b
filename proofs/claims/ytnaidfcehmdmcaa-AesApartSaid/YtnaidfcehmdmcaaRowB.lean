/- A row of bytes that a call owns, whose frozen mark (if it has one) lies behind its cells: what []byte(s) leaves; and one byte more. -/
import Derived.Test.YtnaidfcehmdmcaaAesDone
import Derived.ArgAppend
import Derived.Laws.OwnMore
import Derived.Below
namespace Go.Proofs.Ytnaidfcehmdmcaa.Row
open Go.RowKit Go.Proofs.Ytnaidfcehmdmcaa.Mem Go.Proofs.Ytnaidfcehmdmcaa.AS
open Go.Proofs.YtnaidfcehmdmcaaW.PrintWords Go.Proofs.YtnaidfcehmdmcaaW.PrintLast Go.Proofs.YtnaidfcehmdmcaaW.PrintMore

structure RowB (w : World) (base g cap n : Nat) (f : Nat → Int) : Prop where
  base : base ≤ g
  lt : g < w.heap.size
  le : n ≤ cap
  max : cap ≤ maxLen
  cell : ∀ j, j < n → w.cell? ⟨g, j, none⟩ = some (.int .u8 (f j))
  spare : ∀ j, n ≤ j → j < cap → (w.cell? ⟨g, j, none⟩).isSome = true ∧ w.frozen? ⟨g, j, none⟩ = false

section
variable {w w' : World} {base g cap n : Nat} {f : Nat → Int}
theorem RowB.of_block (h : RowB w base g cap n f) (hs : w.heap.size ≤ w'.heap.size) (hb : w'.heap[g]? = w.heap[g]?) : RowB w' base g cap n f :=
  ⟨h.base, Nat.lt_of_lt_of_le h.lt hs, h.le, h.max, fun j hj => (World.cell?_of_block (a := ⟨g, j, none⟩) hb).trans (h.cell j hj), fun j h1 h2 => by
    rw [World.cell?_of_block (a := ⟨g, j, none⟩) hb, World.frozen?_of_block (a := ⟨g, j, none⟩) hb]; exact h.spare j h1 h2⟩
theorem RowB.grown {row : Option Nat} (h : RowB w base g cap n f) (hg : w.grownBy w' row) (hn : some g ≠ row) : RowB w' base g cap n f :=
  h.of_block hg.size (hg.block g h.lt hn)
theorem RowB.drew (h : RowB w base g cap n f) : RowB w.drew base g cap n f := h.of_block (Nat.le_refl _) rfl
theorem RowB.alloc (h : RowB w base g cap n f) (o : Obj) : RowB (w.alloc o) base g cap n f := h.of_block (by simp) (Below.heap_alloc w o g h.lt)
theorem RowB.far (h : RowB w base g cap n f) {p : Addr} (hp : g ≠ p.block) (u : Value) : RowB (w.setCell p u) base g cap n f := h.of_block (by simp [World.setCell]) (Below.heap_setCell w p u g hp)
theorem RowB.row_far (h : RowB w base g cap n f) {g' : Nat} (hp : g ≠ g') (cs : Array Value) : RowB (w.setRow g' cs) base g cap n f :=
  h.of_block (by simp [World.setRow]) (by simp [World.setRow, Array.getElem?_modify, Ne.symm hp])
theorem RowB.congr {f' : Nat → Int} (h : RowB w base g cap n f) (he : ∀ j, j < n → f j = f' j) : RowB w base g cap n f' :=
  ⟨h.base, h.lt, h.le, h.max, fun j hj => by rw [h.cell j hj, he j hj], h.spare⟩
end

theorem grownBy_setCells {w : World} {g : Nat} : ∀ (vs : List Value) (o : Nat) (w0 : World), w.grownBy w0 (some g) → w.grownBy (w0.setCells g o vs) (some g)
  | [], _, _, h => h
  | v :: r, o, w0, h => grownBy_setCells r (o + 1) _ ⟨h.os, h.tape, h.output, by simpa [World.setCell] using h.size, fun k hk hne => by
      rw [Below.heap_setCell w0 ⟨g, o, none⟩ v k (fun e => hne (by rw [e]))]; exact h.block k hk hne⟩

theorem below_grown {B : Nat} {w W w' : World} {g : Nat} (h : Below B w W) (hB : B ≤ W.heap.size) (hg : W.grownBy w' (some g)) (hb : B ≤ g) : Below B w w' :=
  ⟨hg.os.trans h.os, hg.tape.trans h.tape, hg.output.trans h.output, Nat.le_trans h.size hg.size, fun k hk => (hg.block k (by omega) (by simp; omega)).trans (h.block k hk)⟩

theorem byte_info : ∃ i z, Try.prog.info? 5 = some i ∧ i.zero = some z ∧ i.size = 1 ∧ i.bytes = 1 ∧ z.cells.size = 1 := by
  have h1 : (Try.prog.info? 5).map (·.zero) = some (some (.int .u8 0)) := by kernel_rfl
  have h2 : (Try.prog.info? 5).map (·.size) = some 1 := by kernel_rfl
  have h3 : (Try.prog.info? 5).map (·.bytes) = some 1 := by kernel_rfl
  cases hq : Try.prog.info? 5 with
  | none => rw [hq] at h2; cases h2
  | some i =>
    rw [hq] at h1 h2 h3
    exact ⟨i, .int .u8 0, rfl, by simpa using h1, by simpa using h2, by simpa using h3, rfl⟩

theorem append_rowB {w : World} {base g cap n : Nat} {f : Nat → Int} (h : RowB w base g cap n f) (hbase : base ≤ w.heap.size) (ad : Addr) (c : Nat) (ty : TypeId) (hc : w.cell? ad = some (.int .u8 (f n))) (hn : n < 1000000) :
    ∃ g' cap' w', (Builtin.append_ #[29, 29] ty #[.slice (some ⟨g, 0, none⟩) n cap, .slice (some ad) 1 c]).run Try.prog w = .ok (.slice (some ⟨g', 0, none⟩) (n + 1) cap') w' ∧ RowB w' base g' cap' (n + 1) f ∧ w.grownBy w' (some g) ∧ (g' = g ∨ w.heap.size ≤ g') ∧ (∀ j, j < n → w'.cell? ⟨g, j, none⟩ = some (.int .u8 (f j))) := by
  obtain ⟨i, z, hi, hz, hsz, hby, hzs⟩ := byte_info
  have hnews : ∀ j u, [Value.int .u8 (f n)][j]? = some u → w.cell? (ad.add j) = some u := by
    intro j u hu
    cases j with
    | zero => simp at hu; subst hu; simpa [Addr.add] using hc
    | succ j => simp at hu
  by_cases hr : n + 1 ≤ cap
  · have hrun := run_append_room_cells (P := Try.prog) w 29 ty 5 i Try.underlying29 hi g 0 n cap ad 1 c [.int .u8 (f n)] (by simp [hsz]) hnews (by simp [Value.oneCell']) hr
      (fun j hj => by simp at hj; subst hj; rw [hsz]; simpa using (h.spare n (Nat.le_refl _) hr).1)
      (fun j hj => by simp at hj; subst hj; rw [hsz]; simpa using (h.spare n (Nat.le_refl _) hr).2)
    rw [hsz, Nat.zero_add, Nat.mul_one] at hrun
    refine (fun hR : RowB (w.setCells g n [.int .u8 (f n)]) base g cap (n + 1) f => ?_) ?_
    · exact ⟨g, cap, _, hrun, hR, grownBy_setCells _ _ _ ⟨rfl, rfl, rfl, Nat.le_refl _, fun _ _ _ => rfl⟩, .inl rfl, fun j hj => hR.cell j (by omega)⟩
    have hG : w.grownBy (w.setCells g n [.int .u8 (f n)]) (some g) := grownBy_setCells _ _ _ ⟨rfl, rfl, rfl, Nat.le_refl _, fun _ _ _ => rfl⟩
    refine ⟨h.base, Nat.lt_of_lt_of_le h.lt hG.size, hr, h.max, fun j hj => ?_, fun j h1 h2 => ?_⟩
    · by_cases e : j = n
      · subst e
        have := World.cell?_setCells_in g [.int .u8 (f j)] j w (fun k hk => by simp at hk; subst hk; simpa using (h.spare j (Nat.le_refl _) hr).1) 0 (by simp)
        simpa using this
      · rw [World.cell?_setCells_out g _ _ _ _ (fun _ _ => by simp; omega)]
        exact h.cell j (by omega)
    · rw [World.cell?_setCells_out g _ _ _ _ (fun _ _ => by simp; omega), World.frozen?_setCells]
      exact h.spare j (by omega) h2
  · obtain ⟨v', w', hrun, hown, hgr⟩ := run_append_arg_grows (P := Try.prog) w 29 ty 5 i z 1 1 Try.underlying29 hi hz hsz hby hzs (by decide) ⟨g, 0, none⟩ n cap ((List.range n).map fun j => .int .u8 (f j)) (by simp)
      (fun j u hu => by
        have hj : j < n := by have := (List.getElem?_eq_some_iff.1 hu).1; simpa using this
        have hadd : (⟨g, 0, none⟩ : Addr).add j = ⟨g, j, none⟩ := by unfold Addr.add; split <;> simp_all
        rw [hadd, h.cell j hj, ← hu]; simp [List.getElem?_range hj]) ad 1 c [.int .u8 (f n)] (by simp) hnews (by omega) (by simp only [maxLen]; omega) (by omega)
    rcases hown.2 with ⟨_, h0⟩ | ⟨g', cap', cur, rfl, hb, hg, hnc, hcm, hcs, htake⟩
    · omega
    · refine ⟨g', cap', w', hrun, ⟨Nat.le_trans hbase hb, (Array.getElem?_eq_some_iff.1 hg).1, hnc, hcm, fun j hj => ?_, fun j h1 h2 => ?_⟩, ⟨hgr.os, hgr.tape, hgr.output, hgr.size, fun k hk _ => hgr.block k hk (by simp)⟩, .inr hb, fun j hj => (World.cell?_of_block (a := ⟨g, j, none⟩) (hgr.block g h.lt (by simp))).trans (h.cell j hj)⟩
      · rw [hown.cellAt j (by omega)]
        by_cases e : j = n
        · subst e; rw [List.getElem?_append_right (by simp)]; simp
        · rw [List.getElem?_append_left (by simp; omega)]; simp [List.getElem?_range (show j < n by omega)]
      · refine ⟨?_, by simp [World.frozen?, hg]⟩
        rw [cell_of_row w' g' j cur 5 (0, 0) hg]
        simp; omega

theorem wpList_append_rowB {ops : Array Oper} {rest : List Oper} {o : Oper} {a : Act} {w : World} {Q : Exit → Act → World → Prop} (hgd : o.guard = none) (s x : Operand)
    (ho : o.op = .call { callee := .builtin .append, args := #[s, x], argTypes := #[29, 29] }) {base g cap n : Nat} {f : Nat → Int} (h : RowB w base g cap n f) (hs : a.eval s = .slice (some ⟨g, 0, none⟩) n cap)
    (hbase : base ≤ w.heap.size) (ad : Addr) (c : Nat) (hx : a.eval x = .slice (some ad) 1 c) (hc : w.cell? ad = some (.int .u8 (f n))) (hn : n < 1000000)
    (hK : ∀ g' cap' w', RowB w' base g' cap' (n + 1) f → w.grownBy w' (some g) → (g' = g ∨ w.heap.size ≤ g') → (∀ j, j < n → w'.cell? ⟨g, j, none⟩ = some (.int .u8 (f j))) → wpList Try.prog ops Q rest (a.put o.dst (.slice (some ⟨g', 0, none⟩) (n + 1) cap')) w') : wpList Try.prog ops Q (o :: rest) a w := by
  refine wpList_plain hgd fun K hK' => ?_
  obtain ⟨g', cap', w', hrun, h1, h2, h3, h4⟩ := append_rowB h hbase ad c o.type hc hn
  unfold Oper.wp
  simp [execOp, ho, resolve, invoke, builtin, hs, hx, hrun, Result.andThen]
  exact hK' _ _ (hK g' cap' w' h1 h2 h3 h4)

theorem step_append_rowB {ops : Array Oper} {o : Oper} {a : Act} {w : World} {K : Act → World → Prop} {Q : Exit → Act → World → Prop} {E : Prop} (hgd : o.guard = none) (s x : Operand)
    (ho : o.op = .call { callee := .builtin .append, args := #[s, x], argTypes := #[29, 29] }) {base g cap n : Nat} {f : Nat → Int} (h : RowB w base g cap n f) (hs : a.eval s = .slice (some ⟨g, 0, none⟩) n cap)
    (hbase : base ≤ w.heap.size) (ad : Addr) (c : Nat) (hx : a.eval x = .slice (some ad) 1 c) (hc : w.cell? ad = some (.int .u8 (f n))) (hn : n < 1000000)
    (hK : ∀ g' cap' w', RowB w' base g' cap' (n + 1) f → w.grownBy w' (some g) → (g' = g ∨ w.heap.size ≤ g') → (∀ j, j < n → w'.cell? ⟨g, j, none⟩ = some (.int .u8 (f j))) → K (a.put o.dst (.slice (some ⟨g', 0, none⟩) (n + 1) cap')) w') :
    if Region.wanted o (yielded ops a.tmps) = true then Oper.wp Try.prog o a w K Q else E := by
  have hw : Region.wanted o (yielded ops a.tmps) = true := by simp [Region.wanted, hgd]
  rw [if_pos hw]
  obtain ⟨g', cap', w', hrun, h1, h2, h3, h4⟩ := append_rowB h hbase ad c o.type hc hn
  unfold Oper.wp
  simp [execOp, ho, resolve, invoke, builtin, hs, hx, hrun, Result.andThen]
  exact hK g' cap' w' h1 h2 h3 h4

theorem bytes_rowB (w : World) (s : ByteArray) (hs : s.size ≤ maxLen) : RowB (Lib.bytesWorld w 5 s) w.heap.size w.heap.size (grownCap w s.size 0 5) s.size (fun i => bt s i) := by
  have hz : (Lib.bytesCells w 5 s).size = grownCap w s.size 0 5 := by
    have := grownCap_ge w s.size 0 5
    simp [Lib.bytesCells]; omega
  refine ⟨Nat.le_refl _, by rw [Lib.bytesWorld_size]; omega, grownCap_ge w s.size 0 5, grownCap_le_maxLen w s.size 0 5 hs, fun j hj => ?_, fun j h1 h2 => ?_⟩
  · rw [Lib.bytesWorld_cell w 5 s j hj, data_at s j hj]
  · have hg := Lib.bytesWorld_at_new w 5 s
    constructor
    · rw [World.cell?, hg]; simp; omega
    · simp [World.frozen?, hg]; omega
end Go.Proofs.Ytnaidfcehmdmcaa.Row
