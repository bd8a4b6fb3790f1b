/- A range over an iterator that never ends by itself: the loop's body leaves it, behind so many rounds. -/
import Derived.RangeFuncNested
import Derived.RangeFuncBound
import Derived.RangeFuncCalls
import Derived.RangeFuncLeaves
namespace Go.Proofs.Ytolbhliepkcihaa.Until
open Go.RowKit
variable {F : Fence} {n : Nat} {P : Program}

/-- The iterator's contract: round k is handed 'enc k'; the caller's own condition holds of the round's number and the world, and never of N or more: so some round says 'no more'. -/
def SeqUntil (F : Fence) (n : Nat) (P : Program) (g : Nat) (lb : Array Value) (enc : Nat → Value) (N : Nat) (n₀ : Nat) : Prop :=
  ∀ (l : Nat) (J : Nat → World → Prop) (Jx : World → Prop) (W : World), n₀ ≤ W.heap.size → AbidesFrom W.heap.size J → (∀ k W1, J k W1 → k < N) →
    (∀ k W1, J k W1 → YieldAt F (n - 1) P l #[enc k] W1 fun e W' => (e = .returned (.bool true) ∧ J (k + 1) W' ∧ Below n₀ W1 W') ∨ (e = .returned (.bool false) ∧ Jx W')) →
    J 0 W → CallsIn F n P g (#[.func (.yield l) #[] #[]] ++ lb) W fun e W' => (∃ v, e = .returned v) ∧ Jx W'

/-- How the body of a round may be left. -/
def leftBy (B : Nat) (n₀ : Nat) (I : Nat → World → Prop) (Ix : Nat → World → Prop) (k : Nat) (W : World) : Exit → Act → World → Prop
  | .normal, _, W' => KeepsFrom B W W' ∧ Below n₀ W W' ∧ I (k + 1) W'
  | .exit id, _, W' => KeepsFrom B W W' ∧ Ix id W'
  | _, _, _ => False

theorem wpIn_until {g : Operand} {ps : Array Tmp} {assign body : Code} {Q : Exit → Act → World → Prop} {a : Act} {w : World}
    (hro : F.round = none) (h1 : 1 ≤ n) {gf : Nat} {lb : Array Value} (hg : a.eval g = .func (.func gf) #[] lb) (hFg : F.fn gf) (eg : ∀ args w, (callFunc gf args).run P w = .ok (.enter gf args) w)
    {enc : Nat → Value} {N n₀ : Nat} (hseq : SeqUntil F (n - 1) P gf lb enc N n₀) (hn₀ : n₀ ≤ w.heap.size) (hps : ps.size = 1)
    (I : Nat → World → Prop) (Ix : Nat → World → Prop) (hI : OwnFrom w.heap.size I) (hIx : OwnFrom w.heap.size Ix) (hN : ∀ k W, I k W → k < N) (h0 : I 0 w) (a₁ : Nat → Act)
    (hassign : ∀ (l : Nat) (k : Nat) (W : World) (K : Act → World → Prop), K (a₁ k) W →
      assign.wpIn (F.inRound l) (n - 1 - 1) P (Exit.then K (fun _ _ _ => False)) { tmps := (ps.zip #[enc k]).foldl (fun t (p, v) => t.setIfInBounds p v) a.tmps, defers := [] } W)
    (hbody : ∀ (l : Nat) (k : Nat) (W : World), I k W → body.wpIn (F.inRound l) (n - 1 - 1) P (leftBy w.heap.size n₀ I Ix k W) (a₁ k) W)
    (hstop : ∀ (D : Nat) (id : Nat) (W : World), w.heap.size ≤ D → Ix id W → W.heap[D]? = some (.deferred (some [])) → (Code.exit id).wpIn F n P Q { a with defers := { target := .collected D, args := #[] } :: a.defers } W) :
    (Code.rangeFunc g ps assign body).wpIn F n P Q a w := by
  refine wpIn_rangeFunc fun fn hfn => ?_
  rw [hro]
  let D := w.heap.size
  let L := w.heap.size + 1
  let rc : LoopState → Option Code → Loop := fun st pe => { state := st, pending := pe, fn, tmps := a.tmps, params := ps, assign, body, defers := D }
  obtain ⟨W1, hW1⟩ : ∃ W1, (w.alloc (.deferred (some []))).alloc (.loop (rc .ready none)) = W1 := ⟨_, rfl⟩
  have hL1 : W1.heap[L]? = some (.loop (rc .ready none)) := by
    rw [← hW1]; have := World.alloc_heap_new (w.alloc (.deferred (some []))) (.loop (rc .ready none)); rwa [World.size_alloc] at this
  have hD1 : W1.heap[D]? = some (.deferred (some [])) := by
    rw [← hW1]; exact (Below.heap_alloc _ _ _ (by simp [D])).trans (World.alloc_heap_new w _)
  have hz1 : W1.heap.size = w.heap.size + 2 := by rw [← hW1]; simp
  have hI1 : I 0 W1 := by rw [← hW1]; exact hI.alloc _ (hI.alloc _ h0)
  refine ⟨L, [{ target := .collected D, args := #[] }], W1, { target := .fn (.func gf) lb, args := #[.func (.yield L) #[] #[]] }, W1, gf, #[.func (.yield L) #[] #[]] ++ lb, W1, ?_, ?_, ?_, ?_, fun _ => h1, ?_⟩
  · rw [← hW1]; exact run_enterLoop_outer _ _ _ _ _
  · simp only [resolve, hg]; simp [go_sem]
  · intro f' hf'; simp [Target.leads] at hf'; subst hf'; exact hFg
  · simp [invoke, go_sem, eg]
  · refine (hseq L (fun k W => I k W ∧ W.heap[L]? = some (.loop (rc .ready none)) ∧ W.heap[D]? = some (.deferred (some [])))
      (fun W => ∃ id, Ix id W ∧ W.heap[L]? = some (.loop (rc .done (some (.exit id)))) ∧ W.heap[D]? = some (.deferred (some [])))
      W1 (by omega) ?_ (fun k W h => hN k W h.1) ?_ ⟨hI1, hL1, hD1⟩).mono ?_
    · intro s A B row hs hg' hr
      refine ⟨hI s A B row hs.1 hg' (fun r e => ?_), (grownBy_keeps hg' (fun r e => (hr r e).2) hs.2.1 rfl).trans hs.2.1, (grownBy_keeps hg' (fun r e => (hr r e).2) hs.2.2 rfl).trans hs.2.2⟩
      obtain ⟨hB, o, ho, hw⟩ := hr r e
      exact ⟨by omega, o, ho, Obj.not_cells_of_walk hw⟩
    · rintro k W ⟨hi, hl, hd⟩
      have hlt : L < W.heap.size := (Array.getElem?_eq_some_iff.1 hl).1
      refine ⟨fn, _, assign, body, run_yield (P := P) (args := #[enc k]) hl (by simp [rc, hps]), roundIn_of_wpIn hfn (hassign _ k W _ ⟨_, run_beginRound hl rfl, ?_⟩)⟩
      have hl2 : (W.putObj L (.loop { rc .ready none with state := .busy })).heap[L]? = some (.loop { rc .ready none with state := .busy }) := World.putObj_heap_same hlt
      have hd2 : (W.putObj L (.loop { rc .ready none with state := .busy })).heap[D]? = some (.deferred (some [])) := (World.putObj_heap_other (by simp [D, L])).trans hd
      have hk1 : Below n₀ W (W.putObj L (.loop { rc .ready none with state := .busy })) := (Below.refl n₀ W).grown (grownBy_putObj' W L _) (by simp [L] at hlt; omega) (fun j e => by cases e; simp [L]; omega)
      refine wpIn_mono (hbody _ k _ (hI.putObj _ hi (by simp [L]) hl rfl)) ?_
      intro e a3 W3 hp
      have fin : ∀ (jump : Option Code), KeepsFrom w.heap.size (W.putObj L (.loop { rc .ready none with state := .busy })) W3 →
          (Instr.endRound L jump).run P W3 = .ok (.bool jump.isNone) (W3.putObj L (.loop (rc (if jump.isNone then .ready else .done) jump))) ∧ W3.heap[L]? = some (.loop { rc .ready none with state := .busy }) ∧
          (W3.putObj L (.loop (rc (if jump.isNone then .ready else .done) jump))).heap[L]? = some (.loop (rc (if jump.isNone then .ready else .done) jump)) ∧
          (W3.putObj L (.loop (rc (if jump.isNone then .ready else .done) jump))).heap[D]? = some (.deferred (some [])) := fun jump hk3 => by
        have hl3 := hk3.same _ _ (by simp [L]) hl2 rfl
        exact ⟨run_endRound (P := P) jump hl3, hl3, World.putObj_heap_same (Array.getElem?_eq_some_iff.1 hl3).1, (World.putObj_heap_other (by simp [D, L])).trans (hk3.same _ _ (by simp [D]) hd2 rfl)⟩
      cases e with
      | normal =>
        obtain ⟨hk3, hb3, hi3⟩ := hp
        obtain ⟨hr, hl3, hl4, hd4⟩ := fin none hk3
        refine ⟨_, _, hr, .inl ⟨rfl, ⟨hI.putObj _ hi3 (by simp [L]) hl3 rfl, hl4, hd4⟩, (hk1.trans hb3).trans ?_⟩⟩
        exact (Below.refl n₀ W3).grown (grownBy_putObj' W3 L _) (by have := (Array.getElem?_eq_some_iff.1 hl3).1; simp [L] at this; omega) (fun j e => by cases e; simp [L]; omega)
      | exit id =>
        obtain ⟨hk3, hi3⟩ := hp
        obtain ⟨hr, hl3, hl4, hd4⟩ := fin (some (.exit id)) hk3
        exact ⟨_, _, hr, .inr ⟨rfl, id, hIx.putObj _ hi3 (by simp [L]) hl3 rfl, hl4, hd4⟩⟩
      | ret => exact hp.elim
      | goto t => exact hp.elim
      | panic ch => exact hp.elim
      | outgrown => exact hp.elim
    · rintro e W2 ⟨⟨v, rfl⟩, id, hi, hl, hd⟩
      exact ⟨some (.exit id), _, run_endLoop (P := P) hl (by simp [rc]), hstop _ id _ (Nat.le_refl _) (hIx.putObj _ hi (by simp [L]) hl rfl) ((World.putObj_heap_other (by simp [D, L])).trans hd)⟩
end Go.Proofs.Ytolbhliepkcihaa.Until
