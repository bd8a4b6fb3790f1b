/- trust.Boot and trust.Commit: their contracts, in the form that the printed texts call. -/
import Derived.Test.YtnaidfcehmdmcaaTrustStub
import Derived.Outline
namespace Go.Proofs.Ytnaidfcehmdmcaa
open Go.RowKit Go.Proofs.YtnaidfcehmdmcaaW.PrintWords Go.Proofs.YtnaidfcehmdmcaaW.PrintLast Go.Proofs.YtnaidfcehmdmcaaW.PrintMore
open Go.Proofs.Ytnaidfcehmdmcaa.Mem Go.Proofs.Ytnaidfcehmdmcaa.TS

def rightB (b : Int) (k : ByteArray) : Bool := (k.size == 16 || k.size == 32) && decide (b ≤ 4294967295)
theorem right_any (c b : Int) (k : ByteArray) (w : World) : Calls Try.prog 58 #[.agg (tr c b k)] w fun e w' => e = .returned (.bool (rightB b k)) ∧ Below w.heap.size w w' := by
  refine PTrustSlots.trust_right.calls c b k (rightB b k) w ?_
  unfold PTrustSlots.trust_right.f rightB
  by_cases h16 : k.size = 16
  · rw [if_pos (by omega), h16]; rfl
  · rw [if_neg (by omega)]
    by_cases h32 : k.size = 32
    · rw [if_pos (by omega), h32]; rfl
    · rw [if_neg (by omega)]
      have e1 : (k.size == 16) = false := beq_eq_false_iff_ne.2 h16
      have e2 : (k.size == 32) = false := beq_eq_false_iff_ne.2 h32
      rw [e1, e2]; rfl
def trust_Boot.f (c b : Int) (k : ByteArray) : Option (Int × Int × ByteArray × Int) :=
  if 0 ≤ b then (if rightB b k = true then (if b = 4294967295 then some (0, 0, ⟨#[]⟩, 2) else some (c, b + 1, k, 0)) else some (0, 0, ⟨#[]⟩, 1)) else none
def trust_Commit.f (c b : Int) (k : ByteArray) (n : Int) : Option (Int × Int × ByteArray × Int) :=
  if rightB b k = true then (if n ≤ c then some (0, 0, ⟨#[]⟩, 2) else some (n, b, k, 0)) else some (0, 0, ⟨#[]⟩, 1)

section
set_option maxRecDepth 100000
set_option maxHeartbeats 4000000
theorem boot_walk (c b : Int) (k : ByteArray) (c' b' : Int) (k' : ByteArray) (code : Int) (w : World)
    (ht : ∀ W : World, Blk W w.heap.size 48 (tr c b k) → Calls Try.prog 59 #[.agg (tr c b k), .func (.func 60) #[] #[.pointer (some ⟨w.heap.size, 0, none⟩)]] W fun e w' => e = .returned (.tuple #[.agg (tr c' b' k'), .int .i64 code]) ∧ W.grownBy w' (some w.heap.size)) :
    Calls Try.prog 40 #[.agg (tr c b k)] w fun e w' => e = .returned (.tuple #[.agg (tr c' b' k'), .int .i64 code]) ∧ Below w.heap.size w w' := by
  have G1 := Lib.hid ((Blk.new w 48 (tr c b k)).alloc (.cells z48 48))
  have g2 := Blk.new (w.alloc (.cells (tr c b k) 48)) 48 z48
  rw [World.size_alloc] at g2
  have G2 := Lib.hid g2
  have G3 := Lib.hid (((Below.refl w.heap.size w).alloc (Nat.le_refl _) (.cells (tr c b k) 48)).alloc (by simp) (.cells z48 48))
  have HT := Lib.hid ht
  have hmf : ∀ (fn : Fn) (first cap : Array Value) (w : World), (Instr.makeFunc fn first cap).run Try.prog w = .ok (.func fn first cap) w := fun _ _ _ _ => rfl
  clear ht g2
  go_enter Try.func40, Try.ntmps40
  go_wp2_with (first | (refine wpList_load_row rfl 48 _ rfl w.heap.size rfl 48 _ (0, 0) _ G1.out Try.underlying48 rfl (size48 _ _ _) ?_))
  refine (HT.out _ G1.out).mono ?_
  rintro e w2 ⟨rfl, hb2⟩
  have F1 := Lib.hid (G3.out.grown hb2 G3.out.size (fun k e => by injection e with e; omega))
  have F2 : Hid (Blk w2 (w.heap.size + 1) 48 z48) := Lib.hid ((hb2.block _ G2.out.lt (by intro e; injection e with e; omega)).trans G2.out)
  clear hb2 hmf
  go_wp2_with (first | (refine wpList_store_row rfl 48 _ _ rfl (w.heap.size + 1) _ rfl rfl 48 _ F2.out (size48 _ _ _) rfl (one48 _ _ _) ?_))
  exact bodyPost_ret (results_cell_row2 rfl _ _ (w.heap.size + 1) 48 _ (0, 0) _ rfl (F2.out.row _) Try.underlying48 rfl (size48 _ _ _)) rfl ⟨rfl, below_row F1.out (by omega) _⟩
theorem commit_walk (c b : Int) (k : ByteArray) (n : Int) (c' b' : Int) (k' : ByteArray) (code : Int) (w : World)
    (ht : ∀ W : World, Blk W w.heap.size 48 (tr c b k) → Blk W (w.heap.size + 1) 46 #[.int .u64 n] → Calls Try.prog 59 #[.agg (tr c b k), .func (.func 61) #[] #[.pointer (some ⟨w.heap.size + 1, 0, none⟩), .pointer (some ⟨w.heap.size, 0, none⟩)]] W fun e w' => e = .returned (.tuple #[.agg (tr c' b' k'), .int .i64 code]) ∧ W.grownBy w' (some w.heap.size)) :
    Calls Try.prog 41 #[.agg (tr c b k), .int .u64 n] w fun e w' => e = .returned (.tuple #[.agg (tr c' b' k'), .int .i64 code]) ∧ Below w.heap.size w w' := by
  have G1 := Lib.hid (((Blk.new w 48 (tr c b k)).alloc (.cells #[.int .u64 n] 46)).alloc (.cells z48 48))
  have g2 := (Blk.new (w.alloc (.cells (tr c b k) 48)) 46 #[.int .u64 n]).alloc (.cells z48 48)
  rw [World.size_alloc] at g2
  have G2 := Lib.hid g2
  have g4 := Blk.new ((w.alloc (.cells (tr c b k) 48)).alloc (.cells #[.int .u64 n] 46)) 48 z48
  rw [World.size_alloc, World.size_alloc] at g4
  have G4 := Lib.hid g4
  have G3 := Lib.hid ((((Below.refl w.heap.size w).alloc (Nat.le_refl _) (.cells (tr c b k) 48)).alloc (by simp) (.cells #[.int .u64 n] 46)).alloc (by simp; omega) (.cells z48 48))
  have HT := Lib.hid ht
  have hmf : ∀ (fn : Fn) (first cap : Array Value) (w : World), (Instr.makeFunc fn first cap).run Try.prog w = .ok (.func fn first cap) w := fun _ _ _ _ => rfl
  clear ht g2 g4
  go_enter Try.func41, Try.ntmps41
  go_wp2_with (first | (refine wpList_load_row rfl 48 _ rfl w.heap.size rfl 48 _ (0, 0) _ G1.out Try.underlying48 rfl (size48 _ _ _) ?_))
  refine (HT.out _ G1.out G2.out).mono ?_
  rintro e w2 ⟨rfl, hb2⟩
  have F1 := Lib.hid (G3.out.grown hb2 G3.out.size (fun k e => by injection e with e; omega))
  have F2 : Hid (Blk w2 (w.heap.size + 1 + 1) 48 z48) := Lib.hid ((hb2.block _ G4.out.lt (by intro e; injection e with e; omega)).trans G4.out)
  clear hb2 hmf
  go_wp2_with (first | (refine wpList_store_row rfl 48 _ _ rfl (w.heap.size + 1 + 1) _ rfl rfl 48 _ F2.out (size48 _ _ _) rfl (one48 _ _ _) ?_))
  exact bodyPost_ret (results_cell_row2 rfl _ _ (w.heap.size + 1 + 1) 48 _ (0, 0) _ rfl (F2.out.row _) Try.underlying48 rfl (size48 _ _ _)) rfl ⟨rfl, below_row F1.out (by omega) _⟩
end
theorem trust_Boot.calls (a0_0 : Int) (a0_1 : Int) (a0_2 : ByteArray) (r1 : Int) (r2 : Int) (r3 : ByteArray) (r4 : Int) (w : World) (h : trust_Boot.f a0_0 a0_1 a0_2 = some (r1, r2, r3, r4)) :
    Calls Try.prog 40 #[.agg #[.int .u64 a0_0, .int .u64 a0_1, .string a0_2]] w fun e w' => e = .returned (.tuple #[.agg #[.int .u64 r1, .int .u64 r2, .string r3], .int .i64 r4]) ∧ Below w.heap.size w w' := by
  unfold trust_Boot.f at h
  by_cases h0 : 0 ≤ a0_1
  · rw [if_pos h0] at h
    cases hr : rightB a0_1 a0_2 with
    | true =>
      rw [hr, if_pos rfl] at h
      have hR := fun W => hr ▸ right_any a0_0 a0_1 a0_2 W
      by_cases h1 : a0_1 = 4294967295
      · rw [if_pos h1] at h
        injection h with h; obtain ⟨rfl, rfl, rfl, rfl⟩ := h
        exact boot_walk a0_0 a0_1 a0_2 0 0 ⟨#[]⟩ 2 w fun W hB => told60 _ a0_0 a0_1 a0_2 0 0 ⟨#[]⟩ 2 W hB.lt hR fun W' hb => boot60_no _ a0_0 a0_1 a0_2 W' (hB.below hb hB.lt) (beq_iff_eq.2 h1)
      · rw [if_neg h1] at h
        injection h with h; obtain ⟨rfl, rfl, rfl, rfl⟩ := h
        have h2 : a0_1 ≤ 4294967295 := by
          unfold rightB at hr
          rw [Bool.and_eq_true] at hr
          exact of_decide_eq_true hr.2
        exact boot_walk a0_0 a0_1 a0_2 a0_0 (a0_1 + 1) a0_2 0 w fun W hB => told60 _ a0_0 a0_1 a0_2 a0_0 (a0_1 + 1) a0_2 0 W hB.lt hR fun W' hb => boot60 _ a0_0 a0_1 a0_2 W' (hB.below hb hB.lt) (beq_eq_false_iff_ne.2 h1) h0 (by omega)
    | false =>
      rw [hr, if_neg (by decide)] at h
      injection h with h; obtain ⟨rfl, rfl, rfl, rfl⟩ := h
      have hR := fun W => hr ▸ right_any a0_0 a0_1 a0_2 W
      exact boot_walk a0_0 a0_1 a0_2 0 0 ⟨#[]⟩ 1 w fun W hB => told60_no _ a0_0 a0_1 a0_2 W hB.lt hR
  · rw [if_neg h0] at h; cases h
theorem trust_Commit.calls (a0_0 : Int) (a0_1 : Int) (a0_2 : ByteArray) (a1 : Int) (r1 : Int) (r2 : Int) (r3 : ByteArray) (r4 : Int) (w : World) (h : trust_Commit.f a0_0 a0_1 a0_2 a1 = some (r1, r2, r3, r4)) :
    Calls Try.prog 41 #[.agg #[.int .u64 a0_0, .int .u64 a0_1, .string a0_2], .int .u64 a1] w fun e w' => e = .returned (.tuple #[.agg #[.int .u64 r1, .int .u64 r2, .string r3], .int .i64 r4]) ∧ Below w.heap.size w w' := by
  unfold trust_Commit.f at h
  cases hr : rightB a0_1 a0_2 with
  | true =>
    rw [hr, if_pos rfl] at h
    have hR := fun W => hr ▸ right_any a0_0 a0_1 a0_2 W
    by_cases h1 : a1 ≤ a0_0
    · rw [if_pos h1] at h
      injection h with h; obtain ⟨rfl, rfl, rfl, rfl⟩ := h
      exact commit_walk a0_0 a0_1 a0_2 a1 0 0 ⟨#[]⟩ 2 w fun W hB hN => told61 _ _ a0_0 a0_1 a0_2 0 0 ⟨#[]⟩ 2 W hB.lt hR fun W' hb => commit61_no _ _ a1 a0_0 a0_1 a0_2 W' (hN.below hb hN.lt) (hB.below hb hB.lt) (decide_eq_true h1)
    · rw [if_neg h1] at h
      injection h with h; obtain ⟨rfl, rfl, rfl, rfl⟩ := h
      exact commit_walk a0_0 a0_1 a0_2 a1 a1 a0_1 a0_2 0 w fun W hB hN => told61 _ _ a0_0 a0_1 a0_2 a1 a0_1 a0_2 0 W hB.lt hR fun W' hb => commit61 _ _ a1 a0_0 a0_1 a0_2 W' (hN.below hb hN.lt) (hB.below hb hB.lt) (decide_eq_false h1)
  | false =>
    rw [hr, if_neg (by decide)] at h
    injection h with h; obtain ⟨rfl, rfl, rfl, rfl⟩ := h
    have hR := fun W => hr ▸ right_any a0_0 a0_1 a0_2 W
    exact commit_walk a0_0 a0_1 a0_2 a1 0 0 ⟨#[]⟩ 1 w fun W hB hN => told61_no _ _ a0_0 a0_1 a0_2 W hB.lt hR
end Go.Proofs.Ytnaidfcehmdmcaa
