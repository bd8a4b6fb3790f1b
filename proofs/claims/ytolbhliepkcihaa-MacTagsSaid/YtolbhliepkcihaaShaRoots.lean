/- SHA-256's numbers: the roots of the first primes: the walk of the range over them. -/
import Derived.Test.YtolbhliepkcihaaShaIter
import Derived.RangeFuncBox
import Derived.Maps.AppendAt
import Derived.Outline
namespace Go.Proofs.Ytolbhliepkcihaa.Sha
open Go.RowKit Go.Shelf Go.Proofs.Ytolbhliepkcihaa.Mem Go.Proofs.Ytolbhliepkcihaa.Until
attribute [local go_sem] Oper.semAt_some
theorem u32_info : (Try.prog.info? 25).map (fun i => (i.zero, i.size, i.bytes)) = some (some (.int .u32 0), 1, 4) := by kernel_rfl
theorem own_slice {w : World} {base : Nat} {e : TypeId} {size n : Nat} {v : Value} {xs : List Value} (h : w.ownsRow base e size v n xs) : ∃ A c, v = .slice A n c := by
  rcases h.2 with ⟨rfl, h0⟩ | ⟨g, cap, cur, rfl, _⟩
  · exact ⟨none, 0, by rw [h0]⟩
  · exact ⟨_, _, rfl⟩
def rootVals (is : Nat → Nat → Bool) (k : Nat) : List Value := (List.range k).map fun i => .int .u32 ((rootN is (primeN i) : Nat) : Int)
theorem rootVals_length (is : Nat → Nat → Bool) (k : Nat) : (rootVals is k).length = k := by simp [rootVals]
theorem rootVals_snoc (is : Nat → Nat → Bool) (k : Nat) : rootVals is k ++ [.int .u32 ((rootN is (primeN k) : Nat) : Int)] = rootVals is (k + 1) := by simp [rootVals, List.range_succ]
theorem primes_val (w : World) : Calls Try.prog 96 #[] w fun e w' => e = .returned (.func (.func 112) #[] #[]) ∧ w' = w := by
  go_enter Try.func96, Try.ntmps96
  go_wp2
  go_ret
  exact ⟨rfl, rfl⟩
set_option maxRecDepth 100000 in
set_option maxHeartbeats 4000000 in
theorem roots_square (many : Nat) (hm : many ≤ 64) (w : World) :
    CallsIn Fence.wide 8 Try.prog 67 #[.int .i64 (many : Int), .func (.func 68) #[] #[]] w fun e w' => ∃ v, e = .returned v ∧ w'.ownsRow w.heap.size 25 1 v many (rootVals sqB many) ∧ Below w.heap.size w w' := by
  refine callsIn_of_wp_marks Try.func67 rfl trivial ?_ rfl
  simp only [Try.ntmps67, List.size_toArray, List.length_cons, List.length_nil, Nat.reduceAdd, Nat.reduceSub, Array.replicate_succ, Array.replicate_zero, List.push_toArray, List.append_toArray, List.nil_append, List.cons_append]
  gi_wp2_with (refine ⟨trivial, ?_⟩; gi_at_call 96; refine (callsIn_wide.2 (primes_val _)).mono ?_; rintro e w' ⟨rfl, rfl⟩)
  obtain ⟨g, hg⟩ : ∃ g, w.heap.size = g := ⟨_, rfl⟩
  rw [hg]
  have X0 : Boxed (((w.alloc (.cells #[.int .i64 (many : Int)] 3)).alloc (.cells #[.func (.func 68) #[] #[]] 81)).alloc (.cells #[.slice none 0 0] 22)) g 3 (.int .i64 (many : Int)) := by
    have := ((Boxed.new w 3 (.int .i64 (many : Int))).alloc (.cells #[.func (.func 68) #[] #[]] 81)).alloc (.cells #[.slice none 0 0] 22)
    rwa [hg] at this
  have X1 : Boxed (((w.alloc (.cells #[.int .i64 (many : Int)] 3)).alloc (.cells #[.func (.func 68) #[] #[]] 81)).alloc (.cells #[.slice none 0 0] 22)) (g + 1) 81 (.func (.func 68) #[] #[]) := by
    have := (Boxed.new (w.alloc (.cells #[.int .i64 (many : Int)] 3)) 81 (.func (.func 68) #[] #[])).alloc (.cells #[.slice none 0 0] 22)
    rwa [World.size_alloc, hg] at this
  have X2 : Boxed (((w.alloc (.cells #[.int .i64 (many : Int)] 3)).alloc (.cells #[.func (.func 68) #[] #[]] 81)).alloc (.cells #[.slice none 0 0] 22)) (g + 1 + 1) 22 (.slice none 0 0) := by
    have := Boxed.new ((w.alloc (.cells #[.int .i64 (many : Int)] 3)).alloc (.cells #[.func (.func 68) #[] #[]] 81)) 22 (.slice none 0 0)
    rwa [World.size_alloc, World.size_alloc, hg] at this
  have B0 : Below g w (((w.alloc (.cells #[.int .i64 (many : Int)] 3)).alloc (.cells #[.func (.func 68) #[] #[]] 81)).alloc (.cells #[.slice none 0 0] 22)) := by
    have := (((Below.refl w.heap.size w).alloc (Nat.le_refl _) (.cells #[.int .i64 (many : Int)] 3)).alloc (by simp) (.cells #[.func (.func 68) #[] #[]] 81)).alloc (by simp; omega) (.cells #[.slice none 0 0] 22)
    rwa [hg] at this
  have hz : (((w.alloc (.cells #[.int .i64 (many : Int)] 3)).alloc (.cells #[.func (.func 68) #[] #[]] 81)).alloc (.cells #[.slice none 0 0] 22)).heap.size = g + 3 := by simp [hg]
  have hW : ∃ W0, (((w.alloc (.cells #[.int .i64 (many : Int)] 3)).alloc (.cells #[.func (.func 68) #[] #[]] 81)).alloc (.cells #[.slice none 0 0] 22)) = W0 := ⟨_, rfl⟩
  obtain ⟨W0, hW⟩ := hW
  rw [hW] at X0 X1 X2 B0 hz ⊢
  clear hW
  have hgw : g ≤ w.heap.size := by omega
  refine wpIn_until (n := 8) (N := many + 1) (n₀ := g) rfl (by decide) (gf := 112) (lb := #[]) rfl trivial (enters_of Try.func112 (by kernel_rfl) rfl)
    (primes_iter Fence.wide 7 trivial rfl (by decide) (many + 1) g (by omega)) (by omega) rfl
    (fun k W => ((k ≤ many ∧ Boxed W g 3 (.int .i64 (many : Int))) ∧ (Boxed W (g + 1) 81 (.func (.func 68) #[] #[]) ∧ ∃ v, Boxed W (g + 1 + 1) 22 v ∧ W.ownsRow g 25 1 v k (rootVals sqB k) ∧ True)) ∧ Below g w W)
    (fun id W => (id = 0 ∧ ∃ v, Boxed W (g + 1 + 1) 22 v ∧ W.ownsRow g 25 1 v many (rootVals sqB many) ∧ True) ∧ Below g w W)
    (OwnFrom.and (OwnFrom.and (OwnFrom.and (ownFrom_pure _ _) (Own.from (boxed_own _ _ _) _)) (OwnFrom.and (Own.from (boxed_own _ _ _) _) (Own.from (holdsRow_own g (g + 1 + 1) 22 25 1 (fun k => k) (fun k => rootVals sqB k) (fun _ _ => True)) _))) (ownFrom_below (by omega) (by omega)))
    (OwnFrom.and (OwnFrom.and (ownFrom_pure _ _) (Own.from (holdsRow_own g (g + 1 + 1) 22 25 1 (fun _ => many) (fun _ => rootVals sqB many) (fun _ _ => True)) _)) (ownFrom_below (by omega) (by omega)))
    (fun k W h => by have := h.1.1.1; omega)
    ⟨⟨⟨Nat.zero_le _, X0⟩, X1, _, X2, World.ownsRow_nil _ _ _ _, trivial⟩, B0⟩
    (fun k => { tmps := #[.int .i64 (many : Int), .func (.func 68) #[] #[], .pointer (some ⟨g, 0, none⟩), .pointer (some ⟨g + 1, 0, none⟩), .slice none 0 0, .pointer (some ⟨g + 1 + 1, 0, none⟩), .int .u64 ((primeN k : Nat) : Int), .func (.func 112) #[] #[], .int .u64 ((primeN k : Nat) : Int), undef, undef, undef, undef, undef, undef, undef, undef, undef, undef, undef], defers := [] }) ?assign ?body ?stop
  case assign =>
    intro l k W K hK
    gi_wp2
    exact hK
  case body =>
    rintro l k W ⟨⟨⟨hk, x0⟩, x1, v, x2, hrow, _⟩, hB⟩
    obtain ⟨A, c, rfl⟩ := own_slice hrow
    have c0 := x0.cell
    have c1 := x1.cell
    have c2 := x2.cell
    by_cases hkm : k = many
    · subst hkm
      have t1 : ((k : Int) == (k : Int)) = true := by simp
      gi_wp2
      exact ⟨KeepsFrom.refl _ _, ⟨rfl, _, x2, hrow, trivial⟩, hB⟩
    · have t1 : ((k : Int) == (many : Int)) = false := by rw [beq_eq_false_iff_ne]; omega
      have hlt : k < many := by omega
      clear hkm
      obtain ⟨i0, hi, hz0, hz1, hz2⟩ := info_parts u32_info
      obtain ⟨r, hr⟩ : ∃ r, rootN sqB (primeN k) = r := ⟨_, rfl⟩
      have hroot := fun W : World => root_square (primeN k) W
      rw [hr] at hroot
      have hsn := rootVals_snoc sqB k
      rw [hr] at hsn
      have HROOT := Lib.hid hroot
      have HSN := Lib.hid hsn
      clear hroot hsn hr
      have hmix : Try.prog.follows .mixedOrders = true := by kernel_rfl
      have hgW : g ≤ W.heap.size := by have := x0.lt; omega
      obtain ⟨v', w', hrun, hown', hgrow, _, hat⟩ := run_append_own_at (P := Try.prog) ((W.alloc (.cells #[.int .u32 (r : Int)] 25)).drew) g 22 22 25 i0 (.int .u32 0) 1 4 Try.underlying22 hi hz0 hz1 hz2 rfl (by decide) (.slice A k c) k _ ((hrow.alloc _).drew) ⟨W.heap.size, 0, none⟩ 1 1 [.int .u32 (r : Int)] rfl (fun j u h => cell_one_new W _ _ j u h) (by simp [Value.oneCell']) (by simp only [maxLen]; omega) (by omega) (by simp; omega)
      replace hgrow : (W.alloc (.cells #[.int .u32 (r : Int)] 25)).grownBy w' (Value.slice A k c).ownBlock := ⟨hgrow.os, hgrow.tape, hgrow.output, hgrow.size, hgrow.block⟩
      obtain ⟨v1, v2, r2, k2, b2⟩ := x2.appended (by decide) hrow hgW (by omega) hown' hgrow
      have z0 := ((x0.alloc _).kept hgrow (x0.not_row (by decide) hrow)).other (B' := g + 1 + 1) (by omega) v'
      have z1 := ((x1.alloc _).kept hgrow (x1.not_row (by decide) hrow)).other (B' := g + 1 + 1) (by omega) v'
      have d1 := v1.cell
      have d2 := v1.frozen
      obtain ⟨A', c', rfl⟩ := own_slice hown'
      gi_wp2
      have c2a := (x2.alloc (.cells #[.int .u32 (r : Int)] 25)).cell
      refine wpIn_region_any hmix ?_
      change wpAnyIn _ _ _ _ _ _ _ _ _ (World.drew _)
      refine wpAnyIn_ready (rs := [0, 1, 2]) (by kernel_rfl) (by simp) ?_
      refine AllReadyIn.cons rfl (fun K hK => ?_) ?_
      · go_simp
        refine hK _ _ ?_
        clear hK K
        refine wpAnyIn_ready (rs := [1, 2]) (by kernel_rfl) (by simp) ?_
        refine AllReadyIn.cons rfl (fun K hK => ?_) ?_
        · go_simp
          refine hK _ _ ?_
          clear hK K
          refine wpAnyIn_ready (rs := [2]) (by kernel_rfl) (by simp) ?_
          refine AllReadyIn.cons rfl (fun K hK => ?_) ?_
          · go_simp
            refine hK _ _ ?_
            clear hK K
            refine wpAnyIn_ready (rs := [3]) (by kernel_rfl) (by simp) ?_
            refine AllReadyIn.cons rfl (fun K hK => ?_) ?_
            · go_simp
              refine ⟨trivial, ?_⟩
              refine (CallsIn.inRound l (callsIn_wide.2 (HROOT.out _))).mono ?_
              rintro e w5 ⟨rfl, rfl⟩
              go_simp
              refine hK _ _ ?_
              clear hK K
              refine wpAnyIn_ready (rs := [4]) (by kernel_rfl) (by simp) ?_
              refine AllReadyIn.cons rfl (fun K hK => ?_) ?_
              · go_simp
                refine hK _ _ ?_
                clear hK K
                refine wpAnyIn_ready (rs := [5]) (by kernel_rfl) (by simp) ?_
                refine AllReadyIn.cons rfl (fun K hK => ?_) ?_
                · rw [if_pos (by simp [Region.wanted])]
                  unfold Oper.wpIn
                  refine ⟨by simp [Oper.about, resolve, Target.leads, Sem.run_pure], ?_⟩
                  rw [Oper.semAt_plain _ _ _ (by intro c hc; cases hc)]
                  simp [execOp, resolve, invoke, builtin, hrun, Result.andThen, Act.eval]
                  refine hK _ _ ?_
                  clear hK K
                  refine wpAnyIn_ready (rs := [6]) (by kernel_rfl) (by simp) ?_
                  refine AllReadyIn.cons rfl (fun K hK => ?_) ?_
                  · go_simp
                    refine hK _ _ ?_
                    clear hK K
                    refine wpAnyIn_done (by kernel_rfl) ?_ _
                    exact ⟨k2.from _, b2, ⟨⟨by omega, z0⟩, z1, _, v2, by rw [← HSN.out]; exact r2, trivial⟩, hB.trans b2⟩
                  exact AllReadyIn.nil
                exact AllReadyIn.nil
              exact AllReadyIn.nil
            exact AllReadyIn.nil
          exact AllReadyIn.nil
        refine AllReadyIn.cons rfl (fun K hK => ?_) ?_
        · go_simp
          refine hK _ _ ?_
          clear hK K
          refine wpAnyIn_ready (rs := [1]) (by kernel_rfl) (by simp) ?_
          refine AllReadyIn.cons rfl (fun K hK => ?_) ?_
          · go_simp
            refine hK _ _ ?_
            clear hK K
            refine wpAnyIn_ready (rs := [3]) (by kernel_rfl) (by simp) ?_
            refine AllReadyIn.cons rfl (fun K hK => ?_) ?_
            · go_simp
              refine ⟨trivial, ?_⟩
              refine (CallsIn.inRound l (callsIn_wide.2 (HROOT.out _))).mono ?_
              rintro e w5 ⟨rfl, rfl⟩
              go_simp
              refine hK _ _ ?_
              clear hK K
              refine wpAnyIn_ready (rs := [4]) (by kernel_rfl) (by simp) ?_
              refine AllReadyIn.cons rfl (fun K hK => ?_) ?_
              · go_simp
                refine hK _ _ ?_
                clear hK K
                refine wpAnyIn_ready (rs := [5]) (by kernel_rfl) (by simp) ?_
                refine AllReadyIn.cons rfl (fun K hK => ?_) ?_
                · rw [if_pos (by simp [Region.wanted])]
                  unfold Oper.wpIn
                  refine ⟨by simp [Oper.about, resolve, Target.leads, Sem.run_pure], ?_⟩
                  rw [Oper.semAt_plain _ _ _ (by intro c hc; cases hc)]
                  simp [execOp, resolve, invoke, builtin, hrun, Result.andThen, Act.eval]
                  refine hK _ _ ?_
                  clear hK K
                  refine wpAnyIn_ready (rs := [6]) (by kernel_rfl) (by simp) ?_
                  refine AllReadyIn.cons rfl (fun K hK => ?_) ?_
                  · go_simp
                    refine hK _ _ ?_
                    clear hK K
                    refine wpAnyIn_done (by kernel_rfl) ?_ _
                    exact ⟨k2.from _, b2, ⟨⟨by omega, z0⟩, z1, _, v2, by rw [← HSN.out]; exact r2, trivial⟩, hB.trans b2⟩
                  exact AllReadyIn.nil
                exact AllReadyIn.nil
              exact AllReadyIn.nil
            exact AllReadyIn.nil
          exact AllReadyIn.nil
        exact AllReadyIn.nil
      refine AllReadyIn.cons rfl (fun K hK => ?_) ?_
      · go_simp
        refine hK _ _ ?_
        clear hK K
        refine wpAnyIn_ready (rs := [0, 2]) (by kernel_rfl) (by simp) ?_
        refine AllReadyIn.cons rfl (fun K hK => ?_) ?_
        · go_simp
          refine hK _ _ ?_
          clear hK K
          refine wpAnyIn_ready (rs := [2]) (by kernel_rfl) (by simp) ?_
          refine AllReadyIn.cons rfl (fun K hK => ?_) ?_
          · go_simp
            refine hK _ _ ?_
            clear hK K
            refine wpAnyIn_ready (rs := [3]) (by kernel_rfl) (by simp) ?_
            refine AllReadyIn.cons rfl (fun K hK => ?_) ?_
            · go_simp
              refine ⟨trivial, ?_⟩
              refine (CallsIn.inRound l (callsIn_wide.2 (HROOT.out _))).mono ?_
              rintro e w5 ⟨rfl, rfl⟩
              go_simp
              refine hK _ _ ?_
              clear hK K
              refine wpAnyIn_ready (rs := [4]) (by kernel_rfl) (by simp) ?_
              refine AllReadyIn.cons rfl (fun K hK => ?_) ?_
              · go_simp
                refine hK _ _ ?_
                clear hK K
                refine wpAnyIn_ready (rs := [5]) (by kernel_rfl) (by simp) ?_
                refine AllReadyIn.cons rfl (fun K hK => ?_) ?_
                · rw [if_pos (by simp [Region.wanted])]
                  unfold Oper.wpIn
                  refine ⟨by simp [Oper.about, resolve, Target.leads, Sem.run_pure], ?_⟩
                  rw [Oper.semAt_plain _ _ _ (by intro c hc; cases hc)]
                  simp [execOp, resolve, invoke, builtin, hrun, Result.andThen, Act.eval]
                  refine hK _ _ ?_
                  clear hK K
                  refine wpAnyIn_ready (rs := [6]) (by kernel_rfl) (by simp) ?_
                  refine AllReadyIn.cons rfl (fun K hK => ?_) ?_
                  · go_simp
                    refine hK _ _ ?_
                    clear hK K
                    refine wpAnyIn_done (by kernel_rfl) ?_ _
                    exact ⟨k2.from _, b2, ⟨⟨by omega, z0⟩, z1, _, v2, by rw [← HSN.out]; exact r2, trivial⟩, hB.trans b2⟩
                  exact AllReadyIn.nil
                exact AllReadyIn.nil
              exact AllReadyIn.nil
            exact AllReadyIn.nil
          exact AllReadyIn.nil
        refine AllReadyIn.cons rfl (fun K hK => ?_) ?_
        · go_simp
          refine hK _ _ ?_
          clear hK K
          refine wpAnyIn_ready (rs := [0, 3]) (by kernel_rfl) (by simp) ?_
          refine AllReadyIn.cons rfl (fun K hK => ?_) ?_
          · go_simp
            refine hK _ _ ?_
            clear hK K
            refine wpAnyIn_ready (rs := [3]) (by kernel_rfl) (by simp) ?_
            refine AllReadyIn.cons rfl (fun K hK => ?_) ?_
            · go_simp
              refine ⟨trivial, ?_⟩
              refine (CallsIn.inRound l (callsIn_wide.2 (HROOT.out _))).mono ?_
              rintro e w5 ⟨rfl, rfl⟩
              go_simp
              refine hK _ _ ?_
              clear hK K
              refine wpAnyIn_ready (rs := [4]) (by kernel_rfl) (by simp) ?_
              refine AllReadyIn.cons rfl (fun K hK => ?_) ?_
              · go_simp
                refine hK _ _ ?_
                clear hK K
                refine wpAnyIn_ready (rs := [5]) (by kernel_rfl) (by simp) ?_
                refine AllReadyIn.cons rfl (fun K hK => ?_) ?_
                · rw [if_pos (by simp [Region.wanted])]
                  unfold Oper.wpIn
                  refine ⟨by simp [Oper.about, resolve, Target.leads, Sem.run_pure], ?_⟩
                  rw [Oper.semAt_plain _ _ _ (by intro c hc; cases hc)]
                  simp [execOp, resolve, invoke, builtin, hrun, Result.andThen, Act.eval]
                  refine hK _ _ ?_
                  clear hK K
                  refine wpAnyIn_ready (rs := [6]) (by kernel_rfl) (by simp) ?_
                  refine AllReadyIn.cons rfl (fun K hK => ?_) ?_
                  · go_simp
                    refine hK _ _ ?_
                    clear hK K
                    refine wpAnyIn_done (by kernel_rfl) ?_ _
                    exact ⟨k2.from _, b2, ⟨⟨by omega, z0⟩, z1, _, v2, by rw [← HSN.out]; exact r2, trivial⟩, hB.trans b2⟩
                  exact AllReadyIn.nil
                exact AllReadyIn.nil
              exact AllReadyIn.nil
            exact AllReadyIn.nil
          refine AllReadyIn.cons rfl (fun K hK => ?_) ?_
          · go_simp
            refine ⟨trivial, ?_⟩
            refine (CallsIn.inRound l (callsIn_wide.2 (HROOT.out _))).mono ?_
            rintro e w5 ⟨rfl, rfl⟩
            go_simp
            refine hK _ _ ?_
            clear hK K
            refine wpAnyIn_ready (rs := [0, 4]) (by kernel_rfl) (by simp) ?_
            refine AllReadyIn.cons rfl (fun K hK => ?_) ?_
            · go_simp
              refine hK _ _ ?_
              clear hK K
              refine wpAnyIn_ready (rs := [4]) (by kernel_rfl) (by simp) ?_
              refine AllReadyIn.cons rfl (fun K hK => ?_) ?_
              · go_simp
                refine hK _ _ ?_
                clear hK K
                refine wpAnyIn_ready (rs := [5]) (by kernel_rfl) (by simp) ?_
                refine AllReadyIn.cons rfl (fun K hK => ?_) ?_
                · rw [if_pos (by simp [Region.wanted])]
                  unfold Oper.wpIn
                  refine ⟨by simp [Oper.about, resolve, Target.leads, Sem.run_pure], ?_⟩
                  rw [Oper.semAt_plain _ _ _ (by intro c hc; cases hc)]
                  simp [execOp, resolve, invoke, builtin, hrun, Result.andThen, Act.eval]
                  refine hK _ _ ?_
                  clear hK K
                  refine wpAnyIn_ready (rs := [6]) (by kernel_rfl) (by simp) ?_
                  refine AllReadyIn.cons rfl (fun K hK => ?_) ?_
                  · go_simp
                    refine hK _ _ ?_
                    clear hK K
                    refine wpAnyIn_done (by kernel_rfl) ?_ _
                    exact ⟨k2.from _, b2, ⟨⟨by omega, z0⟩, z1, _, v2, by rw [← HSN.out]; exact r2, trivial⟩, hB.trans b2⟩
                  exact AllReadyIn.nil
                exact AllReadyIn.nil
              exact AllReadyIn.nil
            refine AllReadyIn.cons rfl (fun K hK => ?_) ?_
            · go_simp
              refine hK _ _ ?_
              clear hK K
              refine wpAnyIn_ready (rs := [0]) (by kernel_rfl) (by simp) ?_
              refine AllReadyIn.cons rfl (fun K hK => ?_) ?_
              · go_simp
                refine hK _ _ ?_
                clear hK K
                refine wpAnyIn_ready (rs := [5]) (by kernel_rfl) (by simp) ?_
                refine AllReadyIn.cons rfl (fun K hK => ?_) ?_
                · rw [if_pos (by simp [Region.wanted])]
                  unfold Oper.wpIn
                  refine ⟨by simp [Oper.about, resolve, Target.leads, Sem.run_pure], ?_⟩
                  rw [Oper.semAt_plain _ _ _ (by intro c hc; cases hc)]
                  simp [execOp, resolve, invoke, builtin, hrun, Result.andThen, Act.eval]
                  refine hK _ _ ?_
                  clear hK K
                  refine wpAnyIn_ready (rs := [6]) (by kernel_rfl) (by simp) ?_
                  refine AllReadyIn.cons rfl (fun K hK => ?_) ?_
                  · go_simp
                    refine hK _ _ ?_
                    clear hK K
                    refine wpAnyIn_done (by kernel_rfl) ?_ _
                    exact ⟨k2.from _, b2, ⟨⟨by omega, z0⟩, z1, _, v2, by rw [← HSN.out]; exact r2, trivial⟩, hB.trans b2⟩
                  exact AllReadyIn.nil
                exact AllReadyIn.nil
              exact AllReadyIn.nil
            exact AllReadyIn.nil
          exact AllReadyIn.nil
        exact AllReadyIn.nil
      refine AllReadyIn.cons rfl (fun K hK => ?_) ?_
      · go_simp
        refine hK _ _ ?_
        clear hK K
        refine wpAnyIn_ready (rs := [0, 1]) (by kernel_rfl) (by simp) ?_
        refine AllReadyIn.cons rfl (fun K hK => ?_) ?_
        · go_simp
          refine hK _ _ ?_
          clear hK K
          refine wpAnyIn_ready (rs := [1]) (by kernel_rfl) (by simp) ?_
          refine AllReadyIn.cons rfl (fun K hK => ?_) ?_
          · go_simp
            refine hK _ _ ?_
            clear hK K
            refine wpAnyIn_ready (rs := [3]) (by kernel_rfl) (by simp) ?_
            refine AllReadyIn.cons rfl (fun K hK => ?_) ?_
            · go_simp
              refine ⟨trivial, ?_⟩
              refine (CallsIn.inRound l (callsIn_wide.2 (HROOT.out _))).mono ?_
              rintro e w5 ⟨rfl, rfl⟩
              go_simp
              refine hK _ _ ?_
              clear hK K
              refine wpAnyIn_ready (rs := [4]) (by kernel_rfl) (by simp) ?_
              refine AllReadyIn.cons rfl (fun K hK => ?_) ?_
              · go_simp
                refine hK _ _ ?_
                clear hK K
                refine wpAnyIn_ready (rs := [5]) (by kernel_rfl) (by simp) ?_
                refine AllReadyIn.cons rfl (fun K hK => ?_) ?_
                · rw [if_pos (by simp [Region.wanted])]
                  unfold Oper.wpIn
                  refine ⟨by simp [Oper.about, resolve, Target.leads, Sem.run_pure], ?_⟩
                  rw [Oper.semAt_plain _ _ _ (by intro c hc; cases hc)]
                  simp [execOp, resolve, invoke, builtin, hrun, Result.andThen, Act.eval]
                  refine hK _ _ ?_
                  clear hK K
                  refine wpAnyIn_ready (rs := [6]) (by kernel_rfl) (by simp) ?_
                  refine AllReadyIn.cons rfl (fun K hK => ?_) ?_
                  · go_simp
                    refine hK _ _ ?_
                    clear hK K
                    refine wpAnyIn_done (by kernel_rfl) ?_ _
                    exact ⟨k2.from _, b2, ⟨⟨by omega, z0⟩, z1, _, v2, by rw [← HSN.out]; exact r2, trivial⟩, hB.trans b2⟩
                  exact AllReadyIn.nil
                exact AllReadyIn.nil
              exact AllReadyIn.nil
            exact AllReadyIn.nil
          exact AllReadyIn.nil
        refine AllReadyIn.cons rfl (fun K hK => ?_) ?_
        · go_simp
          refine hK _ _ ?_
          clear hK K
          refine wpAnyIn_ready (rs := [0, 3]) (by kernel_rfl) (by simp) ?_
          refine AllReadyIn.cons rfl (fun K hK => ?_) ?_
          · go_simp
            refine hK _ _ ?_
            clear hK K
            refine wpAnyIn_ready (rs := [3]) (by kernel_rfl) (by simp) ?_
            refine AllReadyIn.cons rfl (fun K hK => ?_) ?_
            · go_simp
              refine ⟨trivial, ?_⟩
              refine (CallsIn.inRound l (callsIn_wide.2 (HROOT.out _))).mono ?_
              rintro e w5 ⟨rfl, rfl⟩
              go_simp
              refine hK _ _ ?_
              clear hK K
              refine wpAnyIn_ready (rs := [4]) (by kernel_rfl) (by simp) ?_
              refine AllReadyIn.cons rfl (fun K hK => ?_) ?_
              · go_simp
                refine hK _ _ ?_
                clear hK K
                refine wpAnyIn_ready (rs := [5]) (by kernel_rfl) (by simp) ?_
                refine AllReadyIn.cons rfl (fun K hK => ?_) ?_
                · rw [if_pos (by simp [Region.wanted])]
                  unfold Oper.wpIn
                  refine ⟨by simp [Oper.about, resolve, Target.leads, Sem.run_pure], ?_⟩
                  rw [Oper.semAt_plain _ _ _ (by intro c hc; cases hc)]
                  simp [execOp, resolve, invoke, builtin, hrun, Result.andThen, Act.eval]
                  refine hK _ _ ?_
                  clear hK K
                  refine wpAnyIn_ready (rs := [6]) (by kernel_rfl) (by simp) ?_
                  refine AllReadyIn.cons rfl (fun K hK => ?_) ?_
                  · go_simp
                    refine hK _ _ ?_
                    clear hK K
                    refine wpAnyIn_done (by kernel_rfl) ?_ _
                    exact ⟨k2.from _, b2, ⟨⟨by omega, z0⟩, z1, _, v2, by rw [← HSN.out]; exact r2, trivial⟩, hB.trans b2⟩
                  exact AllReadyIn.nil
                exact AllReadyIn.nil
              exact AllReadyIn.nil
            exact AllReadyIn.nil
          refine AllReadyIn.cons rfl (fun K hK => ?_) ?_
          · go_simp
            refine ⟨trivial, ?_⟩
            refine (CallsIn.inRound l (callsIn_wide.2 (HROOT.out _))).mono ?_
            rintro e w5 ⟨rfl, rfl⟩
            go_simp
            refine hK _ _ ?_
            clear hK K
            refine wpAnyIn_ready (rs := [0, 4]) (by kernel_rfl) (by simp) ?_
            refine AllReadyIn.cons rfl (fun K hK => ?_) ?_
            · go_simp
              refine hK _ _ ?_
              clear hK K
              refine wpAnyIn_ready (rs := [4]) (by kernel_rfl) (by simp) ?_
              refine AllReadyIn.cons rfl (fun K hK => ?_) ?_
              · go_simp
                refine hK _ _ ?_
                clear hK K
                refine wpAnyIn_ready (rs := [5]) (by kernel_rfl) (by simp) ?_
                refine AllReadyIn.cons rfl (fun K hK => ?_) ?_
                · rw [if_pos (by simp [Region.wanted])]
                  unfold Oper.wpIn
                  refine ⟨by simp [Oper.about, resolve, Target.leads, Sem.run_pure], ?_⟩
                  rw [Oper.semAt_plain _ _ _ (by intro c hc; cases hc)]
                  simp [execOp, resolve, invoke, builtin, hrun, Result.andThen, Act.eval]
                  refine hK _ _ ?_
                  clear hK K
                  refine wpAnyIn_ready (rs := [6]) (by kernel_rfl) (by simp) ?_
                  refine AllReadyIn.cons rfl (fun K hK => ?_) ?_
                  · go_simp
                    refine hK _ _ ?_
                    clear hK K
                    refine wpAnyIn_done (by kernel_rfl) ?_ _
                    exact ⟨k2.from _, b2, ⟨⟨by omega, z0⟩, z1, _, v2, by rw [← HSN.out]; exact r2, trivial⟩, hB.trans b2⟩
                  exact AllReadyIn.nil
                exact AllReadyIn.nil
              exact AllReadyIn.nil
            refine AllReadyIn.cons rfl (fun K hK => ?_) ?_
            · go_simp
              refine hK _ _ ?_
              clear hK K
              refine wpAnyIn_ready (rs := [0]) (by kernel_rfl) (by simp) ?_
              refine AllReadyIn.cons rfl (fun K hK => ?_) ?_
              · go_simp
                refine hK _ _ ?_
                clear hK K
                refine wpAnyIn_ready (rs := [5]) (by kernel_rfl) (by simp) ?_
                refine AllReadyIn.cons rfl (fun K hK => ?_) ?_
                · rw [if_pos (by simp [Region.wanted])]
                  unfold Oper.wpIn
                  refine ⟨by simp [Oper.about, resolve, Target.leads, Sem.run_pure], ?_⟩
                  rw [Oper.semAt_plain _ _ _ (by intro c hc; cases hc)]
                  simp [execOp, resolve, invoke, builtin, hrun, Result.andThen, Act.eval]
                  refine hK _ _ ?_
                  clear hK K
                  refine wpAnyIn_ready (rs := [6]) (by kernel_rfl) (by simp) ?_
                  refine AllReadyIn.cons rfl (fun K hK => ?_) ?_
                  · go_simp
                    refine hK _ _ ?_
                    clear hK K
                    refine wpAnyIn_done (by kernel_rfl) ?_ _
                    exact ⟨k2.from _, b2, ⟨⟨by omega, z0⟩, z1, _, v2, by rw [← HSN.out]; exact r2, trivial⟩, hB.trans b2⟩
                  exact AllReadyIn.nil
                exact AllReadyIn.nil
              exact AllReadyIn.nil
            exact AllReadyIn.nil
          exact AllReadyIn.nil
        exact AllReadyIn.nil
      exact AllReadyIn.nil
  case stop =>
    rintro D id W hD ⟨⟨rfl, v, x2, hrow, _⟩, hB⟩ hK
    have c2 := x2.cell
    gi_wp2
    refine ⟨by simp, .inl ⟨_, _, rfl, run_takeDeferred hK, ?_⟩⟩
    exact ⟨_, results_tmp rfl _ _ _, _, rfl, by rw [hg]; exact ownsRow_putObj hrow _ hK rfl, by rw [hg]; exact hB.trans (belowK_b (w := W0) (n₀ := g) (by omega) W D _ _ (by omega) hK rfl rfl)⟩
end Go.Proofs.Ytolbhliepkcihaa.Sha
